/-
  Joined: TabP, Rep. Nothing is proved here of a statement.
-/
import Derived.Test.YtpdghiplnlhnfaaGreatMO
import Derived.Test.YtpdghiplnlhnfaaGreatNA
import Derived.Test.YtpdghiplnlhnfaaGreatMK
namespace Go.Proofs.YtpdghiplnlhnfaaGreat.Ax
set_option linter.unusedSimpArgs false
set_option linter.unusedVariables false
open Go Go.Proofs
abbrev Mat := List (List Int)
def matAt (D : Mat) (a b : Nat) : Int := (D.getD a []).getD b 0
def matSet (D : Mat) (a b : Nat) (n : Int) : Mat := D.set a ((D.getD a []).set b n)
def nearP (D : Mat) (a b : Nat) (n : Int) : Mat := if matAt D a b = -1 ∨ n < matAt D a b then matSet D a b n else D
def rowP (n i : Nat) : List Int := (List.replicate n (-1)).set i 0
def matP0 (n : Nat) : Mat := (List.range n).map (rowP n)
def wayP (D : Mat) (w : Way) : Mat := nearP (nearP D w.1.toNat w.2.1.toNat w.2.2) w.2.1.toNat w.1.toNat w.2.2
def viaB (b y : Nat) (a : Nat) (D : Mat) : Mat := if matAt D y b ≠ -1 then nearP D a b (wr (matAt D a y + matAt D y b)) else D
def viaA (n y : Nat) (D : Mat) (a : Nat) : Mat := if matAt D a y = -1 then D else (List.range n).foldl (fun D b => viaB b y a D) D
def viaY (n : Nat) (D : Mat) (y : Nat) : Mat := (List.range n).foldl (viaA n y) D
def tableP (s : Setup) : Mat := (List.range s.places.toNat).foldl (viaY s.places.toNat) (s.ways.foldl wayP (matP0 s.places.toNat))
/-- So many rows of so many. -/
def Sq (n : Nat) (D : Mat) : Prop := D.length = n ∧ ∀ r ∈ D, r.length = n
theorem sq_row {n : Nat} {D : Mat} (h : Sq n D) {a : Nat} (ha : a < n) : ∃ r, D[a]? = some r ∧ D.getD a [] = r ∧ r.length = n := by
  have hl : a < D.length := by rw [h.1]; exact ha
  exact ⟨D[a], List.getElem?_eq_getElem hl, by rw [List.getD_eq_getElem?_getD, List.getElem?_eq_getElem hl]; rfl, h.2 _ (List.getElem_mem hl)⟩
theorem sq_set {n : Nat} {D : Mat} (h : Sq n D) (a b : Nat) (v : Int) : Sq n (matSet D a b v) := by
  refine ⟨by simp [matSet, h.1], fun r hr => ?_⟩
  rcases List.mem_or_eq_of_mem_set hr with hr | rfl
  · exact h.2 r hr
  · rw [List.length_set]
    by_cases ha : a < n
    · obtain ⟨r, _, h2, h3⟩ := sq_row h ha
      rw [h2]; exact h3
    · have hD : D.set a ((D.getD a []).set b v) = D := List.set_eq_of_length_le (by rw [h.1]; omega)
      have hr2 : (D.getD a []).set b v ∈ D := by
        have : (D.getD a []).set b v ∈ D.set a ((D.getD a []).set b v) := hr
        rwa [hD] at this
      have := h.2 _ hr2
      rwa [List.length_set] at this
theorem sq_near {n : Nat} {D : Mat} (h : Sq n D) (a b : Nat) (v : Int) : Sq n (nearP D a b v) := by
  unfold nearP
  split
  · exact sq_set h a b v
  · exact h
theorem sq_mat0 (n : Nat) : Sq n (matP0 n) := ⟨by simp [matP0], fun r hr => by
  obtain ⟨i, _, rfl⟩ := List.mem_map.1 hr
  simp [rowP]⟩
end Go.Proofs.YtpdghiplnlhnfaaGreat.Ax

namespace Go.Proofs.YtpdghiplnlhnfaaGreat.Ax
set_option linter.unusedSimpArgs false
set_option linter.unusedVariables false
open Go Go.Proofs
set_option maxRecDepth 100000
set_option linter.unusedSimpArgs false
set_option linter.unusedVariables false
attribute [go_sem] ty162 ty27 ty3
def repRow (v : Int) (m k : Nat) : List (List AV) := List.replicate k [i64 v] ++ List.replicate (m - k) [i64 0]
theorem repRow_len {v : Int} {m k : Nat} (h : k ≤ m) : (repRow v m k).length = m := by
  simp [repRow]; omega
theorem repRow_all {v : Int} {m : Nat} : repRow v m m = List.replicate m [i64 v] := by simp [repRow]
theorem repRow_lay {v : Int} {m k j : Nat} (h : k + j ≤ m) : layRows (repRow v m k) k (List.replicate j [i64 v]) = repRow v m (k + j) := by
  unfold layRows repRow
  rw [List.take_append_of_le_length (by simp), List.take_of_length_le (by simp), List.length_replicate, List.drop_append, List.drop_eq_nil_of_le (by simp), List.length_replicate, List.drop_replicate, List.nil_append, List.replicate_append_replicate, show m - k - (k + j - k) = m - (k + j) by omega]
theorem c109 (h : List Ob) (x : AV) (v : Int) (m : Nat) (hx : SlOf h x 1 [[i64 v]]) (hm : 1 ≤ m) (hm2 : m ≤ 65536) :
    ACalls Tryz.prog 146 [x, i64 m] h fun r h' => ∃ L id st, h' = h ++ L ∧ NoRes L ∧ h.length ≤ id ∧ r = .tl id st ∧ h'[id]? = some (.row 3 1 (List.replicate m [i64 v]) st) := by
  have hex : ∃ r h', (∃ L id st, h' = h ++ L ∧ NoRes L ∧ h.length ≤ id ∧ r = AV.tl id st ∧ h'[id]? = some (.row 3 1 (List.replicate m [i64 v]) st)) ∧ ResK h h' :=
    ⟨_, _, ⟨[.row 3 1 (List.replicate m [i64 v]) 0], h.length, 0, rfl, noRes1 rfl, Nat.le_refl _, rfl, by rw [get_new0 rfl]; rfl⟩, resK_app⟩
  have d0 : decide ((m : Int) < 0) = false := by simp
  have w1 : IntKind.wrap .u64 (m : Int) = (m : Int) := by
    simp [IntKind.wrap, IntKind.bits, IntKind.signed]; omega
  have w2 : IntKind.wrap .i64 (m : Int) = (m : Int) := wr_fit (by unfold Fit; omega)
  have d1 : decide ((m : Int) > 9223372036854775807) = false := by simp; omega
  have hb : (m : Int) * 9 ≤ 140737488355328 := by omega
  have hxr : ∀ M, rowsOf (h ++ M) x = some [[i64 v]] := fun M => (hx.app M).rows
  have tk : List.take m [[i64 v]] = [[i64 v]] := List.take_of_length_le (by simp; omega)
  have ha : ([[i64 v]].all fun r => r.length == 1 && r.all AV.one) = true := rfl
  have w0 : IntKind.wrap .u64 (1 : Int) = ((1 : Nat) : Int) := by decide
  have q0 : ((1 * m / 18446744073709551616 : Nat) : Int) = 0 := by
    rw [Nat.one_mul, Nat.div_eq_of_lt (by omega)]; rfl
  have q1 : ((1 * m % 18446744073709551616 : Nat) : Int) = (m : Int) := by
    rw [Nat.one_mul, Nat.mod_eq_of_lt (by omega)]
  refine acalls_wp Tryz.f146 [.tmp 4] 48 rfl rfl rfl rfl rfl rfl (by decide) (hex) fun B => ?_
  simp only [go_sem, hx.rows, d0, w1, w0]
  refine call_by (c118 1 m (by omega) (by omega) _) ?_
  rintro _ h1 ⟨rfl, e1⟩
  subst e1
  rw [q0, q1]
  have d2 : decide ((0 : Int) > 0) = false := rfl
  simp only [go_sem, d2, d1, bq_t, w2, hb, hxr, hx.rows, Int.toNat_natCast, Int.natCast_nonneg, List.length_replicate, tk, ha, List.length_cons, List.length_nil, List.drop_replicate]
  refine wp_loop_a (by decide) (fun n T h' => ∃ k : Nat, 1 ≤ k ∧ k ≤ m ∧ h' = h1 ++ [.row 3 1 (repRow v m k) 0] ∧ T 7 = .tl h1.length 0 ∧ T 8 = i64 k ∧ n = m - k) (m - 1)
    ⟨1, by omega, by omega, rfl, by simp only [go_sem], by (simp only [go_sem] <;> rfl), rfl⟩ ?_
  rintro n T h' ⟨k, hk1, hk, rfl, t7, t8, rfl⟩
  have hlen := repRow_len (v := v) hk
  have hg : ∀ M, (h1 ++ (.row 3 1 (repRow v m k) 0 :: M))[h1.length]? = some (.row 3 1 (repRow v m k) 0) := fun M => by rw [get_new0 rfl]; rfl
  simp only [go_sem, t7, t8, hlen]
  refine ways (fun e => ?_) (fun e => ?_)
  · have hlt : k < m := dlt e
    simp only [go_sem]
    refine wp_draw rfl [] 0 [(0, 0, []), (1, 0, []), (2, 0, []), (4, 0, []), (5, 0, []), (3, 0, []), (6, 0, []), (7, 0, []), (8, 0, []), (9, 0, [])] rfl (by decide) (by decide) ?_
    have hkI : (k : Int) ≤ (m : Int) := by omega
    have hmI : (m : Int) ≤ (m : Int) := by omega
    have hsub : k + (m - k) ≤ m := by omega
    have h0k : 0 + k ≤ m := by omega
    have htake : List.take k (repRow v m k) = List.replicate k [i64 v] := by
      unfold repRow
      rw [List.take_append_of_le_length (by simp), List.take_of_length_le (by simp)]
    have hal : ∀ j, ((List.replicate j [i64 v]).all fun r => r.length == 1 && r.all AV.one) = true := fun j => by
      rw [List.all_eq_true]
      intro r hr
      rw [List.eq_of_mem_replicate hr]
      rfl
    simp only [go_sem, t7, t8, hlen, hkI, hmI, or_true, Int.toNat_natCast, Int.natCast_nonneg, hsub, h0k, Nat.sub_zero, hk, htake, List.take_replicate, List.length_replicate, hal]
    obtain ⟨j, hj⟩ : ∃ j, j = min (m - k) k := ⟨_, rfl⟩
    have hlay := repRow_lay (v := v) (show k + j ≤ m by omega)
    unfold layRows at hlay
    rw [List.length_replicate, htake, List.append_assoc] at hlay
    rw [← hj, hlay]
    have wk : IntKind.wrap .i64 ((k : Int) + (j : Int)) = ((k + j : Nat) : Int) := wr_add (by omega)
    exact ⟨m - (k + j), by omega, k + j, by omega, by omega, rfl, by rw [wk], rfl⟩
  · have hge : m ≤ k := dnlt e
    have hkm : k = m := by omega
    subst hkm
    simp only [go_sem, t7]
    exact ⟨.tl h1.length 0, by simp only [go_sem], .inl ⟨_, h1.length, 0, rfl, noRes1 rfl, Nat.le_refl _, rfl, by rw [get_new0 rfl, repRow_all]; rfl⟩⟩
end Go.Proofs.YtpdghiplnlhnfaaGreat.Ax
