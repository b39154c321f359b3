/-
  Plain facts on numbers as bytes: how many bytes a number needs, its bytes, and the number that bytes are. No program in sight.
-/
import Derived.Test.YtjcngipaeoegcaaMath
import Derived.Lib.BitFns
namespace Go.Proofs.Ytjcngipaeoegcaa.Pack
open Go

def need (n : Nat) : Nat := (Lib.bitLen n + 7) / 8
theorem pow256 (k : Nat) : 256 ^ k = 2 ^ (8 * k) := by rw [show (256 : Nat) = 2 ^ 8 from rfl, ← Nat.pow_mul]

/-- k bytes of a number, the highest first. -/
def be : Nat → Nat → List UInt8
  | 0, _ => []
  | k + 1, n => be k (n / 256) ++ [UInt8.ofNat n]
def one (n : Nat) : List UInt8 := UInt8.ofNat (need n) :: be (need n) n
/-- The number that bytes are. -/
def val (l : List UInt8) : Nat := l.foldl (fun a c => a * 256 + c.toNat) 0

theorem be_length (k : Nat) : ∀ n, (be k n).length = k := by
  induction k with
  | zero => intro n; rfl
  | succ k ih => intro n; simp [be, ih]
theorem be_get (k : Nat) : ∀ n j (h : j < (be k n).length), (be k n)[j] = UInt8.ofNat (n / 256 ^ (k - 1 - j)) := by
  induction k with
  | zero => intro n j h; simp [be] at h
  | succ k ih =>
    intro n j h
    rw [be_length] at h
    simp only [be]
    by_cases hj : j < k
    · rw [List.getElem_append_left (by rw [be_length]; exact hj), ih, Nat.div_div_eq_div_mul]
      congr 2
      rw [show k + 1 - 1 - j = (k - 1 - j) + 1 by omega, Nat.pow_succ, Nat.mul_comm]
    · have : j = k := by omega
      subst this
      rw [List.getElem_append_right (by rw [be_length]; omega)]
      simp
theorem val_snoc (l : List UInt8) (c : UInt8) : val (l ++ [c]) = val l * 256 + c.toNat := by simp [val]
theorem snoc_ind {P : List UInt8 → Prop} (h0 : P []) (h1 : ∀ l c, P l → P (l ++ [c])) (l : List UInt8) : P l := by
  have h : ∀ r : List UInt8, P r.reverse := by
    intro r
    induction r with
    | nil => exact h0
    | cons c r ih => rw [List.reverse_cons]; exact h1 _ _ ih
  simpa using h l.reverse
theorem val_lt (l : List UInt8) : val l < 256 ^ l.length := by
  refine snoc_ind (P := fun l => val l < 256 ^ l.length) (by simp [val]) (fun l c ih => ?_) l
  · rw [val_snoc, List.length_append, List.length_singleton, Nat.pow_succ]
    have := c.toNat_lt
    have := Nat.mul_le_mul_right 256 (Nat.succ_le_of_lt ih)
    omega
theorem val_be (k : Nat) : ∀ n, n < 256 ^ k → val (be k n) = n := by
  induction k with
  | zero => intro n h; simp at h; subst h; rfl
  | succ k ih =>
    intro n h
    have h1 : n / 256 < 256 ^ k := by rw [Nat.div_lt_iff_lt_mul (by omega)]; rwa [Nat.pow_succ] at h
    simp only [be]
    rw [val_snoc, ih _ h1, Crc.u8_toNat]
    omega
theorem be_val (l : List UInt8) : be l.length (val l) = l := by
  refine snoc_ind (P := fun l => be l.length (val l) = l) rfl (fun l c ih => ?_) l
  · have hc := c.toNat_lt
    rw [List.length_append, List.length_singleton, val_snoc]
    simp only [be]
    rw [show (val l * 256 + c.toNat) / 256 = val l by omega, ih]
    congr 2
    apply UInt8.toNat_inj.1
    rw [Crc.u8_toNat]
    omega

theorem need_zero : need 0 = 0 := by decide
theorem need_step (n : Nat) (h0 : n ≠ 0) (h : n < 18446744073709551616) : need n = need (n / 256) + 1 := by
  by_cases h1 : n < 256
  · have hz : n / 256 = 0 := by omega
    rw [hz, need_zero]
    have hle := Lib.bitLen_le8 ⟨n, h1⟩
    have hge : 1 ≤ Lib.bitLen n := by have := Lib.bitLen_half n h0 h; omega
    unfold need
    simp only at hle
    omega
  · have := Lib.bitLen_shift8 n (by omega) h
    unfold need
    omega
theorem need_spec : ∀ n, n < 18446744073709551616 → n < 256 ^ need n ∧ (n ≠ 0 → 256 ^ (need n - 1) ≤ n) := by
  intro n
  induction n using Nat.strongRecOn with
  | _ n ih =>
    intro h
    by_cases h0 : n = 0
    · subst h0; rw [need_zero]; simp
    · obtain ⟨h1, h2⟩ := ih (n / 256) (by omega) (by omega)
      rw [need_step n h0 h]
      refine ⟨?_, fun _ => ?_⟩
      · rw [Nat.pow_succ]; omega
      · rw [Nat.add_sub_cancel]
        by_cases hz : n / 256 = 0
        · rw [hz, need_zero]; omega
        · have h3 := h2 hz
          have h4 : 1 ≤ need (n / 256) := by
            have := need_step (n / 256) hz (by omega); omega
          obtain ⟨m, hm⟩ : ∃ m, need (n / 256) = m + 1 := ⟨need (n / 256) - 1, by omega⟩
          rw [hm] at h3 ⊢
          rw [Nat.add_sub_cancel] at h3
          rw [Nat.pow_succ]
          omega
theorem need_le8 (n : Nat) (h : n < 18446744073709551616) : need n ≤ 8 := by
  have := Lib.bitLen_le n 64 (by omega) (by omega)
  unfold need
  omega
theorem need_uniq (n k : Nat) (h : n < 18446744073709551616) (h1 : 256 ^ k ≤ n) (h2 : n < 256 ^ (k + 1)) : need n = k + 1 := by
  have h0 : n ≠ 0 := by have := Nat.pow_pos (n := k) (show 0 < 256 by omega); omega
  obtain ⟨h3, h4⟩ := need_spec n h
  have h5 := h4 h0
  have h6 : k < need n := (Nat.pow_lt_pow_iff_right (show 1 < 256 by omega)).1 (Nat.lt_of_le_of_lt h1 h3)
  have h7 : need n - 1 < k + 1 := (Nat.pow_lt_pow_iff_right (show 1 < 256 by omega)).1 (Nat.lt_of_le_of_lt h5 h2)
  omega
theorem need_lt (n k : Nat) (h : n < 18446744073709551616) (h2 : n < 256 ^ k) : need n ≤ k := by
  by_cases h0 : n = 0
  · subst h0; rw [need_zero]; omega
  · obtain ⟨_, h4⟩ := need_spec n h
    have h7 : need n - 1 < k := (Nat.pow_lt_pow_iff_right (show 1 < 256 by omega)).1 (Nat.lt_of_le_of_lt (h4 h0) h2)
    omega
theorem need_mono (a b : Nat) (hb : b < 18446744073709551616) (h : a ≤ b) : need a ≤ need b :=
  need_lt a _ (by omega) (Nat.lt_of_le_of_lt h (need_spec b hb).1)
theorem one_length (n : Nat) : (one n).length = need n + 1 := by simp [one, be_length]

/-- The bytes of a number that are bytes: no leading nought. -/
theorem val_need (l : List UInt8) (h8 : l.length ≤ 8) : need (val l) = l.length ↔ (l.length = 0 ∨ l.getD 0 0 ≠ 0) := by
  have hv : val l < 18446744073709551616 := by
    have h1 := val_lt l
    have h2 : 256 ^ l.length ≤ 256 ^ 8 := Nat.pow_le_pow_right (by omega) h8
    omega
  cases l with
  | nil => simp [val, need_zero]
  | cons c l =>
    have hl : (c :: l).length = l.length + 1 := rfl
    have hsplit : val (c :: l) = c.toNat * 256 ^ l.length + val l := by
      have : ∀ (l : List UInt8) (a : Nat), l.foldl (fun a c => a * 256 + c.toNat) a = a * 256 ^ l.length + val l := by
        intro l
        induction l with
        | nil => intro a; simp [val]
        | cons d l ih =>
          intro a
          have h1 := ih (a * 256 + d.toNat)
          have h2 := ih (0 * 256 + d.toNat)
          show l.foldl _ (a * 256 + d.toNat) = a * 256 ^ (l.length + 1) + l.foldl _ (0 * 256 + d.toNat)
          simp only [Nat.zero_mul, Nat.zero_add] at h2 ⊢
          rw [h1, h2, Nat.pow_succ, Nat.add_mul]
          have : a * 256 * 256 ^ l.length = a * (256 ^ l.length * 256) := by ac_rfl
          omega
      show l.foldl _ (0 * 256 + c.toNat) = _
      rw [this, Nat.zero_mul, Nat.zero_add]
    have hvl := val_lt l
    have hvc := val_lt (c :: l)
    rw [hl] at hvc ⊢
    constructor
    · intro h
      right
      intro hc
      have hc0 : c.toNat = 0 := by simp at hc; simp [hc]
      rw [hc0, Nat.zero_mul, Nat.zero_add] at hsplit
      rw [hsplit] at h
      have := need_lt (val l) l.length (by omega) hvl
      omega
    · intro h
      have hc : c.toNat ≠ 0 := by
        rcases h with h | h
        · omega
        · intro e
          apply h
          simp only [List.getD_cons_zero]
          exact UInt8.toNat_inj.1 (by rw [e]; rfl)
      refine need_uniq _ _ hv ?_ hvc
      rw [hsplit]
      have := Nat.le_mul_of_pos_left (256 ^ l.length) (show 0 < c.toNat by omega)
      omega
/-- Eight bytes are below 2^63 just if the first one is below 128. -/
theorem val_eight (l : List UInt8) (h8 : l.length ≤ 8) : val l < 9223372036854775808 ↔ ¬ (l.length = 8 ∧ 128 ≤ (l.getD 0 0).toNat) := by
  have hv := val_lt l
  by_cases h7 : l.length < 8
  · have h2 : 256 ^ l.length ≤ 256 ^ 7 := Nat.pow_le_pow_right (by omega) (by omega)
    have : (256 : Nat) ^ 7 < 9223372036854775808 := by decide
    omega
  · have h8' : l.length = 8 := by omega
    match l, h8' with
    | [a, b, c, d, e, f, g, h], _ =>
      have h1 := a.toNat_lt
      have h2 := b.toNat_lt
      have h3 := c.toNat_lt
      have h4 := d.toNat_lt
      have h5 := e.toNat_lt
      have h6 := f.toNat_lt
      have h7 := g.toNat_lt
      have h9 := h.toNat_lt
      clear hv
      simp only [val, List.foldl_cons, List.foldl_nil, List.length_cons, List.length_nil, List.getD_cons_zero]
      constructor
      · rintro hlt ⟨_, hge⟩
        omega
      · intro hn
        have hge : ¬ 128 ≤ a.toNat := fun hge => hn ⟨by trivial, hge⟩
        omega

/-- What is taken off the beginning of bytes. -/
def take (b : List UInt8) : Option (Nat × List UInt8) :=
  match b with
  | [] => none
  | m :: r => if 8 < m.toNat ∨ r.length < m.toNat then none
    else if val (r.take m.toNat) < 9223372036854775808 ∧ need (val (r.take m.toNat)) = m.toNat then some (val (r.take m.toNat), r.drop m.toNat) else none
def takeText (b : List UInt8) : Option (List UInt8 × List UInt8) :=
  match take b with
  | some (n, r) => if r.length < n then none else some (r.take n, r.drop n)
  | none => none
/-- Numbers behind bytes. -/
def put (b : List UInt8) (l : List Int) : Option (List UInt8) := if l.any (· < 0) then none else some (b ++ (l.map fun n => one n.toNat).flatten)
def text (b t : List UInt8) : List UInt8 := b ++ one t.length ++ t

theorem take_one (n : Nat) (r : List UInt8) (h : n < 9223372036854775808) : take (one n ++ r) = some (n, r) := by
  have h8 := need_le8 n (by omega)
  have hm : (UInt8.ofNat (need n)).toNat = need n := by rw [Crc.u8_toNat]; omega
  show take (UInt8.ofNat (need n) :: (be (need n) n ++ r)) = _
  simp only [take, hm]
  rw [if_neg (by rw [List.length_append, be_length]; omega), List.take_left' (be_length _ _), List.drop_left' (be_length _ _), val_be _ _ (need_spec n (by omega)).1, if_pos ⟨h, rfl⟩]
theorem take_own (b : List UInt8) (n : Nat) (r : List UInt8) (h : take b = some (n, r)) : b = one n ++ r ∧ n < 9223372036854775808 := by
  cases b with
  | nil => simp [take] at h
  | cons m b =>
    simp only [take] at h
    split at h
    · cases h
    · rename_i h1
      split at h
      · rename_i h2
        injection h with h
        injection h with hn hr
        refine ⟨?_, by rw [← hn]; exact h2.1⟩
        have hl : (b.take m.toNat).length = m.toNat := by rw [List.length_take]; omega
        have hb := be_val (b.take m.toNat)
        rw [hl] at hb
        rw [← hn, ← hr]
        show m :: b = UInt8.ofNat (need (val (b.take m.toNat))) :: (be (need (val (b.take m.toNat))) (val (b.take m.toNat)) ++ b.drop m.toNat)
        rw [h2.2, hb, List.take_append_drop]
        congr 1
        apply UInt8.toNat_inj.1
        rw [Crc.u8_toNat]
        have := m.toNat_lt
        omega
      · cases h

end Go.Proofs.Ytjcngipaeoegcaa.Pack
