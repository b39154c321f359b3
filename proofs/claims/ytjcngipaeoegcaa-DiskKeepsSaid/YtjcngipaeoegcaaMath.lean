/-
  Plain facts on a checksum over natural numbers: turning is linear, and no turn loses a number below 2^32. No program in sight.
-/
import Derived.Below
namespace Go.Proofs.Ytjcngipaeoegcaa.Crc

def poly : Nat := 2197175160
def ones : Nat := 4294967295
def T (n : Nat) : Nat := n / 2 ^^^ n % 2 * poly
def Tn : Nat → Nat → Nat
  | 0, n => n
  | k + 1, n => Tn k (T n)

theorem xor_div (a b k : Nat) : (a ^^^ b) / 2 ^ k = a / 2 ^ k ^^^ b / 2 ^ k := by
  rw [← Nat.shiftRight_eq_div_pow, ← Nat.shiftRight_eq_div_pow, ← Nat.shiftRight_eq_div_pow, Nat.shiftRight_xor_distrib]
theorem xor_mod (a b k : Nat) : (a ^^^ b) % 2 ^ k = a % 2 ^ k ^^^ b % 2 ^ k := Nat.xor_mod_two_pow

theorem xor_eq_zero {a b : Nat} (h : a ^^^ b = 0) : a = b := by
  have h2 : (a ^^^ b) ^^^ b = 0 ^^^ b := by rw [h]
  rwa [Nat.xor_assoc, Nat.xor_self, Nat.xor_zero, Nat.zero_xor] at h2

theorem T_xor (a b : Nat) : T (a ^^^ b) = T a ^^^ T b := by
  have h1 : (a ^^^ b) / 2 = a / 2 ^^^ b / 2 := xor_div a b 1
  have h2 : (a ^^^ b) % 2 = a % 2 ^^^ b % 2 := xor_mod a b 1
  have h3 : (a % 2 ^^^ b % 2) * poly = a % 2 * poly ^^^ b % 2 * poly := by
    rcases Nat.mod_two_eq_zero_or_one a with ha | ha <;> rcases Nat.mod_two_eq_zero_or_one b with hb | hb <;> simp [ha, hb]
  unfold T
  rw [h1, h2, h3]
  ac_rfl
theorem T_two (k : Nat) : T (2 * k) = k := by
  have h1 : 2 * k / 2 = k := by omega
  have h2 : 2 * k % 2 = 0 := by omega
  simp [T, h1, h2]
theorem T_zero : T 0 = 0 := T_two 0
theorem T_lt (n : Nat) (h : n < 2 ^ 32) : T n < 2 ^ 32 := by
  unfold T
  refine Nat.xor_lt_two_pow (by omega) ?_
  rcases Nat.mod_two_eq_zero_or_one n with ha | ha <;> simp [ha, poly]
theorem T_inj (n : Nat) (h : n < 2 ^ 32) (h0 : T n = 0) : n = 0 := by
  unfold T at h0
  rcases Nat.mod_two_eq_zero_or_one n with ha | ha
  · rw [ha] at h0
    simp at h0
    omega
  · rw [ha] at h0
    have h1 : n / 2 = poly := xor_eq_zero (by simpa using h0)
    unfold poly at h1
    omega

theorem Tn_add (j k n : Nat) : Tn (j + k) n = Tn k (Tn j n) := by
  induction j generalizing n with
  | zero => simp [Tn]
  | succ j ih => rw [show j + 1 + k = (j + k) + 1 from by omega]; exact ih _
theorem Tn_xor (k a b : Nat) : Tn k (a ^^^ b) = Tn k a ^^^ Tn k b := by
  induction k generalizing a b with
  | zero => rfl
  | succ k ih => show Tn k (T _) = _; rw [T_xor, ih]; rfl
theorem Tn_zero (k : Nat) : Tn k 0 = 0 := by
  induction k with
  | zero => rfl
  | succ k ih => show Tn k (T 0) = 0; rw [T_zero, ih]
theorem Tn_lt (k n : Nat) (h : n < 2 ^ 32) : Tn k n < 2 ^ 32 := by
  induction k generalizing n with
  | zero => exact h
  | succ k ih => exact ih _ (T_lt n h)
theorem Tn_inj (k n : Nat) (h : n < 2 ^ 32) (h0 : Tn k n = 0) : n = 0 := by
  induction k generalizing n with
  | zero => exact h0
  | succ k ih => exact T_inj n h (ih _ (T_lt n h) h0)
theorem Tn_pow (k m : Nat) : Tn k (2 ^ k * m) = m := by
  induction k generalizing m with
  | zero => simp [Tn]
  | succ k ih =>
    show Tn k (T _) = _
    rw [show 2 ^ (k + 1) * m = 2 * (2 ^ k * m) from by rw [Nat.pow_succ]; ac_rfl, T_two, ih]
theorem split_xor (k n : Nat) : n = 2 ^ k * (n / 2 ^ k) ^^^ n % 2 ^ k := by
  apply Nat.eq_of_testBit_eq
  intro i
  rw [Nat.testBit_xor, Nat.testBit_mod_two_pow, Nat.testBit_two_pow_mul]
  by_cases h : i < k
  · have h' : ¬ k ≤ i := by omega
    simp [h, h']
  · have : k ≤ i := by omega
    simp [h, this, Nat.testBit_div_two_pow, Nat.sub_add_cancel this]
theorem Tn_split (k n : Nat) : Tn k n = Tn k (n % 2 ^ k) ^^^ n / 2 ^ k := by
  have h := split_xor k n
  calc Tn k n = Tn k (2 ^ k * (n / 2 ^ k) ^^^ n % 2 ^ k) := by rw [← h]
    _ = _ := by rw [Tn_xor, Tn_pow, Nat.xor_comm]

/-! ### bytes -/
def step (n : Nat) (c : UInt8) : Nat := Tn 8 (n ^^^ c.toNat)
def run (n : Nat) (l : List UInt8) : Nat := l.foldl step n
def sum (l : List UInt8) : Nat := run ones l ^^^ ones
/-- The lowest k bytes of a number, the lowest first. -/
def le : Nat → Nat → List UInt8
  | 0, _ => []
  | k + 1, n => UInt8.ofNat n :: le k (n / 256)
def bytes (n : Nat) : List UInt8 := le 4 n

theorem u8_toNat (n : Nat) : (UInt8.ofNat n).toNat = n % 256 := by simp
theorem step_lt (n : Nat) (c : UInt8) (h : n < 2 ^ 32) : step n c < 2 ^ 32 :=
  Tn_lt _ _ (Nat.xor_lt_two_pow h (by have := c.toNat_lt; omega))
theorem run_lt (l : List UInt8) : ∀ n, n < 2 ^ 32 → run n l < 2 ^ 32 := by
  induction l with
  | nil => intro n h; exact h
  | cons c l ih => intro n h; exact ih _ (step_lt n c h)
theorem sum_lt (l : List UInt8) : sum l < 2 ^ 32 := Nat.xor_lt_two_pow (run_lt l _ (by decide)) (by decide)
theorem run_append (n : Nat) (l m : List UInt8) : run n (l ++ m) = run (run n l) m := by simp [run]
theorem run_snoc (n : Nat) (l : List UInt8) (c : UInt8) : run n (l ++ [c]) = step (run n l) c := by simp [run]

/-- Two nibbles are one byte. -/
theorem step_halves (n : Nat) : Tn 8 n = Tn 4 ((Tn 4 (n % 16) ^^^ n / 16) % 16) ^^^ (Tn 4 (n % 16) ^^^ n / 16) / 16 := by
  rw [show (8 : Nat) = 4 + 4 from rfl, Tn_add, Tn_split 4 n, Tn_split 4 (Tn 4 (n % 2 ^ 4) ^^^ n / 2 ^ 4)]

theorem run_le (k : Nat) : ∀ s v, v < 256 ^ k → run s (le k v) = Tn (8 * k) (s ^^^ v) := by
  induction k with
  | zero => intro s v h; have : v = 0 := by simpa using h
            subst this; simp [le, run, Tn]
  | succ k ih =>
    intro s v h
    have h1 : v / 256 < 256 ^ k := by rw [Nat.div_lt_iff_lt_mul (by omega)]; rwa [Nat.pow_succ] at h
    show run (step s (UInt8.ofNat v)) (le k (v / 256)) = _
    rw [ih _ _ h1, show 8 * (k + 1) = 8 + 8 * k from by omega, Tn_add]
    congr 1
    unfold step
    rw [u8_toNat]
    have h2 := split_xor 8 v
    have h3 : v / 256 = Tn 8 (2 ^ 8 * (v / 2 ^ 8)) := (Tn_pow 8 _).symm
    rw [h3, ← Tn_xor, Nat.xor_assoc]
    congr 2
    rw [Nat.xor_comm]
    exact h2.symm

theorem le_length (k : Nat) : ∀ v, (le k v).length = k := by
  induction k with
  | zero => intro v; rfl
  | succ k ih => intro v; simp [le, ih]
theorem le_get (k : Nat) : ∀ v j (h : j < (le k v).length), (le k v)[j] = UInt8.ofNat (v / 256 ^ j) := by
  induction k with
  | zero => intro v j h; simp [le] at h
  | succ k ih =>
    intro v j h
    cases j with
    | zero => simp [le]
    | succ j =>
      have hj : j < (le k (v / 256)).length := by simpa [le] using h
      have := ih (v / 256) j hj
      simp only [le, List.getElem_cons_succ, this]
      rw [Nat.div_div_eq_div_mul, Nat.pow_succ, Nat.mul_comm]

def xors (l m : List UInt8) : List UInt8 := List.zipWith (· ^^^ ·) l m
theorem step_xor (a b : Nat) (c d : UInt8) : step (a ^^^ b) (c ^^^ d) = step a c ^^^ step b d := by
  unfold step
  rw [← Tn_xor, UInt8.toNat_xor]
  congr 1
  ac_rfl
theorem run_xors (l : List UInt8) : ∀ (m : List UInt8) (a b : Nat), l.length = m.length → run (a ^^^ b) (xors l m) = run a l ^^^ run b m := by
  induction l with
  | nil => intro m a b h; cases m with
    | nil => rfl
    | cons d m => simp at h
  | cons c l ih => intro m a b h; cases m with
    | nil => simp at h
    | cons d m =>
      show run (step (a ^^^ b) (c ^^^ d)) (xors l m) = run (step a c) l ^^^ run (step b d) m
      rw [step_xor]
      exact ih m _ _ (by simpa using h)

/-! ### the laws -/
theorem xor_self_right (a b : Nat) : (a ^^^ b) ^^^ b = a := by rw [Nat.xor_assoc, Nat.xor_self, Nat.xor_zero]

/-- CrcSame. -/
theorem same (l : List UInt8) : sum (l ++ bytes (sum l)) = sum (bytes (sum [])) := by
  have h0 : sum [] = 0 := by simp [sum, run]
  have h := sum_lt l
  unfold bytes
  unfold sum at h ⊢
  rw [run_append, run_le 4 _ _ (by simpa using h)]
  have h0' : run ones [] ^^^ ones = 0 := by simp [run]
  rw [h0', run_le 4 _ _ (by decide)]
  congr 2
  rw [Nat.xor_zero, ← Nat.xor_assoc, Nat.xor_self, Nat.zero_xor]

/-- CrcThree. -/
theorem three (a b c : List UInt8) (h1 : a.length = b.length) (h2 : a.length = c.length) : sum (xors (xors a b) c) = sum a ^^^ sum b ^^^ sum c := by
  have hl : (xors a b).length = c.length := by simp [xors]; omega
  have e1 : run (ones ^^^ ones ^^^ ones) (xors (xors a b) c) = run (ones ^^^ ones) (xors a b) ^^^ run ones c := run_xors _ _ _ _ hl
  have e2 : run (ones ^^^ ones) (xors a b) = run ones a ^^^ run ones b := run_xors _ _ _ _ h1
  have e3 : ones ^^^ ones ^^^ ones = ones := by decide
  rw [e2, e3] at e1
  unfold sum
  rw [e1]
  apply Nat.eq_of_testBit_eq
  intro i
  simp only [Nat.testBit_xor]
  cases (run ones a).testBit i <;> cases (run ones b).testBit i <;> cases (run ones c).testBit i <;> cases ones.testBit i <;> rfl

/-- A list and the bytes of its sum lead to one state, and only these. -/
def goal : Nat := Tn 32 ones
theorem le_inj (k : Nat) : ∀ u v, u < 256 ^ k → v < 256 ^ k → le k u = le k v → u = v := by
  induction k with
  | zero => intro u v hu hv _; simp at hu hv; omega
  | succ k ih =>
    intro u v hu hv h
    simp only [le, List.cons.injEq] at h
    have h1 : u % 256 = v % 256 := by rw [← u8_toNat, ← u8_toNat, h.1]
    have h2 := ih (u / 256) (v / 256) (by rw [Nat.div_lt_iff_lt_mul (by omega)]; rwa [Nat.pow_succ] at hu) (by rw [Nat.div_lt_iff_lt_mul (by omega)]; rwa [Nat.pow_succ] at hv) h.2
    omega
theorem le_of_list (l : List UInt8) : ∃ v, v < 256 ^ l.length ∧ l = le l.length v := by
  induction l with
  | nil => exact ⟨0, by simp, rfl⟩
  | cons c l ih =>
    obtain ⟨v, hv, e⟩ := ih
    have hc := c.toNat_lt
    refine ⟨c.toNat + 256 * v, ?_, ?_⟩
    · rw [List.length_cons, Nat.pow_succ]
      have : v + 1 ≤ 256 ^ l.length := hv
      have := Nat.mul_le_mul_right 256 this
      omega
    · have h1 : (c.toNat + 256 * v) / 256 = v := by omega
      have h2 : UInt8.ofNat (c.toNat + 256 * v) = c := by
        apply UInt8.toNat_inj.1
        rw [u8_toNat]; omega
      show c :: l = UInt8.ofNat _ :: le l.length _
      rw [h1, h2, ← e]

theorem valid_iff (b t : List UInt8) (ht : t.length = 4) : bytes (sum b) = t ↔ run ones (b ++ t) = goal := by
  obtain ⟨v, hv, e⟩ := le_of_list t
  rw [ht] at hv e
  have hs := sum_lt b
  have hr := run_lt b ones (by decide)
  have e1 : run ones (b ++ t) = Tn 32 (run ones b ^^^ v) := by rw [e, run_append, run_le 4 _ _ hv]
  have hv' : v < 2 ^ 32 := by simpa using hv
  constructor
  · intro h
    have h2 : sum b = v := by
      rw [e] at h
      exact le_inj 4 _ _ (by simpa using hs) hv h
    rw [e1, ← h2]
    unfold goal sum
    rw [← Nat.xor_assoc, Nat.xor_self, Nat.zero_xor]
  · intro h
    rw [e1] at h
    unfold goal at h
    have h3 : Tn 32 ((run ones b ^^^ v) ^^^ ones) = 0 := by rw [Tn_xor, h, Nat.xor_self]
    have h4 := Tn_inj 32 _ (Nat.xor_lt_two_pow (Nat.xor_lt_two_pow hr hv') (by decide)) h3
    have h5 : sum b = v := by
      unfold sum
      have : (run ones b ^^^ ones) ^^^ v = 0 := by rw [← h4]; ac_rfl
      exact xor_eq_zero this
    rw [h5, e]; rfl

/-- A burst: up to 32 bits that stand in a row. -/
theorem run_burst (L from_ burst : Nat) (hb : burst < 2 ^ 32) (hf : from_ + 32 ≤ 8 * L) : run 0 (le L (2 ^ from_ * burst)) = Tn (8 * L - from_) burst := by
  have h1 : 2 ^ from_ * burst < 256 ^ L := by
    have : 2 ^ from_ * burst < 2 ^ from_ * 2 ^ 32 := Nat.mul_lt_mul_of_pos_left hb (Nat.two_pow_pos _)
    rw [← Nat.pow_add] at this
    refine Nat.lt_of_lt_of_le this ?_
    rw [show (256 : Nat) = 2 ^ 8 from rfl, ← Nat.pow_mul]
    exact Nat.pow_le_pow_right (by omega) hf
  rw [run_le L 0 _ h1, Nat.zero_xor, show 8 * L = from_ + (8 * L - from_) from by omega, Tn_add, Tn_pow]
  congr 1
  omega
theorem burst_seen (b : List UInt8) (from_ burst : Nat) (hb : burst < 2 ^ 32) (hf : from_ + 32 ≤ 8 * (b.length + 4)) (c : List UInt8)
    (hc : c = xors (b ++ bytes (sum b)) (le (b.length + 4) (2 ^ from_ * burst))) :
    (bytes (sum (c.take b.length)) = c.drop b.length) ↔ burst = 0 := by
  have hl : (b ++ bytes (sum b)).length = b.length + 4 := by simp [bytes, le_length]
  have hcl : c.length = b.length + 4 := by rw [hc]; simp [xors, bytes, le_length]
  rw [valid_iff _ _ (by simp [hcl]), List.take_append_drop]
  have e1 : run (ones ^^^ 0) c = run ones (b ++ bytes (sum b)) ^^^ run 0 (le (b.length + 4) (2 ^ from_ * burst)) := by
    rw [hc]; exact run_xors _ _ _ _ (by rw [hl, le_length])
  rw [Nat.xor_zero, (valid_iff b (bytes (sum b)) (by simp [bytes, le_length])).1 rfl, run_burst _ _ _ hb hf] at e1
  rw [e1]
  constructor
  · intro h
    have : Tn (8 * (b.length + 4) - from_) burst = 0 := by
      have h2 : goal ^^^ (goal ^^^ Tn (8 * (b.length + 4) - from_) burst) = goal ^^^ goal := by rw [h]
      rwa [← Nat.xor_assoc, Nat.xor_self, Nat.zero_xor] at h2
    exact Tn_inj _ _ hb this
  · intro h
    rw [h, Tn_zero, Nat.xor_zero]

theorem xors_zero (l : List UInt8) : xors l (le l.length 0) = l := by
  induction l with
  | nil => rfl
  | cons c l ih =>
    show (c ^^^ UInt8.ofNat 0) :: xors l (le l.length (0 / 256)) = c :: l
    rw [show 0 / 256 = 0 from rfl, ih]
    simp
/-- One bit more of the burst. -/
theorem xors_bit (l : List UInt8) (V k : Nat) :
    xors l (le l.length (V ^^^ 2 ^ k)) = (xors l (le l.length V)).set (k / 8) ((xors l (le l.length V)).getD (k / 8) 0 ^^^ UInt8.ofNat (2 ^ (k % 8))) := by
  apply List.ext_getElem
  · simp [xors, le_length]
  · intro j h1 h2
    have hj : j < l.length := by simp [xors, le_length] at h1; exact h1
    rw [List.getElem_set]
    have hx : ∀ X, (xors l (le l.length X))[j]? = some (l[j] ^^^ UInt8.ofNat (X / 256 ^ j)) := by
      intro X
      rw [List.getElem?_eq_getElem (by simp [xors, le_length]; exact hj)]
      simp only [xors, List.getElem_zipWith]
      rw [le_get]
    have hg : ∀ X (h : j < (xors l (le l.length X)).length), (xors l (le l.length X))[j] = l[j] ^^^ UInt8.ofNat (X / 256 ^ j) := by
      intro X h
      have := hx X
      rw [List.getElem?_eq_getElem h] at this
      exact Option.some.inj this
    rw [hg]
    have hp : (256 : Nat) ^ j = 2 ^ (8 * j) := by rw [show (256 : Nat) = 2 ^ 8 from rfl, ← Nat.pow_mul]
    have hd : UInt8.ofNat ((V ^^^ 2 ^ k) / 256 ^ j) = UInt8.ofNat (V / 256 ^ j) ^^^ UInt8.ofNat (2 ^ k / 256 ^ j) := by
      apply UInt8.toNat_inj.1
      rw [UInt8.toNat_xor, u8_toNat, u8_toNat, u8_toNat, hp, xor_div]
      exact xor_mod _ _ 8
    rw [hd]
    by_cases he : k / 8 = j
    · rw [if_pos he]
      subst he
      have hq : 2 ^ k / 256 ^ (k / 8) = 2 ^ (k % 8) := by
        rw [hp, Nat.pow_div (by omega) (by omega)]
        congr 1; omega
      rw [hq, List.getD_eq_getElem?_getD, hx V, Option.getD_some]
      rw [← UInt8.xor_assoc]
    · rw [if_neg he, hg V]
      have hz : UInt8.ofNat (2 ^ k / 256 ^ j) = 0 := by
        apply UInt8.toNat_inj.1
        rw [u8_toNat, hp]
        rcases Nat.lt_or_ge k (8 * j) with h | h
        · rw [Nat.div_eq_of_lt (Nat.pow_lt_pow_right (by omega) h)]; rfl
        · rw [Nat.pow_div h (by omega)]
          obtain ⟨m, hm⟩ : ∃ m, k - 8 * j = 8 + m := ⟨k - 8 * j - 8, by omega⟩
          rw [hm, Nat.pow_add]
          show 2 ^ 8 * 2 ^ m % 256 = _
          rw [show (2 : Nat) ^ 8 = 256 from rfl, Nat.mul_mod_right]; rfl
      rw [hz]
      simp

end Go.Proofs.Ytjcngipaeoegcaa.Crc
