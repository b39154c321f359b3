/-
  What taking a number returns, the document's; and texts.
-/
import Derived.Test.YtjcngipaeoegcaaTake
import Derived.Deep.QuietTactic
import Derived.BigQuiet
namespace Go.Proofs.Ytjcngipaeoegcaa
open Go.RowKit

theorem add1 (a : Addr) : a.add 1 = { block := a.block, off := a.off + 1 } := by simp [Addr.add]
theorem addS (a : Addr) (j : Nat) : a.add (j + 1) = { block := a.block, off := a.off + (j + 1) } := by simp [Addr.add]
theorem refTake_nil (A : Option Addr) (c : Nat) (w : World) : Calls Try.prog 63 #[.slice A 0 c] w (RetTake w none) := by
  go_enter Try.func63, Try.ntmps63
  go_wp2
  go_ret3
  exact RetTake.no rfl (Below.refl _ _) rfl

theorem refTake_bad (A : Option Addr) (c n : Nat) (m : UInt8) (r : List UInt8) (w : World) (hn : n = r.length + 1) (hr : Row w A ((m :: r).map B8)) (h : 8 < m.toNat ∨ r.length < m.toNat) :
    Calls Try.prog 63 #[.slice A n c] w (RetTake w none) := by
  obtain ⟨ad, x, rfl, hx, hmx, hcell⟩ := b8_at (l := m :: r) hr (k := 0) (by simp)
  have hmx' : m.toNat = x := hmx
  rw [add0] at hcell
  rw [hmx'] at h
  have hp : (0 : Int) < (n : Int) := by omega
  have hne : ((n : Int) == 0) = false := by simp; omega
  clear hr hmx hmx'
  by_cases h8 : 8 < x
  · clear h hn
    go_enter Try.func63, Try.ntmps63
    go_wp2
    go_ret3
    exact RetTake.no rfl (Below.refl _ _) rfl
  · have hge : n ≤ x := by omega
    clear h hn
    go_enter Try.func63, Try.ntmps63
    go_wp2
    go_ret3
    exact RetTake.no rfl (Below.refl _ _) rfl

/-- Its first byte would be nought, or its eighth too great. -/
def badHead (x y : Nat) : Prop := (x = 8 ∧ 128 ≤ y) ∨ (0 < x ∧ y = 0)

theorem refTake_head (A : Option Addr) (c n : Nat) (m : UInt8) (r : List UInt8) (w : World) (hn : n = r.length + 1) (hr : Row w A ((m :: r).map B8)) (h8 : m.toNat ≤ 8) (hl : m.toNat ≤ r.length) (hbad : badHead m.toNat (r.getD 0 0).toNat) :
    Calls Try.prog 63 #[.slice A n c] w (RetTake w none) := by
  obtain ⟨ad, x, rfl, hx, hmx, hcell⟩ := b8_at (l := m :: r) hr (k := 0) (by simp)
  have hmx' : m.toNat = x := hmx
  rw [add0] at hcell
  rw [hmx'] at h8 hl hbad
  have hr1 : 1 ≤ r.length := by rcases hbad with h | h <;> omega
  obtain ⟨ad', y, hA, hy, hmy, hcell1⟩ := b8_at (l := m :: r) hr (k := 1) (by simp; omega)
  injection hA with hA
  subst hA
  have hy' : (r.getD 0 0).toNat = y := by
    rw [← hmy, List.getD_eq_getElem?_getD, List.getElem?_eq_getElem (by omega)]
    rfl
  rw [hy'] at hbad
  rw [add1] at hcell1
  have hp : (0 : Int) < (n : Int) := by omega
  have hp1 : (1 : Int) < (n : Int) := by omega
  have hne : ((n : Int) == 0) = false := by simp; omega
  have hlt : x < n := by omega
  clear hr hmx hmx' hmy hy' hl hn hr1
  by_cases he : x = 8
  · have hxe : ((x : Int) == 8) = true := by simp; omega
    by_cases hy1 : 128 ≤ y
    · have hyi : (128 : Int) ≤ (y : Int) := by omega
      clear hbad he
      go_enter Try.func63, Try.ntmps63
      go_wp2
      go_ret3
      exact RetTake.no rfl (Below.refl _ _) rfl
    · have hy0 : ((y : Int) == 0) = true := by rcases hbad with h | h <;> simp <;> omega
      have hx0 : (0 : Int) < (x : Int) := by omega
      have hyi : ¬ (128 : Int) ≤ (y : Int) := by omega
      clear hbad he hy1
      go_enter Try.func63, Try.ntmps63
      go_wp2
      go_ret3
      exact RetTake.no rfl (Below.refl _ _) rfl
  · have hxe : ((x : Int) == 8) = false := by simp; omega
    have hy0 : ((y : Int) == 0) = true := by rcases hbad with h | h <;> simp <;> omega
    have hx0 : (0 : Int) < (x : Int) := by rcases hbad with h | h <;> omega
    clear hbad he
    go_enter Try.func63, Try.ntmps63
    go_wp2
    go_ret3
    exact RetTake.no rfl (Below.refl _ _) rfl

set_option maxHeartbeats 1000000 in
theorem refTake_good (A : Option Addr) (c n : Nat) (m : UInt8) (r : List UInt8) (w : World) (hn : n = r.length + 1) (hnc : n ≤ c) (hnb : n ≤ 1000000000) (hr : Row w A ((m :: r).map B8)) (h8 : m.toNat ≤ 8) (hl : m.toNat ≤ r.length)
    (hgood : ¬ badHead m.toNat (r.getD 0 0).toNat) : Calls Try.prog 63 #[.slice A n c] w (RetTake w (some (Pack.val (r.take m.toNat), r.drop m.toNat))) := by
  have hV8 : Pack.val (r.take m.toNat) < 9223372036854775808 := by
    rw [Pack.val_eight _ (by rw [List.length_take]; omega)]
    rintro ⟨h1, h2⟩
    apply hgood
    left
    rw [List.length_take] at h1
    refine ⟨by omega, ?_⟩
    rwa [show (r.take m.toNat).getD 0 0 = r.getD 0 0 by rw [List.getD_eq_getElem?_getD, List.getD_eq_getElem?_getD, List.getElem?_take, if_pos (by omega)]] at h2
  obtain ⟨ad, x, rfl, hx, hmx, hcell⟩ := b8_at (l := m :: r) hr (k := 0) (by simp)
  have hmx' : m.toNat = x := hmx
  have HR := Lib.hid hr
  have H2 := Lib.hid (hr.cut (k := x + 1) (cap := c) (by simp; omega))
  rw [add0] at hcell
  rw [hmx'] at h8 hl hgood hV8 ⊢
  have hp : (0 : Int) < (n : Int) := by omega
  have hne : ((n : Int) == 0) = false := by simp; omega
  have hlt : x < n := by omega
  have HV8 := Lib.hid hV8
  have hcut2 := run_cut (some ad) n c (x + 1) (by omega) ((x : Int) + 1) (by omega)
  obtain ⟨A2, HA2⟩ : ∃ A2, Hid (A2 = if c = x + 1 then some ad else Option.map (fun z => z.add (x + 1)) (some ad)) := ⟨_, Lib.hid rfl⟩
  rw [← HA2.out] at hcut2 H2
  have R2 : Hid (Row w A2 ((r.drop x).map B8)) := by simpa using H2
  have HDl := Lib.hid (show (r.drop x).length = n - (x + 1) by rw [List.length_drop]; omega)
  obtain ⟨L, HL⟩ : ∃ L, Hid (L = r.drop x) := ⟨_, Lib.hid rfl⟩
  rw [← HL.out] at R2 HDl ⊢
  rw [← HDl.out] at hcut2
  have HCc := Lib.hid (show L.length ≤ c - (x + 1) by rw [HDl.out]; omega)
  have hxr : ∀ j, j < x → ∃ y : Nat, y < 256 ∧ (r.getD j 0).toNat = y ∧ Pack.val (r.take (j + 1)) = Pack.val (r.take j) * 256 + y ∧ w.cell? (ad.add (j + 1)) = some (.int .u8 (y : Int)) := by
    intro j hj
    obtain ⟨ad', y, hA, hy, hmy, hcell1⟩ := b8_at (l := m :: r) HR.out (k := j + 1) (by simp; omega)
    injection hA with hA
    subst hA
    have hrj : r[j].toNat = y := hmy
    refine ⟨y, hy, ?_, ?_, hcell1⟩
    · rw [List.getD_eq_getElem?_getD, List.getElem?_eq_getElem (by omega)]; exact hrj
    · rw [take_snoc (by omega), Pack.val_snoc, hrj]
  have HX := Lib.hid hxr
  clear hr hmx hmx' hl hn hV8 hxr
  by_cases hx0 : x = 0
  · have hxe : ((x : Int) == 8) = false := by simp; omega
    have hxz : ¬ (0 : Int) < (x : Int) := by omega
    clear hgood hx0
    go_enter Try.func63, Try.ntmps63
    go_wp2
    go_loop [6, 7] (fun v i => ∃ j : Nat, j ≤ x ∧ i = .int .i64 ((j + 1 : Nat) : Int) ∧ v = .int .i64 (Pack.val (r.take j) : Int)) (fun _ i => x + 1 - (intOf i).toNat)
    case atStart => exact ⟨0, Nat.zero_le _, rfl, rfl⟩
    case round =>
      obtain ⟨j, hj, rfl, rfl⟩ := hrel
      by_cases hjx : j < x
      · exact absurd hjx (by omega)
      · obtain rfl : x = j := by omega
        obtain ⟨V, HV⟩ : ∃ V, Hid (V = Pack.val (r.take x)) := ⟨_, Lib.hid rfl⟩
        rw [← HV.out]
        go_wp2
        go_quiet (fail)
        go_wp2
        go_ret3
        rw [← HV.out]
        exact ⟨(Below.refl _ _).trans (by exact ⟨rfl, rfl, rfl, Nat.le_refl _, fun _ _ => rfl⟩), _, rfl, A2, _, rfl, HCc.out, R2.out⟩
  · obtain ⟨y, hy, hry, _, hcell1⟩ := HX.out 0 (by omega)
    rw [hry] at hgood
    rw [show 0 + 1 = 1 from rfl, add1] at hcell1
    have hxz : (0 : Int) < (x : Int) := by omega
    have hp1 : (1 : Int) < (n : Int) := by omega
    have hy0 : ((y : Int) == 0) = false := by
      have : y ≠ 0 := fun e => hgood (.inr ⟨by omega, e⟩)
      simp; omega
    by_cases he : x = 8
    · have hxe : ((x : Int) == 8) = true := by simp; omega
      have hyi : ¬ (128 : Int) ≤ (y : Int) := by
        have : ¬ 128 ≤ y := fun h => hgood (.inl ⟨he, h⟩)
        omega
      clear hgood hry he hx0
      go_enter Try.func63, Try.ntmps63
      go_wp2
      clear hcell1 hy0 hxe hxz hyi
      go_loop [6, 7] (fun v i => ∃ j : Nat, j ≤ x ∧ i = .int .i64 ((j + 1 : Nat) : Int) ∧ v = .int .i64 (Pack.val (r.take j) : Int)) (fun _ i => x + 1 - (intOf i).toNat)
      case atStart => exact ⟨0, Nat.zero_le _, rfl, rfl⟩
      case round =>
        obtain ⟨j, hj, rfl, rfl⟩ := hrel
        by_cases hjx : j < x
        · obtain ⟨y', hy', _, hval, hcell2⟩ := HX.out j hjx
          have hVV : Pack.val (r.take j) * 256 + y' < 9223372036854775808 := by
            rw [← hval]
            by_cases h : j + 1 = x
            · rw [h]; exact HV8.out
            · have := val_small (l := r) (show j + 1 ≤ 7 by omega)
              omega
          have HS := Lib.hid hval
          obtain ⟨V, HV⟩ : ∃ V, Hid (V = Pack.val (r.take j)) := ⟨_, Lib.hid rfl⟩
          rw [← HV.out] at hVV HS ⊢
          have hjn : j + 1 < n := by omega
          have hjx2 : ((j + 1 : Nat) : Int) ≤ (x : Int) := by omega
          clear hval
          rw [addS] at hcell2
          go_wp2
          go_round
          case rel => exact ⟨j + 1, by omega, by go_num, by rw [HS.out]; go_num⟩
          case measure => simp [intOf]; omega
        · obtain rfl : x = j := by omega
          obtain ⟨V, HV⟩ : ∃ V, Hid (V = Pack.val (r.take x)) := ⟨_, Lib.hid rfl⟩
          rw [← HV.out]
          go_wp2
          go_quiet (fail)
          go_wp2
          go_ret3
          rw [← HV.out]
          exact ⟨(Below.refl _ _).trans (by exact ⟨rfl, rfl, rfl, Nat.le_refl _, fun _ _ => rfl⟩), _, rfl, A2, _, rfl, HCc.out, R2.out⟩
    · have hxe : ((x : Int) == 8) = false := by simp; omega
      clear hgood hry he hx0
      go_enter Try.func63, Try.ntmps63
      go_wp2
      clear hcell1 hy0 hxe hxz
      go_loop [6, 7] (fun v i => ∃ j : Nat, j ≤ x ∧ i = .int .i64 ((j + 1 : Nat) : Int) ∧ v = .int .i64 (Pack.val (r.take j) : Int)) (fun _ i => x + 1 - (intOf i).toNat)
      case atStart => exact ⟨0, Nat.zero_le _, rfl, rfl⟩
      case round =>
        obtain ⟨j, hj, rfl, rfl⟩ := hrel
        by_cases hjx : j < x
        · obtain ⟨y', hy', _, hval, hcell2⟩ := HX.out j hjx
          have hVV : Pack.val (r.take j) * 256 + y' < 9223372036854775808 := by
            rw [← hval]
            by_cases h : j + 1 = x
            · rw [h]; exact HV8.out
            · have := val_small (l := r) (show j + 1 ≤ 7 by omega)
              omega
          have HS := Lib.hid hval
          obtain ⟨V, HV⟩ : ∃ V, Hid (V = Pack.val (r.take j)) := ⟨_, Lib.hid rfl⟩
          rw [← HV.out] at hVV HS ⊢
          have hjn : j + 1 < n := by omega
          have hjx2 : ((j + 1 : Nat) : Int) ≤ (x : Int) := by omega
          clear hval
          rw [addS] at hcell2
          go_wp2
          go_round
          case rel => exact ⟨j + 1, by omega, by go_num, by rw [HS.out]; go_num⟩
          case measure => simp [intOf]; omega
        · obtain rfl : x = j := by omega
          obtain ⟨V, HV⟩ : ∃ V, Hid (V = Pack.val (r.take x)) := ⟨_, Lib.hid rfl⟩
          rw [← HV.out]
          go_wp2
          go_quiet (fail)
          go_wp2
          go_ret3
          rw [← HV.out]
          exact ⟨(Below.refl _ _).trans (by exact ⟨rfl, rfl, rfl, Nat.le_refl _, fun _ _ => rfl⟩), _, rfl, A2, _, rfl, HCc.out, R2.out⟩

end Go.Proofs.Ytjcngipaeoegcaa
