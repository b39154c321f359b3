/-
  What taking a number returns.
-/
import Derived.Test.YtjcngipaeoegcaaPack
import Derived.ScopeJumps
namespace Go.Proofs.Ytjcngipaeoegcaa
open Go.RowKit

/-- What taking a number hands back: the number, what is behind it, and whether. -/
def RetTake (w : World) (r : Option (Nat × List UInt8)) (e : Ending) (w' : World) : Prop :=
  Ext w w' ∧ match r with
  | some (n, l) => ∃ v, e = .returned (.tuple #[.int .i64 (n : Int), v, .int .i64 0]) ∧ Bs w' v l
  | none => e = .returned (.tuple #[.int .i64 0, .slice none 0 0, .int .i64 50])
theorem RetTake.no {w w' : World} {r : Option (Nat × List UInt8)} {e : Ending} (h : r = none) (hb : Ext w w') (he : e = .returned (.tuple #[.int .i64 0, .slice none 0 0, .int .i64 50])) : RetTake w r e w' := by
  subst h
  exact ⟨hb, he⟩

/-- The signed reading of 64 bits. -/
def sv (x : Nat) : Int := if x < 9223372036854775808 then (x : Int) else (x : Int) - 18446744073709551616
theorem or64 (V c : Nat) (hV : V < 72057594037927936) (hc : c < 256) : bits .or .i64 (wrap64 ((V : Int) * 256)) (c : Int) = sv (V * 256 + c) := by
  have h1 : (BitVec.ofInt 64 (wrap64 ((V : Int) * 256))).toNat = V * 256 := by
    rw [BitVec.toNat_ofInt]
    unfold wrap64
    omega
  have h2 : (BitVec.ofInt 64 (c : Int)).toNat = c := by
    rw [BitVec.toNat_ofInt]
    omega
  have h3 : V * 256 ||| c = V * 256 + c := nat_join 8 _ _ (by omega) (by omega)
  show IntKind.i64.wrap ((BitVec.ofInt 64 (wrap64 ((V : Int) * 256)) ||| BitVec.ofInt 64 (c : Int)).toNat : Int) = _
  rw [BitVec.toNat_or, h1, h2, h3, IntKind.wrap_i64]
  unfold sv
  split <;> omega

/-- The label's way ends in the error. -/
theorem err_end {w w' : World} {t : Array Value} (ht : t.size = 55) (hb : Ext w w') {r : Option (Nat × List UInt8)} (hr : r = none) :
    RetTake w r (.returned (.tuple #[(((t.setIfInBounds 2 (Value.int IntKind.i64 0)).setIfInBounds 3 (Value.slice none 0 0)).setIfInBounds 4 (Value.int IntKind.i64 50)).getD 2 undef,
      (((t.setIfInBounds 2 (Value.int IntKind.i64 0)).setIfInBounds 3 (Value.slice none 0 0)).setIfInBounds 4 (Value.int IntKind.i64 50)).getD 3 undef,
      (((t.setIfInBounds 2 (Value.int IntKind.i64 0)).setIfInBounds 3 (Value.slice none 0 0)).setIfInBounds 4 (Value.int IntKind.i64 50)).getD 4 undef])) w' := by
  refine RetTake.no hr hb ?_
  simp [Array.getD_eq_getD_getElem?, ht]

theorem val_small {l : List UInt8} {j : Nat} (h : j ≤ 7) : Pack.val (l.take j) < 72057594037927936 := by
  have h1 := Pack.val_lt (l.take j)
  have h2 : (l.take j).length ≤ 7 := by rw [List.length_take]; omega
  have h3 : 256 ^ (l.take j).length ≤ 256 ^ 7 := Nat.pow_le_pow_right (by omega) h2
  omega
theorem take_nil (A : Option Addr) (c : Nat) (w : World) : Calls Try.prog 51 #[.slice A 0 c] w (RetTake w none) := by
  go_enter Try.func51, Try.ntmps51
  go_wp2_with fail
  refine wp_scope_jumps 0 (fun a' w' => w' = w ∧ ∃ t : Array Value, a' = ⟨t, []⟩ ∧ t.size = 55) (fun _ _ => 0) rfl ?_ ?_
  · go_wp2
    go_step3
    exact ⟨rfl, rfl, _, rfl, rfl⟩
  · rintro a' w' ⟨rfl, t, rfl, ht⟩
    go_wp2
    simp only [Exit.jump]
    go_ret3
    exact err_end ht (Below.refl _ _) rfl

theorem add0 (a : Addr) : a.add 0 = a := by simp [Addr.add]
theorem take_bad (A : Option Addr) (c n : Nat) (m : UInt8) (r : List UInt8) (w : World) (hn : n = r.length + 1) (hr : Row w A ((m :: r).map B8)) (h : 8 < m.toNat ∨ r.length < m.toNat) :
    Calls Try.prog 51 #[.slice A n c] w (RetTake w none) := by
  obtain ⟨ad, x, rfl, hx, hmx, hcell⟩ := b8_at (l := m :: r) hr (k := 0) (by simp)
  have hmx' : m.toNat = x := hmx
  rw [add0] at hcell
  rw [hmx'] at h
  have hp : (0 : Int) < (n : Int) := by omega
  have hne : ((n : Int) == 0) = false := by simp; omega
  clear hr hmx hmx'
  by_cases h8 : 8 < x
  · clear h hn
    go_enter Try.func51, Try.ntmps51
    go_wp2_with fail
    refine wp_scope_jumps 0 (fun a' w' => w' = w ∧ ∃ t : Array Value, a' = ⟨t, []⟩ ∧ t.size = 55) (fun _ _ => 0) rfl ?_ ?_
    · go_wp2
      go_step3
      exact ⟨rfl, rfl, _, rfl, rfl⟩
    · rintro a' w' ⟨rfl, t, rfl, ht⟩
      go_wp2
      simp only [Exit.jump]
      go_ret3
      exact err_end ht (Below.refl _ _) rfl
  · have hge : n ≤ x := by omega
    clear h hn
    go_enter Try.func51, Try.ntmps51
    go_wp2_with fail
    refine wp_scope_jumps 0 (fun a' w' => w' = w ∧ ∃ t : Array Value, a' = ⟨t, []⟩ ∧ t.size = 55) (fun _ _ => 0) rfl ?_ ?_
    · go_wp2
      go_step3
      exact ⟨rfl, rfl, _, rfl, rfl⟩
    · rintro a' w' ⟨rfl, t, rfl, ht⟩
      go_wp2
      simp only [Exit.jump]
      go_ret3
      exact err_end ht (Below.refl _ _) rfl

/-- A slice cut at its beginning. -/
theorem run_cut (A : Option Addr) (n c k : Nat) (hk : k ≤ n) (i : Int) (hi : i = (k : Int)) (w : World) :
    (Instr.slice 22 (.slice A n c) (some (.int .i64 i)) none none).run Try.prog w = .ok (.slice (if c = k then A else A.map (·.add k)) (n - k) (c - k)) w := by
  subst hi
  have h1 : (k : Int) ≤ (n : Int) := by omega
  have hs : (sizeOf 5).run Try.prog w = .ok 1 w := by kernel_rfl
  have he : Try.prog.elem 22 = 5 := by kernel_rfl
  have hu : Try.prog.underlying 22 = some (.slice (Try.prog.elem 22)) := by rw [he]; exact Try.underlying22
  rw [run_slice_any w 22 A n c hu]
  simp [Instr.sliceBounds, run_sliceBound, he, hs, sliced, h1, Result.andThen]

set_option maxHeartbeats 1000000 in
theorem take_good (A : Option Addr) (c n : Nat) (m : UInt8) (r : List UInt8) (w : World) (hn : n = r.length + 1) (hnc : n ≤ c) (hnb : n ≤ 1000000000) (hr : Row w A ((m :: r).map B8)) (h8 : m.toNat ≤ 8) (hl : m.toNat ≤ r.length) :
    Calls Try.prog 51 #[.slice A n c] w (RetTake w (Pack.take (m :: r))) := by
  obtain ⟨ad, x, rfl, hx, hmx, hcell⟩ := b8_at (l := m :: r) hr (k := 0) (by simp)
  have hmx' : m.toNat = x := hmx
  rw [add0] at hcell
  have HR := Lib.hid hr
  rw [hmx'] at h8 hl
  have hp : (0 : Int) < (n : Int) := by omega
  have hp1 : (1 : Int) ≤ (n : Int) := by omega
  have hp2 : (1 : Int) ≤ (c : Int) := by omega
  have hne : ((n : Int) == 0) = false := by simp; omega
  have hlt : x < n := by omega
  have hR1 := hr.cut (k := 1) (cap := c) (by simp; omega)
  have hR2 := hr.cut (k := x + 1) (cap := c) (by simp; omega)
  have HM := Lib.hid hmx'
  have HN := Lib.hid hn
  have H1 := Lib.hid hR1
  have H2 := Lib.hid hR2
  clear hr hmx hmx' hn hl hR1 hR2
  go_enter Try.func51, Try.ntmps51
  go_wp2_with fail
  refine wp_scope_jumps 0 (fun a' w' => Ext w w' ∧ Pack.take (m :: r) = none ∧ ∃ t : Array Value, a' = ⟨t, []⟩ ∧ t.size = 55) (fun _ _ => 0) rfl ?_ ?_
  · go_wp2
    go_step3
    have hcut1 := run_cut (some ad) n c 1 (by omega) 1 rfl
    obtain ⟨A1, HA1⟩ : ∃ A1, Hid (A1 = if c = 1 then some ad else Option.map (fun x => x.add 1) (some ad)) := ⟨_, Lib.hid rfl⟩
    rw [← HA1.out] at hcut1 H1
    obtain ⟨p, Hp⟩ : ∃ p, Hid (p = n - 1) := ⟨_, Lib.hid rfl⟩
    rw [← Hp.out] at hcut1
    have hpl : p = r.length := by rw [Hp.out, HN.out]; omega
    have hxp : x ≤ p := by have := Hp.out; omega
    have hpb : p ≤ 1000000000 := by have := Hp.out; omega
    have HPl := Lib.hid hpl
    have R1 : Hid (Row w A1 (r.map B8)) := by simpa using H1
    clear hpl
    go_wp2
    go_loop [5, 27] (fun v i => ∃ j : Nat, j ≤ x ∧ i = .int .i64 j ∧ v = .int .i64 (sv (Pack.val (r.take j)))) (fun _ i => x - (intOf i).toNat)
    case atStart => exact ⟨0, Nat.zero_le _, rfl, rfl⟩
    case round =>
      obtain ⟨j, hj, rfl, rfl⟩ := hrel
      by_cases hjx : j < x
      · obtain ⟨bd, y, rfl, hy, hry, hcell2⟩ := b8_at R1.out (k := j) (by rw [← HPl.out]; omega)
        have hV := val_small (l := r) (show j ≤ 7 by omega)
        have HS := Lib.hid (show Pack.val (r.take (j + 1)) = Pack.val (r.take j) * 256 + y by rw [take_snoc (by rw [← HPl.out]; omega), Pack.val_snoc, hry])
        obtain ⟨V, HV⟩ : ∃ V, Hid (V = Pack.val (r.take j)) := ⟨_, Lib.hid rfl⟩
        rw [← HV.out] at hV HS ⊢
        have hor := or64 V y hV hy
        rw [← HS.out] at hor
        rw [show sv V = (V : Int) by unfold sv; rw [if_pos (by omega)]]
        have hb : ((j : Int) == (x : Int)) = false := by simp; omega
        have hjp : j < p := by omega
        clear hry
        go_wp2
        go_round
        case rel => exact ⟨j + 1, by omega, by go_num, rfl⟩
        case measure => simp [intOf]; omega
      · obtain rfl : x = j := by omega
        have hT := Lib.hid (show Pack.take (m :: r) = if Pack.val (r.take x) < 9223372036854775808 ∧ Pack.need (Pack.val (r.take x)) = x then some (Pack.val (r.take x), r.drop x) else none by
          simp only [Pack.take, HM.out]
          rw [if_neg (by rw [← HPl.out]; omega)])
        obtain ⟨V, HV⟩ : ∃ V, Hid (V = Pack.val (r.take x)) := ⟨_, Lib.hid rfl⟩
        rw [← HV.out] at hT ⊢
        have hb : ((x : Int) == (x : Int)) = true := by simp
        have hVb := Pack.val_lt (r.take x)
        rw [← HV.out] at hVb
        have hV64 : V < 18446744073709551616 := by
          have h1 : (r.take x).length ≤ 8 := by rw [List.length_take]; omega
          have h2 : 256 ^ (r.take x).length ≤ 256 ^ 8 := Nat.pow_le_pow_right (by omega) h1
          omega
        have hcellj : x < p → ∃ (bd : Addr) (y : Nat), A1 = some bd ∧ y < 256 ∧ w.cell? (bd.add x) = some (.int .u8 (y : Int)) := by
          intro h
          obtain ⟨bd, y, e, hy, _, hc⟩ := b8_at R1.out (k := x) (by rw [← HPl.out]; omega)
          exact ⟨bd, y, e, hy, hc⟩
        have HCJ := Lib.hid hcellj
        clear hcellj hVb
        by_cases hok : V < 9223372036854775808
        · rw [show sv V = (V : Int) by unfold sv; rw [if_pos hok]]
          have hVi : V ≤ 9223372036854775807 := by omega
          by_cases hnd : Pack.need V = x
          · have HT := Lib.hid (hT.out.trans (if_pos ⟨hok, hnd⟩))
            have HND := Lib.hid (fun w => need_any V w hVi)
            rw [hnd] at HND
            have hcut2 := run_cut (some ad) n c (x + 1) (by omega) (1 + (x : Int)) (by omega)
            obtain ⟨A2, HA2⟩ : ∃ A2, Hid (A2 = if c = x + 1 then some ad else Option.map (fun z => z.add (x + 1)) (some ad)) := ⟨_, Lib.hid rfl⟩
            rw [← HA2.out] at hcut2 H2
            have R2 : Hid (Row w A2 ((r.drop x).map B8)) := by simpa using H2
            have HDl := Lib.hid (show (r.drop x).length = n - (x + 1) by rw [List.length_drop, ← HPl.out, Hp.out]; omega)
            obtain ⟨L, HL⟩ : ∃ L, Hid (L = r.drop x) := ⟨_, Lib.hid rfl⟩
            rw [← HL.out] at R2 HDl HT
            rw [← HDl.out] at hcut2
            have hLb : L.length ≤ 1000000000 := by rw [HDl.out]; omega
            clear hnd hT
            by_cases hjp : x < p
            · obtain ⟨bd, y, rfl, hy, hcell2⟩ := HCJ.out hjp
              go_wp2_with (first
                | (go_at_call 58; refine (HND.out _).mono ?_; rintro e w2 ⟨rfl, rfl⟩)
                | (go_at_call 57; refine (clone_any _ _ _ _ R2.out (by omega)).mono ?_; rintro e w3 ⟨v, rfl, hown, hb3⟩))
              simp only [Exit.jump]
              go_ret3
              refine ⟨hb3, ?_⟩
              rw [HT.out]
              exact ⟨_, rfl, hown.bs⟩
            · clear HCJ
              go_wp2_with (first
                | (go_at_call 58; refine (HND.out _).mono ?_; rintro e w2 ⟨rfl, rfl⟩)
                | (go_at_call 57; refine (clone_any _ _ _ _ R2.out (by omega)).mono ?_; rintro e w3 ⟨v, rfl, hown, hb3⟩))
              simp only [Exit.jump]
              go_ret3
              refine ⟨hb3, ?_⟩
              rw [HT.out]
              exact ⟨_, rfl, hown.bs⟩
          · have HT := Lib.hid (hT.out.trans (if_neg (fun h => hnd h.2)))
            have HND := Lib.hid (fun w => need_any V w hVi)
            obtain ⟨q, Hq⟩ : ∃ q, Hid (q = Pack.need V) := ⟨_, Lib.hid rfl⟩
            rw [← Hq.out] at HND hnd
            have hqx : ((q : Int) == (x : Int)) = false := by simp; omega
            clear hnd hT
            by_cases hjp : x < p
            · obtain ⟨bd, y, rfl, hy, hcell2⟩ := HCJ.out hjp
              go_wp2_with (go_at_call 58; refine (HND.out _).mono ?_; rintro e w2 ⟨rfl, rfl⟩)
              go_step3
              go_wp2
              simp only [Exit.jump]
              go_ret3
              exact RetTake.no HT.out (Below.refl _ _) rfl
            · clear HCJ
              go_wp2_with (go_at_call 58; refine (HND.out _).mono ?_; rintro e w2 ⟨rfl, rfl⟩)
              go_step3
              go_wp2
              simp only [Exit.jump]
              go_ret3
              exact RetTake.no HT.out (Below.refl _ _) rfl
        · have HT := Lib.hid (hT.out.trans (if_neg (fun h => hok h.1)))
          obtain ⟨z, hz⟩ : ∃ z, z = sv V := ⟨_, rfl⟩
          have hzn : z < 0 := by rw [hz]; unfold sv; rw [if_neg hok]; omega
          rw [← hz]
          clear hz hT hok hV64
          by_cases hjp : x < p
          · obtain ⟨bd, y, rfl, hy, hcell2⟩ := HCJ.out hjp
            go_wp2_with fail
            go_step3
            go_wp2
            simp only [Exit.jump]
            go_ret3
            exact RetTake.no HT.out (Below.refl _ _) rfl
          · clear HCJ
            go_wp2_with fail
            go_step3
            go_wp2
            simp only [Exit.jump]
            go_ret3
            exact RetTake.no HT.out (Below.refl _ _) rfl

  · rintro a' w' ⟨hb, hnone, t, rfl, ht⟩
    go_wp2
    simp only [Exit.jump]
    go_ret3
    exact err_end ht hb hnone

theorem take_any (A : Option Addr) (c : Nat) (l : List UInt8) (w : World) (hlc : l.length ≤ c) (hl : l.length ≤ 1000000000) (hr : Row w A (l.map B8)) :
    Calls Try.prog 51 #[.slice A l.length c] w (RetTake w (Pack.take l)) := by
  cases l with
  | nil => exact take_nil A c w
  | cons m r =>
    by_cases h : 8 < m.toNat ∨ r.length < m.toNat
    · have := take_bad A c (r.length + 1) m r w rfl hr h
      rwa [show Pack.take (m :: r) = none by simp only [Pack.take]; rw [if_pos h]]
    · exact take_good A c (r.length + 1) m r w rfl hlc hl hr (by omega) (by omega)

end Go.Proofs.Ytjcngipaeoegcaa
