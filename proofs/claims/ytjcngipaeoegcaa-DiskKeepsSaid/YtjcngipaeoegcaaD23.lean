/-
  Disks: few steps.
-/
import Derived.Test.YtjcngipaeoegcaaM4
import Derived.Test.YtjcngipaeoegcaaRound
namespace Go.Proofs.Ytjcngipaeoegcaa
open Go.RowKit

theorem add_at (ad : Addr) (n i : Nat) (hi : i ≠ 0) : ad.add (n + i) = ⟨(ad.add n).block, (ad.add n).off + i, none⟩ := by
  unfold Addr.add
  rw [if_neg (by omega)]
  split
  · rename_i h; subst h; simp
  · simp [Nat.add_assoc]
theorem InStep.at_ {w : World} {ad : Addr} {k : Nat} {s : Bool × List UInt8 × Int} (h : InStep w ad k s) : ∃ A c, w.cell? (ad.add (k * 3)) = some (.bool s.1) ∧ w.cell? ⟨(ad.add (k * 3)).block, (ad.add (k * 3)).off + 1, none⟩ = some (.slice A s.2.1.length c) ∧ w.cell? ⟨(ad.add (k * 3)).block, (ad.add (k * 3)).off + 2, none⟩ = some (.int .i64 s.2.2) ∧ s.2.1.length ≤ c ∧ Row w A (s.2.1.map B8) := by
  obtain ⟨u, h0, h1, h2, A, c, rfl, hc, hr⟩ := h
  rw [add_at _ _ 1 (by omega)] at h1
  rw [add_at _ _ 2 (by omega)] at h2
  exact ⟨A, c, h0, h1, h2, hc, hr⟩

abbrev Stp := Bool × List UInt8 × Int
def fewS (ss : List Stp) : Bool := ss.all (fun s => decide (s.2.1.length ≤ 100)) && decide (ss.length ≤ 60)

set_option maxHeartbeats 2000000 in
set_option maxRecDepth 100000 in
theorem fewS_any (A1 : Option Addr) (c1 : Nat) (l1 : List Stp) (w : World) (hm1 : l1.length ≤ 9223372036854775807) (h1 : InSteps w A1 l1) :
    Calls Try.prog 19 #[.slice A1 l1.length c1] w fun e w' => e = .returned (.bool (fewS l1)) ∧ Ext w w' := by
  have H1 := Lib.hid h1
  clear h1
  obtain ⟨tb, Htb⟩ : ∃ tb, Hid (fewS l1 = tb) := ⟨_, Lib.hid rfl⟩
  rw [Htb.out]
  go_enter Try.func19, Try.ntmps19
  go_wp2_with fail
  go_loopw [3] (fun i wr => ∃ k : Nat, k ≤ l1.length ∧ i = .int .i64 (k : Int) ∧ (∀ j (hj : j < l1.length), j < k → l1[j].2.1.length ≤ 100) ∧ Ext w wr) (fun i _ => l1.length - (intOf i).toNat)
  case atStart => exact ⟨0, Nat.zero_le _, rfl, fun j _ h => by omega, Below.refl _ _⟩
  case round =>
    obtain ⟨k, hk, rfl, hp, hE⟩ := hrel
    have HPk := Lib.hid hp
    have HE := Lib.hid hE
    clear hp hE
    by_cases hlt : k < l1.length
    · obtain ⟨s, hs⟩ : ∃ s, s = l1[k] := ⟨_, rfl⟩
      obtain ⟨ad1, rfl, hst⟩ := (H1.out.ext HE.out) k s (by rw [hs]; exact List.getElem?_eq_getElem hlt)
      obtain ⟨B1, d1, _, hc1, _, hd1, hr1⟩ := hst.at_
      have HX1 := Lib.hid hs
      clear hs hr1 hst
      have hki : (k : Int) < (l1.length : Int) := by omega
      by_cases hbig : 100 < s.2.1.length
      · go_wp2_with fail
        go_ret
        refine ⟨?_, HE.out⟩
        have : tb = false := by
          rw [← Htb.out]
          unfold fewS
          rw [Bool.and_eq_false_iff]
          left
          rw [List.all_eq_false]
          exact ⟨s, by rw [HX1.out]; exact List.getElem_mem hlt, by simp; omega⟩
        rw [this]
        rfl
      · go_wp2_with fail
        go_roundw
        case rel =>
          refine ⟨k + 1, by omega, by go_num, fun j hj hjk => ?_, HE.out⟩
          rcases Nat.lt_or_ge j k with h | h
          · exact HPk.out j hj h
          · obtain rfl : j = k := by omega
            rw [← HX1.out]; omega
        case measure => simp [intOf]; omega
    · obtain rfl : k = l1.length := by omega
      by_cases h100 : l1.length ≤ 60
      · have hd : decide ((l1.length : Int) ≤ 60) = true := by simp; omega
        go_wp2_with fail
        go_ret
        refine ⟨?_, HE.out⟩
        have : tb = true := by
          rw [← Htb.out]
          unfold fewS
          rw [Bool.and_eq_true]
          refine ⟨?_, by simpa using h100⟩
          rw [List.all_eq_true]
          intro x hx
          obtain ⟨j, hj, rfl⟩ := List.mem_iff_getElem.1 hx
          simpa using HPk.out j hj hj
        rw [this]
        rfl
      · have hd : decide ((l1.length : Int) ≤ 60) = false := by simp; omega
        go_wp2_with fail
        go_ret
        refine ⟨?_, HE.out⟩
        have : tb = false := by
          rw [← Htb.out]
          unfold fewS
          rw [Bool.and_eq_false_iff]
          right
          simpa using h100
        rw [this]
        rfl
end Go.Proofs.Ytjcngipaeoegcaa
