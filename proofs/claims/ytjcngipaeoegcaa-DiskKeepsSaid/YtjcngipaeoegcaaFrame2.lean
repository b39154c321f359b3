/-
  Frames: slices.Grow of nothing, slices.Concat.
-/
import Derived.Test.YtjcngipaeoegcaaFrame1
import Derived.Lib.AppendZerosOnto
import Derived.Lib.Walk
import Derived.Lib.SliceRun
namespace Go.Proofs.Ytjcngipaeoegcaa
open Go.RowKit

theorem info5 : ∃ i, Try.prog.info? 5 = some i ∧ i.zero = some (.int .u8 0) ∧ i.size = 1 ∧ i.bytes = 1 :=
  info_parts (show (Try.prog.info? 5).map (fun i => (i.zero, i.size, i.bytes)) = some (some (.int .u8 0), 1, 1) by kernel_rfl)

theorem zeros_size (k : Nat) : (Builtin.zeroCells (Value.int .u8 0).cells k).size = k := by
  simp [Builtin.zeroCells, Value.cells]

set_option maxHeartbeats 1000000 in
theorem grow_any (n : Nat) (w : World) (hn : n ≤ 1000000000000) : Calls Try.prog 46 #[.slice none 0 0, .int .i64 (n : Int)] w (RetOwn w []) := by
  by_cases h0 : n = 0
  · subst h0
    go_enter Try.func46, Try.ntmps46
    go_wp2
    go_ret
    exact ⟨_, rfl, Own.nil _ _, Below.refl _ _⟩
  · obtain ⟨i, hi, hz, hs, hb⟩ := info5
    have hrz : ∀ ty, (Builtin.append_ #[22, 3] ty #[.slice none 0 0, .int .i64 (n : Int)]).run Try.prog w =
        .ok (.slice (some ⟨w.heap.size, 0, none⟩) n (grownCap w n 0 5)) (w.drew.alloc (.cells (#[] ++ Builtin.zeroCells (Value.int .u8 0).cells n ++ Builtin.zeroCells (Value.int .u8 0).cells (grownCap w n 0 5 - n)) 5)) := fun ty => by
      have h := Lib.run_append_grow_zeros w 22 3 ty 5 i (.int .u8 0) .i64 .i64 Try.underlying22 Try.underlying3 hi hz none 0 0 [] (run_firstCells_none w.drew i.size 0 0 0) n (by omega) (by omega) (by omega) (by omega)
        (by rw [hb]; omega) (by rw [Nat.zero_add]; exact growslice_fits (by omega) (by rw [hb]; omega))
      rw [Nat.zero_add] at h
      exact h
    have hGn : n ≤ grownCap w n 0 5 := grownCap_ge w _ _ _
    have hGm := grownCap_le_maxLen w n 0 5 (by unfold maxLen; omega)
    obtain ⟨G, hG⟩ : ∃ G, G = grownCap w n 0 5 := ⟨_, rfl⟩
    rw [← hG] at hrz hGn hGm
    obtain ⟨cs, hcs⟩ : ∃ cs, cs = (#[] ++ Builtin.zeroCells (Value.int .u8 0).cells n ++ Builtin.zeroCells (Value.int .u8 0).cells (G - n) : Array Value) := ⟨_, rfl⟩
    rw [← hcs] at hrz
    have hsz : cs.size = G := by rw [hcs]; simp only [Array.size_append, zeros_size]; simp; omega
    have hG63 : G ≤ 9223372036854775807 := by unfold maxLen at hGm; omega
    have hpos : (0 : Int) < (n : Int) := by omega
    have HO := Lib.hid (show Own (w.drew.alloc (.cells cs 5)) w.heap.size (.slice (some ⟨w.heap.size, 0, none⟩) 0 G) [] from
      ⟨by simp, .inr ⟨w.heap.size, G, cs, rfl, Nat.le_refl _, heap_alloc_new w.drew _, Nat.zero_le _, hGm, by omega, by simp⟩⟩)
    have HE := Lib.hid (show Ext w (w.drew.alloc (.cells cs 5)) from (Ext.drew' w).alloc' _)
    clear hG hcs hs hb hz hi hsz hGm
    go_enter Try.func46, Try.ntmps46
    go_wp2_with (at_builtin; refine Lib.wpList_append_run _ rfl _ _ _ _ rfl _ _ rfl rfl _ _ (hrz _) ?_)
    go_ret
    exact ⟨_, rfl, HO.out, HE.out⟩

theorem joined_le (ps : List (Option Addr × Nat × List UInt8)) (k : Nat) : (joined (ps.take k)).length ≤ (joined ps).length := by
  conv => rhs; rw [← List.take_append_drop k ps]
  simp only [joined, List.map_append, List.flatten_append, List.length_append]
  omega

set_option maxHeartbeats 1000000 in
theorem concat_any (A : Option Addr) (cap : Nat) (ps : List (Option Addr × Nat × List UInt8)) (w : World) (hl : ps.length ≤ 1000000000) (hj : (joined ps).length ≤ 1000000000) (hp : Parts w A ps) :
    Calls Try.prog 32 #[.slice A ps.length cap] w (RetOwn w (joined ps)) := by
  have HP := Lib.hid hp
  clear hp
  have HLe := Lib.hid (fun k => Nat.le_trans (joined_le ps k) hj)
  go_enter Try.func32, Try.ntmps32
  go_wp2
  go_loop [3, 11] (fun n i => ∃ k : Nat, k ≤ ps.length ∧ i = .int .i64 k ∧ n = .int .i64 ((joined (ps.take k)).length : Int)) (fun _ i => ps.length - (intOf i).toNat)
  case atStart => exact ⟨0, Nat.zero_le _, rfl, rfl⟩
  case round =>
    obtain ⟨k, hk, rfl, rfl⟩ := hrel
    have hb := HLe.out k
    by_cases hlt : k < ps.length
    · obtain ⟨ad, rfl, hcell⟩ := HP.out.1.at_ (k := k) (by simpa using hlt)
      obtain ⟨hrow, hlen⟩ := HP.out.2 ps[k] (List.getElem_mem hlt)
      rw [List.getElem_map] at hcell
      have HJ := Lib.hid (congrArg List.length (joined_snoc hlt))
      rw [List.length_append] at HJ
      have hb1 := HLe.out (k + 1)
      obtain ⟨⟨B, cb, l⟩, hpk⟩ : ∃ p, p = ps[k] := ⟨_, rfl⟩
      rw [← hpk] at hcell hrow hlen HJ
      simp only at hcell hrow hlen HJ
      obtain ⟨n0, Hn0⟩ : ∃ n0, Hid (n0 = (joined (ps.take k)).length) := ⟨_, Lib.hid rfl⟩
      obtain ⟨n1, Hn1⟩ : ∃ n1, Hid (n1 = (joined (ps.take (k + 1))).length) := ⟨_, Lib.hid rfl⟩
      rw [← Hn0.out] at HJ hb ⊢
      rw [← Hn1.out] at HJ hb1
      have hneg : ¬ ((n0 : Int) + (l.length : Int) < 0) := by omega
      clear hpk hrow
      go_wp2
      go_round
      case rel => exact ⟨k + 1, by omega, by go_num, by rw [← Hn1.out, HJ.out]; go_num⟩
      case measure => simp [intOf]; omega
    · obtain rfl : k = ps.length := by omega
      have HT := Lib.hid (show joined (ps.take ps.length) = joined ps by rw [List.take_length])
      rw [HT.out] at hb ⊢
      clear hk hlt
      go_wp2_with fail
      refine (grow_any _ _ (by omega)).mono ?_
      intro e w1 ⟨v, he, hown, hb1⟩
      subst he
      obtain ⟨A1, c1, hv, hc1⟩ := hown.shape
      subst hv
      have HO := Lib.hid hown
      have HB1 := Lib.hid hb1
      clear hown hb1 hc1
      go_wp2_with fail
      go_loopw [6, 27] (fun d i wr => ∃ k : Nat, k ≤ ps.length ∧ i = .int .i64 k ∧ ∃ A' c' L, d = .slice A' L.length c' ∧ Own wr w.heap.size (.slice A' L.length c') L ∧ L = joined (ps.take k) ∧ Ext w wr) (fun _ i _ => ps.length - (intOf i).toNat)
      case atStart => exact ⟨0, Nat.zero_le _, rfl, A1, c1, [], rfl, HO.out, by simp [joined], HB1.out⟩
      case round =>
        obtain ⟨k, hk, rfl, A', c', L, rfl, hown, hLe, hext⟩ := hrel
        have HO := Lib.hid hown
        have HE := Lib.hid hext
        have hsz := hext.size
        have HLk := Lib.hid hLe
        have hLb : L.length ≤ 1000000000 := by rw [hLe]; exact HLe.out k
        clear hown hext hLe
        by_cases hlt : k < ps.length
        · obtain ⟨ad, rfl, hcell0⟩ := HP.out.1.at_ (k := k) (by simpa using hlt)
          obtain ⟨hrow, hlen⟩ := HP.out.2 ps[k] (List.getElem_mem hlt)
          rw [List.getElem_map] at hcell0
          have HJ := Lib.hid (joined_snoc hlt)
          obtain ⟨⟨B, cb, l⟩, hpk⟩ : ∃ p, p = ps[k] := ⟨_, rfl⟩
          rw [← hpk] at hcell0 hrow hlen HJ
          simp only at hcell0 hrow hlen HJ
          have HR := Lib.hid hrow
          have hcell := HE.out.cellAt hcell0
          clear hpk hrow hcell0
          go_wp2_with (at_builtin; go_must (refine wpList_append_bytes bt22 rfl (.tmp 31) (.tmp 32) rfl HO.out rfl rfl rfl (HR.out.ext HE.out) (by omega) hsz ?_); intro A3 c3 w3 hown3 hg3 hbl3; have hb3 := Lib.hid (HO.out.below hg3 HE.out hsz (Nat.le_refl _)); have HO3 := Lib.hid hown3; clear hown3 hg3 hbl3)
          go_roundw
          case rel => exact ⟨k + 1, by omega, by go_num, A3, c3, L ++ l, by simp, by simpa using HO3.out, by rw [HJ.out, HLk.out], hb3.out⟩
          case measure => simp [intOf]; omega
        · obtain rfl : k = ps.length := by omega
          go_wp2_with fail
          go_ret
          exact ⟨_, rfl, by rw [← HT.out, ← HLk.out]; exact HO.out, HE.out⟩

end Go.Proofs.Ytjcngipaeoegcaa
