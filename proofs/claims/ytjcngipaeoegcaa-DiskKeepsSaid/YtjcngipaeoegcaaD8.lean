/-
  Disks: slices.Grow of nothing, slices.Concat, at slices of slices of bytes.
-/
import Derived.Test.YtjcngipaeoegcaaNoBm
import Derived.Test.YtjcngipaeoegcaaD7
import Derived.Lib.AppendZerosOnto
import Derived.Lib.Walk
import Derived.Lib.SliceRun
namespace Go.Proofs.Ytjcngipaeoegcaa
open Go.RowKit

def RetLs (w : World) (ls : List (List UInt8)) (e : Ending) (w' : World) : Prop := ∃ v, e = .returned v ∧ LsN w' w.heap.size v ls ∧ Ext w w'

theorem zero_cells_size (k : Nat) : (Builtin.zeroCells (Value.slice none 0 0).cells k).size = k := by
  simp [Builtin.zeroCells, Value.cells]

set_option maxHeartbeats 1000000 in
theorem grow2_any (n : Nat) (w : World) (hn : n ≤ 1000000000) : Calls Try.prog 53 #[.slice none 0 0, .int .i64 (n : Int)] w (RetLs w []) := by
  by_cases h0 : n = 0
  · subst h0
    go_enter Try.func53, Try.ntmps53
    go_wp2
    go_ret
    exact ⟨_, rfl, LsN.nil _ _, Below.refl _ _⟩
  · obtain ⟨i, hi, hz, hs, hb⟩ := info22
    have hrz : ∀ ty, (Builtin.append_ #[27, 3] ty #[.slice none 0 0, .int .i64 (n : Int)]).run Try.prog w =
        .ok (.slice (some ⟨w.heap.size, 0, none⟩) n (grownCap w n 0 22)) (w.drew.alloc (.cells (#[] ++ Builtin.zeroCells (Value.slice none 0 0).cells n ++ Builtin.zeroCells (Value.slice none 0 0).cells (grownCap w n 0 22 - n)) 22)) := fun ty => by
      have h := Lib.run_append_grow_zeros w 27 3 ty 22 i (.slice none 0 0) .i64 .i64 Try.underlying27 Try.underlying3 hi hz none 0 0 [] (run_firstCells_none w.drew i.size 0 0 0) n (by omega) (by omega) (by omega) (by omega)
        (by rw [hb]; omega) (by rw [Nat.zero_add]; exact growslice_fits (by omega) (by rw [hb]; omega))
      rw [Nat.zero_add] at h
      exact h
    have hGn : n ≤ grownCap w n 0 22 := grownCap_ge w _ _ _
    have hGm := grownCap_le_maxLen w n 0 22 (by unfold maxLen; omega)
    obtain ⟨G, hG⟩ : ∃ G, G = grownCap w n 0 22 := ⟨_, rfl⟩
    rw [← hG] at hrz hGn hGm
    obtain ⟨cs, hcs⟩ : ∃ cs, cs = (#[] ++ Builtin.zeroCells (Value.slice none 0 0).cells n ++ Builtin.zeroCells (Value.slice none 0 0).cells (G - n) : Array Value) := ⟨_, rfl⟩
    rw [← hcs] at hrz
    have hsz : cs.size = G := by rw [hcs]; simp only [Array.size_append, zero_cells_size]; simp; omega
    have hG63 : G ≤ 9223372036854775807 := by unfold maxLen at hGm; omega
    have hpos : (0 : Int) < (n : Int) := by omega
    have hno : ∀ u ∈ cs.toList, ∀ x, u ≠ B8 x := by
      intro u hu x e
      rw [hcs] at hu
      simp only [Array.toList_append, List.mem_append] at hu
      rcases hu with (hu | hu) | hu
      · simp at hu
      · rw [zero_cells_mem rfl hu] at e; cases e
      · rw [zero_cells_mem rfl hu] at e; cases e
    have HO := Lib.hid (show LsN (w.drew.alloc (.cells cs 22)) w.heap.size (.slice (some ⟨w.heap.size, 0, none⟩) 0 G) [] from
      ⟨⟨[], ⟨by simp, .inr ⟨w.heap.size, G, cs, rfl, Nat.le_refl _, heap_alloc_new w.drew _, Nat.zero_le _, hGm, by omega, by simp⟩⟩, BsL.nil _⟩, fun g cs' t fr hg hh => by
        injection hg with hg
        subst hg
        have := heap_alloc_new w.drew (.cells cs 22)
        rw [show w.drew.heap.size = w.heap.size from rfl] at this
        rw [this] at hh
        injection hh with hh
        injection hh with hh
        subst hh
        exact hno⟩)
    have HE := Lib.hid (show Ext w (w.drew.alloc (.cells cs 22)) from (Ext.drew' w).alloc' _)
    clear hG hcs hs hb hz hi hsz hGm hno
    go_enter Try.func53, Try.ntmps53
    go_wp2_with (at_builtin; refine Lib.wpList_append_run _ rfl _ _ _ _ rfl _ _ rfl rfl _ _ (hrz _) ?_)
    go_ret
    exact ⟨_, rfl, HO.out, HE.out⟩

/-- The first parts of two. -/
def pre2 (l1 l2 : List (List UInt8)) : Nat → List (List UInt8)
  | 0 => []
  | 1 => l1
  | _ => l1 ++ l2
theorem pre2_at {w : World} {ad A1' : Addr} {A1 A2 : Option Addr} {c1 c2 : Nat} {l1 l2 : List (List UInt8)} (_ : A1' = ad) (hr : Row w (some ad) [.slice A1 l1.length c1, .slice A2 l2.length c2]) (h1 : Ls w A1 l1) (h2 : Ls w A2 l2) {k : Nat} (hk : k < 2) :
    ∃ B d l, w.cell? (ad.add k) = some (.slice B l.length d) ∧ Ls w B l ∧ pre2 l1 l2 (k + 1) = pre2 l1 l2 k ++ l := by
  obtain ⟨ad', e, hcell⟩ := hr (by simp)
  injection e with e
  subst e
  rcases (show k = 0 ∨ k = 1 by omega) with rfl | rfl
  · exact ⟨A1, c1, l1, hcell 0 _ rfl, h1, by simp [pre2]⟩
  · exact ⟨A2, c2, l2, hcell 1 _ rfl, h2, rfl⟩
theorem pre2_le (l1 l2 : List (List UInt8)) (k : Nat) : (pre2 l1 l2 k).length ≤ l1.length + l2.length := by
  unfold pre2
  split <;> simp

set_option maxHeartbeats 2000000 in
set_option maxRecDepth 100000 in
theorem concat2_any (A A1 A2 : Option Addr) (cap c1 c2 : Nat) (l1 l2 : List (List UInt8)) (w : World) (hn1 : l1.length ≤ 100000000) (hn2 : l2.length ≤ 100000000) (hr : Row w A [.slice A1 l1.length c1, .slice A2 l2.length c2]) (h1 : Ls w A1 l1) (h2 : Ls w A2 l2) :
    Calls Try.prog 39 #[.slice A 2 cap] w (RetLs w (l1 ++ l2)) := by
  obtain ⟨ad, hA, hx⟩ := hr (by simp)
  clear hx
  subst hA
  have HAT := Lib.hid (fun k (hk : k < 2) => pre2_at rfl hr h1 h2 hk)
  have HLE := Lib.hid (fun k => Nat.le_trans (pre2_le l1 l2 k) (show l1.length + l2.length ≤ 200000000 by omega))
  have HT := Lib.hid (show pre2 l1 l2 2 = l1 ++ l2 from rfl)
  rw [← HT.out]
  obtain ⟨F, hF⟩ : ∃ F, Hid (F = pre2 l1 l2) := ⟨_, Lib.hid rfl⟩
  rw [← hF.out] at HAT HLE ⊢
  have HZ := Lib.hid (show F 0 = [] by rw [hF.out]; rfl)
  clear hr h1 h2 hn1 hn2
  go_enter Try.func39, Try.ntmps39
  go_wp2_with fail
  go_loop [3, 11] (fun s i => ∃ k : Nat, k ≤ 2 ∧ i = .int .i64 (k : Int) ∧ s = .int .i64 ((F k).length : Int)) (fun _ i => 2 - (intOf i).toNat)
  case atStart => exact ⟨0, by omega, rfl, by rw [HZ.out]; rfl⟩
  case round =>
    obtain ⟨k, hk, rfl, rfl⟩ := hrel
    by_cases hlt : k < 2
    · obtain ⟨B, d, l, hc, hl, hs⟩ := HAT.out k hlt
      obtain ⟨N, hN⟩ : ∃ N : Nat, Hid (N = (F k).length) := ⟨_, Lib.hid rfl⟩
      obtain ⟨M, hM⟩ : ∃ M : Nat, Hid (M = (F (k + 1)).length) := ⟨_, Lib.hid rfl⟩
      have hNM : (N : Int) + (l.length : Int) = (M : Int) := by rw [hN.out, hM.out, hs, List.length_append]; omega
      have hMb : M ≤ 200000000 := by rw [hM.out]; exact HLE.out _
      have hNb : N ≤ 200000000 := by rw [hN.out]; exact HLE.out _
      rw [← hN.out]
      clear hs hl
      go_wp2_with fail
      go_round
      case rel => exact ⟨k + 1, by omega, by go_num, by rw [← hM.out]⟩
      case measure => simp [intOf]; omega
    · obtain rfl : k = 2 := by omega
      obtain ⟨N, hN⟩ : ∃ N : Nat, Hid (N = (F 2).length) := ⟨_, Lib.hid rfl⟩
      have hNb : N ≤ 200000000 := by rw [hN.out]; exact HLE.out _
      rw [← hN.out]
      go_wp2_with fail
      refine (grow2_any N w (by omega)).mono ?_
      intro e w1 ⟨v, he, hl1, hb1⟩
      subst he
      obtain ⟨X, k1, hv, hk1⟩ := hl1.1.shape
      subst hv
      have HL1 := Lib.hid hl1
      have HE1 := Lib.hid hb1
      clear hl1 hb1 hk1
      go_wp2_with fail
      go_loopw [6, 27] (fun v i wr => ∃ k : Nat, k ≤ 2 ∧ i = .int .i64 (k : Int) ∧ ∃ A' c' L, v = .slice A' L.length c' ∧ L = F k ∧ LsN wr w.heap.size (.slice A' L.length c') L ∧ Ext w wr) (fun _ i _ => 2 - (intOf i).toNat)
      case atStart => exact ⟨0, by omega, rfl, X, k1, [], rfl, HZ.out.symm, HL1.out, HE1.out⟩
      case round =>
        obtain ⟨k, hk, rfl, A', c', L, rfl, hL, hown, hE⟩ := hrel
        have HO := Lib.hid hown
        have HE := Lib.hid hE
        have HL := Lib.hid hL
        have hsz := hE.size
        have hLb : L.length ≤ 200000000 := by rw [hL]; exact HLE.out _
        clear hown hE hL
        by_cases hlt : k < 2
        · obtain ⟨B, d, l, hc0, hl, hs⟩ := HAT.out k hlt
          have hc := HE.out.cellAt hc0
          have HLl := Lib.hid (hl.ext HE.out)
          have HS := Lib.hid hs
          have hlb : L.length + l.length ≤ 200000000 := by have := HLE.out (k + 1); rw [hs, List.length_append, ← HL.out] at this; exact this
          clear hs hl hc0
          go_wp2_with (at_builtin; go_must (refine wpList_append_lists st52 rfl (.tmp 31) (.tmp 32) rfl HO.out rfl rfl rfl HLl.out (by omega) hsz ?_); intro A3 c3 w3 hown3 hg3; have HO3 := Lib.hid hown3; have HE3 := Lib.hid (Below.grown HE.out hg3 hsz (fun g e => (HO.out.1.lt g e).1)); clear hown3 hg3)
          go_roundw
          case rel => exact ⟨k + 1, by omega, by go_num, A3, c3, L ++ l, by simp, by rw [HS.out, HL.out], by simpa using HO3.out, HE3.out⟩
          case measure => simp [intOf]; omega
        · obtain rfl : k = 2 := by omega
          go_wp2_with fail
          go_ret
          rw [← HL.out]
          exact ⟨_, rfl, HO.out, HE.out⟩

end Go.Proofs.Ytjcngipaeoegcaa
