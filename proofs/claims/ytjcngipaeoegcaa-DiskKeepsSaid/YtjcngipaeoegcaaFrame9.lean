/-
  Frames: the iterator over all frames that bytes begin with.
-/
import Derived.Test.YtjcngipaeoegcaaFrame4
import Derived.Test.YtjcngipaeoegcaaFrame8
import Derived.Test.YtjcngipaeoegcaaRound
import Derived.RangeFuncNested
import Derived.RangeFuncBound
import Derived.RangeFuncLeaves
import Derived.Shelf.Abstract
import Derived.OwnWalkIn
import Derived.TacticsInMore
import Derived.LoopNIn
import Derived.LoopIn
namespace Go.Proofs.Ytjcngipaeoegcaa
open Go.RowKit

theorem frames_any (A : Option Addr) (n c : Nat) (w : World) :
    Calls Try.prog 35 #[.slice A n c] w fun e w' => e = .returned (.func (.func 49) #[] #[.pointer (some ⟨w.heap.size, 0, none⟩)]) ∧ w' = w.alloc (.cells #[.slice A n c] 22) := by
  go_enter Try.func35, Try.ntmps35
  go_wp2
  go_ret
  exact ⟨rfl, rfl⟩

/-- How long the slice is that a variable's box holds. -/
def boxLen (B : Nat) (w : World) : Nat := match w.cell? ⟨B, 0, none⟩ with | some (.slice _ n _) => n | _ => 0
theorem boxLen_of {B : Nat} {w : World} {t : TypeId} {A : Option Addr} {n c : Nat} (h : Boxed w B t (.slice A n c)) : boxLen B w = n := by
  unfold boxLen
  rw [h.cell]

set_option maxHeartbeats 2000000 in
set_option maxRecDepth 100000 in
theorem frames1_any (n l Bn : Nat) (J : List UInt8 → World → Prop)
    (hJe : ∀ s W W', J s W → Ext W W' → J s W')
    (hJs : ∀ s W v u, J s W → Boxed W Bn 22 v → J s (W.setCell ⟨Bn, 0, none⟩ u))
    (hY : ∀ s p r pv rv W, J s W → Frame.take s = some (p, r) → Own W 0 pv p → Own W 0 rv r → (∃ v, Boxed W Bn 22 v) →
      YieldAt Fence.wide (n - 1) Try.prog l #[pv, rv] W fun e W' => e = .returned (.bool true) ∧ J r W' ∧ (∀ v, Boxed W Bn 22 v → Boxed W' Bn 22 v) ∧ Own W' 0 rv r)
    (s : List UInt8) (v : Value) (hl : s.length ≤ 100000000) (W : World) (hB : Boxed W Bn 22 v) (hs : Bs W v s) (h0 : J s W) :
    CallsIn Fence.wide n Try.prog 49 #[.func (.yield l) #[] #[], .pointer (some ⟨Bn, 0, none⟩)] W fun e W' => (∃ v, e = .returned v) ∧ ∃ r, Frame.all s = ((Frame.all s).1, r) ∧ Frame.take r = none ∧ J r W' := by
  refine callsIn_of_wp Try.func49 rfl trivial ?_ rfl
  simp only [Try.ntmps49, List.size_toArray, List.length_cons, List.length_nil, Nat.reduceAdd, Nat.reduceSub, Array.replicate_succ, Array.replicate_zero, List.push_toArray, List.append_toArray, List.nil_append, List.cons_append]
  refine wpIn_scope_straight ?_
  refine wpIn_seq (wpIn_label (?_ : Code.wpIn _ _ _ _ _ _ _))
  gi_wp2
  gi_loopw [] (fun wr => ∃ r v, (Frame.all s).2 = (Frame.all r).2 ∧ Boxed wr Bn 22 v ∧ Bs wr v r ∧ J r wr ∧ r.length ≤ 100000000) (fun wr => boxLen Bn wr)
  case atStart => exact ⟨s, v, rfl, hB, hs, h0, hl⟩
  case round =>
    obtain ⟨b, v, hall, hB, ⟨A, c, hv, hc, hr⟩, hJ, hl⟩ := hrel
    subst hv
    have hcell := hB.cell
    have HT := Lib.hid ((callsIn_wide (n := n - 1)).2 (ftakeO_any A c b wr hc hl hr))
    cases ht : Frame.take b with
    | none =>
      rw [ht] at HT
      gi_wp2_with fail
      refine ⟨trivial, fun h => (by cases h), ?_⟩
      refine HT.out.mono ?_
      rintro e w1 ⟨hb1, rfl⟩
      gi_wp2_with fail
      refine ⟨fun _ h => (by cases h), ?_⟩
      gi_wp2_with fail
      simp only [Exit.noGoto]
      go_end0
      refine ⟨⟨_, rfl⟩, b, ?_, ht, hJe _ _ _ hJ hb1⟩
      rw [show b = (Frame.all s).2 by rw [hall, Frame.all_none ht]]
    | some pr =>
      obtain ⟨p, r⟩ := pr
      rw [ht] at HT
      gi_wp2_with fail
      refine ⟨trivial, fun h => (by cases h), ?_⟩
      refine HT.out.mono ?_
      rintro e w1 ⟨hb1, pv, rv, rfl, hO1, hO2⟩
      have hB1 : Boxed w1 Bn 22 (.slice A b.length c) := (hb1.block _ hB.lt).trans hB
      obtain ⟨fn, tmps, assign, body, hy, hR⟩ := hY b p r pv rv w1 (hJe _ _ _ hJ hb1) ht (hO1.mono (Nat.zero_le _)) (hO2.mono (Nat.zero_le _)) ⟨_, hB1⟩
      gi_wp2_with fail
      refine ⟨fun h => (by cases h), ?_⟩
      refine hR.mono ?_
      rintro e W3 ⟨rfl, hJ3, hB3, hO3⟩
      have hB4 := hB3 _ hB1
      have hc4 := hB4.cell
      have hf4 := hB4.frozen
      obtain ⟨A3, c3, hv3, hc3⟩ := hO3.shape
      subst hv3
      gi_wp2
      go_roundw
      case rel =>
        have hlt := Frame.take_lt ht
        exact ⟨r, _, by rw [hall, Frame.all_some ht], hB4.set _, (hO3.keep (fun g hg => (grownBy_setCell' W3 Bn _).block g (hO3.block g hg).2 (fun e => hO3.ne_block hB4 (by decide) (e.symm.trans hg.symm)))).bs, hJs _ _ _ _ hJ3 hB4, by omega⟩
      case measure =>
        have hlt := Frame.take_lt ht
        rw [boxLen_of (hB4.set _), boxLen_of hB]
        exact hlt

end Go.Proofs.Ytjcngipaeoegcaa
