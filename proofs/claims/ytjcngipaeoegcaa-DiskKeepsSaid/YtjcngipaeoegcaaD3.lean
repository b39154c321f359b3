/-
  Disks: bytes written behind others, with a tear.
-/
import Derived.Test.YtjcngipaeoegcaaD2
import Derived.Lib.Walk
namespace Go.Proofs.Ytjcngipaeoegcaa
open Go.RowKit

namespace Disk
def kept (tear : Int) (n : Nat) : Nat := (min (max tear 1 - 1) (n : Int)).toNat
theorem kept_le (tear : Int) (n : Nat) : kept tear n ≤ n := by unfold kept; omega
def write (b more : List UInt8) (tear : Int) : List UInt8 × Int := if tear = 0 then (b ++ more, 0) else (b ++ more.take (kept tear more.length), 230)
end Disk

def RetWrite (w : World) (r : List UInt8 × Int) (e : Ending) (w' : World) : Prop := ∃ v, e = .returned (.tuple #[v, .int .i64 r.2]) ∧ Own w' w.heap.size v r.1 ∧ Ext w w'

set_option maxHeartbeats 2000000 in
set_option maxRecDepth 100000 in
theorem write_any (A A2 : Option Addr) (c c2 : Nat) (b m : List UInt8) (tear : Int) (w : World) (ht1 : -9223372036854775808 ≤ tear) (ht2 : tear ≤ 9223372036854775807) (hb : b.length ≤ 100000000) (hm : m.length ≤ 100000000) (hc2 : m.length ≤ c2) (h1 : Row w A (b.map B8)) (h2 : Row w A2 (m.map B8)) :
    Calls Try.prog 27 #[.slice A b.length c, .slice A2 m.length c2, .int .i64 tear] w (RetWrite w (Disk.write b m tear)) := by
  have H1 := Lib.hid h1
  have H2 := Lib.hid h2
  clear h1 h2
  by_cases h0 : tear = 0
  · subst h0
    have HW := Lib.hid (show Disk.write b m 0 = (b ++ m, 0) from rfl)
    rw [HW.out]
    go_enter Try.func27, Try.ntmps27
    go_wp2_with fail
    refine (concat_any _ 2 [(A, c, b), (A2, c2, m)] _ (by simp) (by simp [joined]; omega) (Parts.two rfl H1.out (by omega) rfl H2.out (by omega) 22)).mono ?_
    intro e w2 ⟨v, he, hown, hb2⟩
    subst he
    obtain ⟨X, k, hv, hk⟩ := hown.shape
    subst hv
    have HO := Lib.hid hown
    have HE := Lib.hid ((Ext.a1 w _).trans' hb2)
    clear hown hb2 hk
    go_wp2_with fail
    go_ret2
    exact ⟨_, rfl, by have := HO.out.mono (B' := w.heap.size) (by simp); simpa [joined] using this, HE.out⟩
  · have HW := Lib.hid (show Disk.write b m tear = (b ++ m.take (Disk.kept tear m.length), 230) by unfold Disk.write; rw [if_neg h0])
    rw [HW.out]
    have hz : (tear == 0) = false := by simp; omega
    obtain ⟨kp, Hkp⟩ : ∃ kp, Hid (kp = Disk.kept tear m.length) := ⟨_, Lib.hid rfl⟩
    go_enter Try.func27, Try.ntmps27
    go_wp2_with fail
    rw [show (min (max tear 1 - 1) (m.length : Int)).toNat = kp from Hkp.out.symm]
    have hkl : kp ≤ m.length := by rw [Hkp.out]; exact Disk.kept_le _ _
    have hrow := H2.out.take kp
    rw [← List.map_take] at hrow
    refine (concat_any _ 2 [(A, c, b), (A2, c2, m.take kp)] _ (by simp) (by simp [joined]; omega) (Parts.two rfl H1.out (by omega) (by rw [List.length_take]; omega) hrow (by rw [List.length_take]; omega) 22)).mono ?_
    intro e w2 ⟨v, he, hown, hb2⟩
    subst he
    obtain ⟨X, k, hv, hk⟩ := hown.shape
    subst hv
    have HO := Lib.hid hown
    have HE := Lib.hid ((Ext.a1 w _).trans' hb2)
    clear hown hb2 hk
    go_wp2_with fail
    go_ret2
    exact ⟨_, rfl, by rw [← Hkp.out]; have := HO.out.mono (B' := w.heap.size) (by simp); simpa [joined] using this, HE.out⟩

end Go.Proofs.Ytjcngipaeoegcaa
