/-
  Frames: Put.
-/
import Derived.Test.YtjcngipaeoegcaaFrame2
namespace Go.Proofs.Ytjcngipaeoegcaa
open Go.RowKit

namespace Frame
def put (b p : List UInt8) : Option (List UInt8) := if 100000 < p.length then none else some (b ++ sealed (Pack.text [] p))
theorem sealed_length (l : List UInt8) : (sealed l).length = l.length + 4 := by unfold sealed; rw [List.length_append, Crc.bytes, Crc.le_length]
end Frame

def RetFPut (w : World) (r : Option (List UInt8)) (e : Ending) (w' : World) : Prop :=
  Ext w w' ∧ match r with
  | some l => ∃ v, e = .returned (.tuple #[v, .int .i64 0]) ∧ Own w' w.heap.size v l
  | none => e = .returned (.tuple #[.slice none 0 0, .int .i64 60])

set_option maxHeartbeats 1000000 in
theorem fput_any (A A2 : Option Addr) (c c2 : Nat) (b p : List UInt8) (w : World) (hb : b.length ≤ 100000000) (hp : p.length ≤ 100000000) (hr : Row w A (b.map B8)) (hr2 : Row w A2 (p.map B8)) :
    Calls Try.prog 20 #[.slice A b.length c, .slice A2 p.length c2] w (RetFPut w (Frame.put b p)) := by
  have HR := Lib.hid hr
  have HR2 := Lib.hid hr2
  clear hr hr2
  by_cases hlen : 100000 < p.length
  · have HF := Lib.hid (show Frame.put b p = none by unfold Frame.put; rw [if_pos hlen])
    rw [HF.out]
    go_enter Try.func20, Try.ntmps20
    go_wp2_with fail
    go_ret2
    exact ⟨Below.refl _ _, rfl⟩
  · have HF := Lib.hid (show Frame.put b p = some (b ++ Frame.sealed (Pack.text [] p)) by unfold Frame.put; rw [if_neg hlen])
    rw [HF.out]
    have h8 := Pack.need_le8 p.length (by omega)
    obtain ⟨T, HT⟩ : ∃ T, Hid (T = Pack.text [] p) := ⟨_, Lib.hid rfl⟩
    have hTb : T.length ≤ 100009 := by rw [HT.out]; unfold Pack.text; simp [Pack.one_length]; omega
    rw [← HT.out]
    have HSl := Lib.hid (Frame.sealed_length T)
    obtain ⟨S, HS⟩ : ∃ S, Hid (S = Frame.sealed T) := ⟨_, Lib.hid rfl⟩
    rw [← HS.out] at HSl ⊢
    go_enter Try.func20, Try.ntmps20
    go_wp2_with fail
    refine (text_any none A2 0 c2 [] p w (Row.nil _ _) (by simp) HR2.out (by omega)).mono ?_
    intro e w1 ⟨v, he, hown, hb1⟩
    subst he
    obtain ⟨A3, c3, hv, hc3⟩ := hown.shape
    subst hv
    rw [← HT.out] at hown ⊢
    have HO := Lib.hid hown
    have E1 := Lib.hid hb1
    have hz1 := hb1.size
    clear hown hb1 hc3
    go_wp2_with fail
    refine (seal_any A3 c3 T w1 w.heap.size HO.out hz1 (by omega)).mono ?_
    intro e w2 ⟨v, he, hown, hb2⟩
    subst he
    obtain ⟨A4, c4, hv, hc4⟩ := hown.shape
    subst hv
    rw [← HS.out] at hown ⊢
    have HO4 := Lib.hid hown
    have E2 := Lib.hid (show Ext w w2 from E1.out.trans hb2)
    have hz2 := E2.out.size
    clear hown hb2 hc4
    go_wp2_with fail
    refine (concat_any (some ⟨w2.heap.size, 0, none⟩) 2 [(A, c, b), (A4, c4, S)] _ (by simp) (by simp [joined]; have := HSl.out; omega) (Parts.two rfl (HR.out.ext E2.out) (by omega) rfl HO4.out.row (by have := HSl.out; omega) _)).mono ?_
    intro e w3 ⟨v, he, hown, hb3⟩
    subst he
    obtain ⟨A5, c5, hv, hc5⟩ := hown.shape
    subst hv
    have HJ := Lib.hid (show joined [(A, c, b), (A4, c4, S)] = b ++ S by simp [joined])
    rw [HJ.out] at hown hc5 ⊢
    have HO5 := Lib.hid (hown.mono (B' := w.heap.size) (by simp; omega))
    have E3 := Lib.hid (E2.out.trans' ((Ext.a1 w2 _).trans' hb3))
    clear hown hb3 hc5
    go_wp2_with fail
    go_ret2
    have h5 := HO5.out
    rw [List.length_append] at h5
    exact ⟨E3.out, _, rfl, h5⟩

end Go.Proofs.Ytjcngipaeoegcaa
