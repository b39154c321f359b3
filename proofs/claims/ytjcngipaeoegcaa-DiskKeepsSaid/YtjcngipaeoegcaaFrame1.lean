/-
  Frames: the small functions.
-/
import Derived.Test.YtjcngipaeoegcaaPackAll
import Derived.Test.YtjcngipaeoegcaaPackCuts
import Derived.Test.YtjcngipaeoegcaaCrc
namespace Go.Proofs.Ytjcngipaeoegcaa
open Go.RowKit

namespace Frame
/-- Bytes, and those of their sum. -/
def sealed (l : List UInt8) : List UInt8 := l ++ Crc.bytes (Crc.sum l)
end Frame

theorem equal_any (A A2 : Option Addr) (c c2 : Nat) (l m : List UInt8) (w : World) (h1 : Row w A (l.map B8)) (h2 : Row w A2 (m.map B8)) :
    Calls Try.prog 61 #[.slice A l.length c, .slice A2 m.length c2] w fun e w' => e = .returned (.bool (l == m)) ∧ Ext w w' := by
  have t1 := text_at (n := l.length) (c := c) h1 rfl
  have t2 := text_at (n := m.length) (c := c2) h2 rfl
  unfold Str at t1 t2
  clear h1 h2
  go_enter Try.func61, Try.ntmps61
  go_wp2_with fail
  go_ret
  exact ⟨by first | rfl | (rw [str_beq]) | simp, Below.refl _ _⟩

set_option maxHeartbeats 1000000 in
theorem seal_any (A : Option Addr) (c : Nat) (l : List UInt8) (w : World) (B : Nat) (hO : Own w B (.slice A l.length c) l) (hB : B ≤ w.heap.size) (hl : l.length ≤ 1000000000) :
    Calls Try.prog 33 #[.slice A l.length c] w fun e w' => ∃ v, e = .returned v ∧ Own w' B v (Frame.sealed l) ∧ Below B w w' := by
  have HO := Lib.hid hO
  clear hO
  have hs := Crc.sum_lt l
  obtain ⟨n, Hn⟩ : ∃ n, Hid (n = Crc.sum l) := ⟨_, Lib.hid rfl⟩
  have HJ := Lib.hid (show Crc.sum (joined [(A, c, l)]) = n by rw [joined_one, Hn.out])
  rw [← Hn.out] at hs
  go_enter Try.func33, Try.ntmps33
  go_wp2_with fail
  refine (sum_any (some ⟨w.heap.size, 0, none⟩) 1 [(A, c, l)] _ (by simp) (Parts.one rfl HO.out.row hl _)).mono ?_
  intro e w1 ⟨he, hb1⟩
  rw [HJ.out] at he
  subst he
  have hE1 := (Ext.a1 w _).trans' hb1
  have E1 := Lib.hid hE1
  clear hb1 hE1
  go_wp2_with fail
  refine (bytes_any n w1).mono ?_
  intro e w2 ⟨he, hb2⟩
  subst he
  have E2 := Lib.hid (E1.out.trans' hb2)
  have hz2 := E2.out.size
  clear hb2
  go_wp2_with (first
      | (with_reducible refine wpList_store_named rfl 78 _ _ rfl w2.heap.size _ rfl rfl 78 _ (heap_alloc_new _ _) (bytesV_hi n) (bytesV_hold n _ _ _ _) (bytesV_ok n) w (E2.out.alloc' _) hz2 ?_; intro w3 hb3 hblk3 hs3 ho3; have E3 := Lib.hid hb3; have K3 := Lib.hid hblk3; have hz3 := hb3.size; clear hb3 hblk3 hs3 ho3)
      | (at_builtin; go_must (refine wpList_append_bytes bt22 rfl (.tmp 8) (.tmp 9) rfl (HO.out.ext E3.out) rfl rfl (Crc.le_length 4 n) (row4 K3.out) (by rw [Crc.le_length]; omega) (Nat.le_trans hB hz3) ?_); intro A4 c4 w4 hown4 hg4 hbl4; have B4 := Lib.hid ((HO.out.ext E3.out).below hg4 (E3.out.mono hB) (Nat.le_trans hB hz3) (Nat.le_refl _)); have O4 := Lib.hid hown4; clear hown4 hg4 hbl4))
  go_ret
  exact ⟨_, rfl, by unfold Frame.sealed; rw [← Hn.out]; exact O4.out, B4.out⟩

end Go.Proofs.Ytjcngipaeoegcaa
