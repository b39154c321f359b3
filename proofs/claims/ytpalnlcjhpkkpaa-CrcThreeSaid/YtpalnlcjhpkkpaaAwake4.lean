/-
  The checksum's fixed calls answer true.
-/
import Derived.Test.YtpalnlcjhpkkpaaCrc
import Derived.Test.YtpalnlcjhpkkpaaReg
namespace Go.Proofs.Ytpalnlcjhpkkpaa
open Go.RowKit

theorem sum_fixed (a b c : Option Addr) : Crc.sum (joined [(a, 4, [49, 50, 51, 52]), (b, 0, []), (c, 5, [53, 54, 55, 56, 57])]) = 3808858755 := by
  show Crc.sum [49, 50, 51, 52, 53, 54, 55, 56, 57] = _
  decide +kernel
theorem sum_none : Crc.sum (joined []) = 0 := by decide +kernel
theorem bytes_fixed : bytesV 16909060 = #[.int .u8 4, .int .u8 3, .int .u8 2, .int .u8 1] := by
  simp [bytesV, tab, List.range_succ, bytesF]

theorem eql_fixed (w : World) : (Op.equalIn 10000 25 (.agg #[.int .u8 4, .int .u8 3, .int .u8 2, .int .u8 1]) (.agg #[.int .u8 4, .int .u8 3, .int .u8 2, .int .u8 1])).run Try.prog w = .ok true w := by kernel_rfl

theorem awake4_any (w : World) : Calls Try.prog 18 #[] w fun e w' => e = .returned (.bool true) ∧ Ext w w' := by
  have kc1 := bytes_const1 22 5 Try.underlying22 Try.underlying5
  have kc2 := bytes_const2 22 5 Try.underlying22 Try.underlying5
  have heq := eql_fixed
  go_enter Try.func18, Try.ntmps18
  go_wp2_with fail
  refine (sum_any (some ⟨w.heap.size + 2, 0, none⟩) 3 [(some ⟨w.heap.size, 0, none⟩, 4, [49, 50, 51, 52]), (none, 0, []), (some ⟨w.heap.size + 1, 0, none⟩, 5, [53, 54, 55, 56, 57])] _ (by simp) ?hp).mono ?_
  case hp =>
    have h1 := ((Row.newM w #[.int .u8 49, .int .u8 50, .int .u8 51, .int .u8 52] 5 (4, 5)).ext (Ext.a1 _ (.cells #[.int .u8 53, .int .u8 54, .int .u8 55, .int .u8 56, .int .u8 57] 5 (5, 6)))).ext (Ext.a1 _ (.cells #[.slice (some ⟨w.heap.size, 0, none⟩) 4 4, .slice none 0 0, .slice (some ⟨w.heap.size + 1, 0, none⟩) 5 5] 22))
    have h2 := (Row.newM (w.alloc (.cells #[.int .u8 49, .int .u8 50, .int .u8 51, .int .u8 52] 5 (4, 5))) #[.int .u8 53, .int .u8 54, .int .u8 55, .int .u8 56, .int .u8 57] 5 (5, 6)).ext (Ext.a1 _ (.cells #[.slice (some ⟨w.heap.size, 0, none⟩) 4 4, .slice none 0 0, .slice (some ⟨w.heap.size + 1, 0, none⟩) 5 5] 22))
    have h3 := Row.new ((w.alloc (.cells #[.int .u8 49, .int .u8 50, .int .u8 51, .int .u8 52] 5 (4, 5))).alloc (.cells #[.int .u8 53, .int .u8 54, .int .u8 55, .int .u8 56, .int .u8 57] 5 (5, 6))) #[.slice (some ⟨w.heap.size, 0, none⟩) 4 4, .slice none 0 0, .slice (some ⟨w.heap.size + 1, 0, none⟩) 5 5] 22
    simp only [World.size_alloc] at h2 h3
    refine ⟨h3, fun p hp => ?_⟩
    simp only [List.mem_cons, List.not_mem_nil, or_false] at hp
    rcases hp with rfl | rfl | rfl
    · exact ⟨h1, by simp⟩
    · exact ⟨Row.nil _ _, by simp⟩
    · exact ⟨h2, by simp⟩
  intro e w1 ⟨he, hb1⟩
  rw [sum_fixed] at he
  subst he
  go_wp2_with fail
  refine (sum_any none 0 [] _ (by simp) ⟨Row.nil _ _, fun p hp => by simp at hp⟩).mono ?_
  intro e w2 ⟨he, hb2⟩
  rw [sum_none] at he
  subst he
  go_wp2_with fail
  refine (bytes_any 16909060 _).mono ?_
  intro e w3 ⟨he, hb3⟩
  rw [bytes_fixed] at he
  subst he
  go_wp2
  go_ret
  exact ⟨rfl, ((((((Ext.a1 _ _).alloc' _).alloc' _).trans' hb1).trans' hb2).trans' hb3)⟩

end Go.Proofs.Ytpalnlcjhpkkpaa
