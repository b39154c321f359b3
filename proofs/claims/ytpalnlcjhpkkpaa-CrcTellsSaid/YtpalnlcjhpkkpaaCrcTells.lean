/-
  The walk of CrcTells.
-/
import Derived.Test.YtpalnlcjhpkkpaaAwake4
namespace Go.Proofs.Ytpalnlcjhpkkpaa
open Go.RowKit

theorem crcTells_any (A : Option Addr) (cap : Nat) (l : List UInt8) (n : Nat) (w : World) (hn : n < 4294967296) (hr : Row w A (l.map B8)) :
    Calls Try.prog 3 #[.slice A l.length cap, .int .u32 (n : Int)] w fun e w' => e = .returned (.bool true) ∧ Ext w w' := by
  have HR := Lib.hid hr
  clear hr
  by_cases hlen : 1000 < l.length
  · go_enter Try.func3, Try.ntmps3
    go_wp2_with (go_at_call 18; refine (awake4_any _).mono ?_; rintro e w1 ⟨rfl, hb1⟩)
    go_ret
    exact ⟨rfl, hb1⟩
  · go_enter Try.func3, Try.ntmps3
    go_wp2_with (first
      | (go_at_call 18; refine (awake4_any _).mono ?_; rintro e w1 ⟨rfl, hb1⟩)
      | (go_at_call 19; refine (bytes_any _ _).mono ?_; rintro e w2 ⟨rfl, hb2⟩)
      | (with_reducible refine wpList_store_named rfl 25 _ _ rfl w2.heap.size _ rfl rfl 25 _ (heap_alloc_new _ _) (bytesV_hi n) (bytesV_hold n _ _ _ _) (bytesV_ok n) w ((hb1.trans' hb2).alloc' _) (hb1.trans' hb2).size ?_; intro w3 hb3 hblk3 hs3 ho3))
    have HB3 := Lib.hid hb3
    have HK3 := Lib.hid hblk3
    clear hb3 hblk3 hs3 ho3 hb1 hb2
    apply wp_region_inv _ (Nat.le_refl _) (by decide) (by kernel_rfl) (by kernel_rfl) (by kernel_rfl)
      [Is (.bool true), Is (.bool true), Is (.slice A l.length cap), fun w v => ∃ B, v = .slice B 1 1 ∧ Parts w B [(A, cap, l)], Is (.int .u32 (Crc.sum l : Int)), Is (.slice A l.length cap), Is (.int .u32 (Crc.sum l : Int)), Is (.bool true), Is (.bool true), Is (.bool true), Is (.slice (some ⟨w2.heap.size, 0, none⟩) 4 4), Is (Str (Crc.bytes n)), Is (.int .u32 (n : Int)), IsBs (Crc.bytes n), Is (Str (Crc.bytes n)), Is (.bool true), Is (.bool true), Is (.bool true)] (fun _ => True) (fun _ => false)
    case mono => exact ⟨Is.st _, Is.st _, Is.st _, Say.st_of (by intro w w' v hE hp; first | (obtain ⟨a1, hp1, hp2⟩ := hp; exact ⟨a1, hp1, hp2.ext hE⟩) | (obtain ⟨a1, a2, hp1, hp2⟩ := hp; exact ⟨a1, a2, hp1, hp2.ext hE⟩) | (obtain ⟨a1, a2, hp1, hp2, hp3⟩ := hp; exact ⟨a1, a2, hp1, hp2.ext hE, hp3.ext hE⟩)), Is.st _, Is.st _, Is.st _, Is.st _, Is.st _, Is.st _, Is.st _, Is.st _, Is.st _, IsBs.st _, Is.st _, Is.st _, Is.st _, Is.st _, True.intro⟩
    case monoS => exact fun _ _ _ h => h
    case startS => exact True.intro
    case hF => intro u; simp only [fill, Nat.reduceAdd, List.setIfInBounds_toArray, List.set_cons_succ, List.set_cons_zero]; exact rfl
    case steps =>
      refine StepsAt.cons ?_ ?_
      · intro u w1 K hE hS hU hd hK hW
        go_simp
        exact hK _ _ (Below.refl _ _) rfl
      refine StepsAt.cons ?_ ?_
      · intro u w1 K hE hS hU hd hK hW
        have d0 : u 0 = (.bool true) := hd 0 rfl
        simp only [d0] at hK
        go_simp
        exact hK _ _ (Below.refl _ _) rfl
      refine StepsAt.cons ?_ ?_
      · intro u w1 K hE hS hU hd hK hW
        have d1 : u 1 = (.bool true) := hd 1 rfl
        simp only [d1] at hK
        go_simp
        exact hK _ _ (Below.refl _ _) rfl
      refine StepsAt.cons ?_ ?_
      · intro u w1 K hE hS hU hd hK hW
        have d1 : u 1 = (.bool true) := hd 1 rfl
        have d2 : u 2 = (.slice A l.length cap) := hd 2 rfl
        simp only [d1, d2] at hK
        go_simp
        exact hK _ _ (Ext.a1 _ _) ⟨_, rfl, Parts.one rfl (HR.out.ext (HB3.out.trans' hE)) (by omega) _⟩
      refine StepsAt.cons ?_ ?_
      · intro u w1 K hE hS hU hd hK hW
        have d1 : u 1 = (.bool true) := hd 1 rfl
        obtain ⟨B3, d3, h3_1⟩ : ∃ B3, u 3 = .slice B3 1 1 ∧ Parts w1 B3 [(A, cap, l)] := hd 3 rfl
        simp only [d1, d3] at hK
        go_simp
        refine (sum_any B3 1 [(A, cap, l)] w1 (by simp) h3_1).mono ?_
        rintro e w2 ⟨rfl, hb⟩
        exact hK _ _ hb (congrArg (fun x => Value.int .u32 (Crc.sum x : Int)) (joined_one A cap l))
      refine StepsAt.cons ?_ ?_
      · intro u w1 K hE hS hU hd hK hW
        have d1 : u 1 = (.bool true) := hd 1 rfl
        simp only [d1] at hK
        go_simp
        exact hK _ _ (Below.refl _ _) rfl
      refine StepsAt.cons ?_ ?_
      · intro u w1 K hE hS hU hd hK hW
        have d1 : u 1 = (.bool true) := hd 1 rfl
        have d5 : u 5 = (.slice A l.length cap) := hd 5 rfl
        simp only [d1, d5] at hK
        go_simp
        refine (refSum_any A cap l w1 (by omega) (HR.out.ext (HB3.out.trans' hE))).mono ?_
        rintro e w2 ⟨rfl, rfl⟩
        exact hK _ _ (Below.refl _ _) rfl
      refine StepsAt.cons ?_ ?_
      · intro u w1 K hE hS hU hd hK hW
        have d1 : u 1 = (.bool true) := hd 1 rfl
        have d4 : u 4 = (.int .u32 (Crc.sum l : Int)) := hd 4 rfl
        have d6 : u 6 = (.int .u32 (Crc.sum l : Int)) := hd 6 rfl
        simp only [d1, d4, d6] at hK
        go_simp
        exact hK _ _ (Below.refl _ _) rfl
      refine StepsAt.cons ?_ ?_
      · intro u w1 K hE hS hU hd hK hW
        have d1 : u 1 = (.bool true) := hd 1 rfl
        have d7 : u 7 = (.bool true) := hd 7 rfl
        simp only [d1, d7] at hK
        go_simp
        exact hK _ _ (Below.refl _ _) rfl
      refine StepsAt.cons ?_ ?_
      · intro u w1 K hE hS hU hd hK hW
        have d8 : u 8 = (.bool true) := hd 8 rfl
        simp only [d8] at hK
        go_simp
        exact hK _ _ (Below.refl _ _) rfl
      refine StepsAt.cons ?_ ?_
      · intro u w1 K hE hS hU hd hK hW
        have d9 : u 9 = (.bool true) := hd 9 rfl
        simp only [d9] at hK
        go_simp
        exact hK _ _ (Below.refl _ _) rfl
      refine StepsAt.cons ?_ ?_
      · intro u w1 K hE hS hU hd hK hW
        have d9 : u 9 = (.bool true) := hd 9 rfl
        have d10 : u 10 = (.slice (some ⟨w2.heap.size, 0, none⟩) 4 4) := hd 10 rfl
        simp only [d9, d10] at hK
        have ht := run_text4 ((hE.block w2.heap.size (lt_of_block HK3.out)).trans HK3.out)
        go_simp
        exact hK _ _ (Below.refl _ _) rfl
      refine StepsAt.cons ?_ ?_
      · intro u w1 K hE hS hU hd hK hW
        have d9 : u 9 = (.bool true) := hd 9 rfl
        simp only [d9] at hK
        go_simp
        exact hK _ _ (Below.refl _ _) rfl
      refine StepsAt.cons ?_ ?_
      · intro u w1 K hE hS hU hd hK hW
        have d9 : u 9 = (.bool true) := hd 9 rfl
        have d12 : u 12 = (.int .u32 (n : Int)) := hd 12 rfl
        simp only [d9, d12] at hK
        go_simp
        refine (refBytes_any n w1 hn).mono ?_
        rintro e w2 ⟨v, rfl, hv, hb⟩
        exact hK _ _ hb hv
      refine StepsAt.cons ?_ ?_
      · intro u w1 K hE hS hU hd hK hW
        have d9 : u 9 = (.bool true) := hd 9 rfl
        obtain ⟨A13, c13, d13, hc13, hr13⟩ : Bs w1 (u 13) (Crc.bytes n) := hd 13 rfl
        simp only [d9, d13] at hK
        have ht := run_text (P := Try.prog) (c := c13) Try.underlying22 Try.underlying5 Try.underlying9 hr13
        go_simp
        exact hK _ _ (Below.refl _ _) rfl
      refine StepsAt.cons ?_ ?_
      · intro u w1 K hE hS hU hd hK hW
        have d9 : u 9 = (.bool true) := hd 9 rfl
        have d11 : u 11 = (Str (Crc.bytes n)) := hd 11 rfl
        have d14 : u 14 = (Str (Crc.bytes n)) := hd 14 rfl
        simp only [d9, d11, d14] at hK
        go_simp
        exact hK _ _ (Below.refl _ _) (congrArg Value.bool (beq_self_eq_true _))
      refine StepsAt.cons ?_ ?_
      · intro u w1 K hE hS hU hd hK hW
        have d9 : u 9 = (.bool true) := hd 9 rfl
        have d15 : u 15 = (.bool true) := hd 15 rfl
        simp only [d9, d15] at hK
        go_simp
        exact hK _ _ (Below.refl _ _) rfl
      refine StepsAt.cons ?_ ?_
      · intro u w1 K hE hS hU hd hK hW
        have d16 : u 16 = (.bool true) := hd 16 rfl
        simp only [d16] at hK
        go_simp
        exact hK _ _ (Below.refl _ _) rfl
      exact StepsAt.nil
    case fin =>
      intro u w9 hE9 hP
      have d17 : u 17 = (.bool true) := hP
      simp only [d17]
      go_wp2
      go_ret
      exact ⟨rfl, HB3.out.trans' hE9⟩

end Go.Proofs.Ytpalnlcjhpkkpaa
