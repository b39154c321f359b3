/-
  The walk of CrcSame.
-/
import Derived.Test.YtpalnlcjhpkkpaaAwake4
import Derived.Test.YtpalnlcjhpkkpaaOwn
namespace Go.Proofs.Ytpalnlcjhpkkpaa
open Go.RowKit

theorem crcSame_any (A : Option Addr) (cap : Nat) (l : List UInt8) (w : World) (hr : Row w A (l.map B8)) :
    Calls Try.prog 5 #[.slice A l.length cap] w fun e w' => e = .returned (.bool true) ∧ Ext w w' := by
  have HR := Lib.hid hr
  clear hr
  by_cases hlen : 1000 < l.length
  · go_enter Try.func5, Try.ntmps5
    go_wp2_with (go_at_call 18; refine (awake4_any _).mono ?_; rintro e w1 ⟨rfl, hb1⟩)
    go_ret
    exact ⟨rfl, hb1⟩
  · go_enter Try.func5, Try.ntmps5
    go_wp2_with (go_at_call 18; refine (awake4_any _).mono ?_; rintro e w1 ⟨rfl, hb1⟩)
    refine (sum_any _ 1 [(A, cap, l)] _ (by simp) (Parts.one rfl (HR.out.ext hb1) (by omega) 22)).mono ?_
    intro e w2 ⟨he, hb2⟩
    rw [joined_one] at he
    subst he
    have B2 := (Ext.alloc' hb1 (.cells #[.slice A l.length cap] 22)).trans' hb2
    clear hb2
    go_wp2_with (first
      | (go_at_call 19; refine (bytes_any _ _).mono ?_; rintro e w3 ⟨rfl, hb3⟩)
      | (with_reducible refine wpList_store_named rfl 25 _ _ rfl w3.heap.size _ rfl rfl 25 _ (heap_alloc_new _ _) (bytesV_hi _) (bytesV_hold _ _ _ _ _) (bytesV_ok _) w ((B2.trans' hb3).alloc' _) (B2.trans' hb3).size ?_; intro w4 hb4 hblk4 hs4 ho4))
    clear hs4 ho4 hb3 B2 hb1
    refine (sum_any none 0 [] _ (by simp) ⟨Row.nil _ _, fun p hp => by simp at hp⟩).mono ?_
    intro e w5 ⟨he, hb5⟩
    rw [sum_none] at he
    subst he
    have B5 := hb4.trans' hb5
    have K5 := Lib.hid ((hb5.block _ (lt_of_block hblk4)).trans hblk4)
    clear hb5 hb4 hblk4
    go_wp2_with (first
      | (go_at_call 19; refine (bytes_any 0 _).mono ?_; rintro e w6 ⟨rfl, hb6⟩)
      | (with_reducible refine wpList_store_named rfl 25 _ _ rfl w6.heap.size _ rfl rfl 25 _ (heap_alloc_new _ _) (bytesV_hi _) (bytesV_hold _ _ _ _ _) (bytesV_ok _) w6 (Ext.a1 _ _) (Nat.le_refl _) ?_; intro w7 hb7 hblk7 hs7 ho7))
    have E7 := hb6.trans' hb7
    have B7 := Lib.hid (B5.trans' E7)
    have K7 := Lib.hid ((E7.block _ (lt_of_block K5.out)).trans K5.out)
    have L7 := Lib.hid hblk7
    clear hs7 ho7 hb7 hb6 B5 hblk7 E7 K5
    have R7 := Lib.hid (HR.out.ext B7.out)
    apply wp_region_inv _ (Nat.le_refl _) (by decide) (by kernel_rfl) (by kernel_rfl) (by kernel_rfl)
      [Is (.bool true), Is (.bool true), Is (.slice A l.length cap), Is (.slice (some ⟨w3.heap.size, 0, none⟩) 4 4), fun w v => ∃ B, v = .slice B 2 2 ∧ Parts w B [(A, cap, l), (some ⟨w3.heap.size, 0, none⟩, 4, Crc.bytes (Crc.sum l))], Is (.int .u32 (Crc.sum (Crc.bytes (Crc.sum [])) : Int)), Is (.slice (some ⟨w6.heap.size, 0, none⟩) 4 4), fun w v => ∃ B, v = .slice B 1 1 ∧ Parts w B [(some ⟨w6.heap.size, 0, none⟩, 4, Crc.bytes 0)], Is (.int .u32 (Crc.sum (Crc.bytes (Crc.sum [])) : Int)), Is (.bool true), Is (.bool true), Is (.bool true)] (fun _ => True) (fun _ => false)
    case mono => exact ⟨Is.st _, Is.st _, Is.st _, Is.st _, Say.st_of (by intro w w' v hE hp; first | (obtain ⟨a1, hp1, hp2⟩ := hp; exact ⟨a1, hp1, hp2.ext hE⟩) | (obtain ⟨a1, a2, hp1, hp2⟩ := hp; exact ⟨a1, a2, hp1, hp2.ext hE⟩) | (obtain ⟨a1, a2, hp1, hp2, hp3⟩ := hp; exact ⟨a1, a2, hp1, hp2.ext hE, hp3.ext hE⟩)), Is.st _, Is.st _, Say.st_of (by intro w w' v hE hp; first | (obtain ⟨a1, hp1, hp2⟩ := hp; exact ⟨a1, hp1, hp2.ext hE⟩) | (obtain ⟨a1, a2, hp1, hp2⟩ := hp; exact ⟨a1, a2, hp1, hp2.ext hE⟩) | (obtain ⟨a1, a2, hp1, hp2, hp3⟩ := hp; exact ⟨a1, a2, hp1, hp2.ext hE, hp3.ext hE⟩)), Is.st _, Is.st _, Is.st _, Is.st _, True.intro⟩
    case monoS => exact fun _ _ _ h => h
    case startS => exact True.intro
    case hF => intro u; simp only [fill, Nat.reduceAdd, List.setIfInBounds_toArray, List.set_cons_succ, List.set_cons_zero]; exact rfl
    case steps =>
      refine StepsAt.cons ?_ ?_
      · intro u w1 K hE hS hU hd hK hW
        go_simp
        exact hK _ _ (Below.refl _ _) rfl
      refine StepsAt.cons ?_ ?_
      · intro u w1 K hE hS hU hd hK hW
        have d0 : u 0 = (.bool true) := hd 0 rfl
        simp only [d0] at hK
        go_simp
        exact hK _ _ (Below.refl _ _) rfl
      refine StepsAt.cons ?_ ?_
      · intro u w1 K hE hS hU hd hK hW
        have d1 : u 1 = (.bool true) := hd 1 rfl
        simp only [d1] at hK
        go_simp
        exact hK _ _ (Below.refl _ _) rfl
      refine StepsAt.cons ?_ ?_
      · intro u w1 K hE hS hU hd hK hW
        have d1 : u 1 = (.bool true) := hd 1 rfl
        simp only [d1] at hK
        go_simp
        exact hK _ _ (Below.refl _ _) rfl
      refine StepsAt.cons ?_ ?_
      · intro u w1 K hE hS hU hd hK hW
        have d1 : u 1 = (.bool true) := hd 1 rfl
        have d2 : u 2 = (.slice A l.length cap) := hd 2 rfl
        have d3 : u 3 = (.slice (some ⟨w3.heap.size, 0, none⟩) 4 4) := hd 3 rfl
        simp only [d1, d2, d3] at hK
        go_simp
        exact hK _ _ (Ext.a1 _ _) ⟨_, rfl, Parts.two rfl (R7.out.ext hE) (by omega) (bytes_len _) ((row4 K7.out).ext hE) (by rw [bytes_len]; omega) _⟩
      refine StepsAt.cons ?_ ?_
      · intro u w1 K hE hS hU hd hK hW
        have d1 : u 1 = (.bool true) := hd 1 rfl
        obtain ⟨B4, d4, h4_1⟩ : ∃ B4, u 4 = .slice B4 2 2 ∧ Parts w1 B4 [(A, cap, l), (some ⟨w3.heap.size, 0, none⟩, 4, Crc.bytes (Crc.sum l))] := hd 4 rfl
        simp only [d1, d4] at hK
        go_simp
        refine (sum_any B4 2 [(A, cap, l), (some ⟨w3.heap.size, 0, none⟩, 4, Crc.bytes (Crc.sum l))] w1 (by simp) h4_1).mono ?_
        rintro e w2 ⟨rfl, hb⟩
        exact hK _ _ hb (congrArg (fun x : Nat => Value.int .u32 (x : Int)) ((congrArg Crc.sum (show joined [(A, cap, l), (some ⟨w3.heap.size, 0, none⟩, 4, Crc.bytes (Crc.sum l))] = l ++ Crc.bytes (Crc.sum l) by simp [joined])).trans (Crc.same l)))
      refine StepsAt.cons ?_ ?_
      · intro u w1 K hE hS hU hd hK hW
        have d1 : u 1 = (.bool true) := hd 1 rfl
        simp only [d1] at hK
        go_simp
        exact hK _ _ (Below.refl _ _) rfl
      refine StepsAt.cons ?_ ?_
      · intro u w1 K hE hS hU hd hK hW
        have d1 : u 1 = (.bool true) := hd 1 rfl
        have d6 : u 6 = (.slice (some ⟨w6.heap.size, 0, none⟩) 4 4) := hd 6 rfl
        simp only [d1, d6] at hK
        go_simp
        exact hK _ _ (Ext.a1 _ _) ⟨_, rfl, Parts.one (bytes_len _) ((row4 L7.out).ext hE) (by rw [bytes_len]; omega) _⟩
      refine StepsAt.cons ?_ ?_
      · intro u w1 K hE hS hU hd hK hW
        have d1 : u 1 = (.bool true) := hd 1 rfl
        obtain ⟨B7, d7, h7_1⟩ : ∃ B7, u 7 = .slice B7 1 1 ∧ Parts w1 B7 [(some ⟨w6.heap.size, 0, none⟩, 4, Crc.bytes 0)] := hd 7 rfl
        simp only [d1, d7] at hK
        go_simp
        refine (sum_any B7 1 [(some ⟨w6.heap.size, 0, none⟩, 4, Crc.bytes 0)] w1 (by simp) h7_1).mono ?_
        rintro e w2 ⟨rfl, hb⟩
        exact hK _ _ hb (congrArg (fun x : Nat => Value.int .u32 (x : Int)) ((congrArg Crc.sum (joined_one _ _ _)).trans (by rw [show Crc.sum [] = 0 from sum_none])))
      refine StepsAt.cons ?_ ?_
      · intro u w1 K hE hS hU hd hK hW
        have d1 : u 1 = (.bool true) := hd 1 rfl
        have d5 : u 5 = (.int .u32 (Crc.sum (Crc.bytes (Crc.sum [])) : Int)) := hd 5 rfl
        have d8 : u 8 = (.int .u32 (Crc.sum (Crc.bytes (Crc.sum [])) : Int)) := hd 8 rfl
        simp only [d1, d5, d8] at hK
        go_simp
        exact hK _ _ (Below.refl _ _) rfl
      refine StepsAt.cons ?_ ?_
      · intro u w1 K hE hS hU hd hK hW
        have d1 : u 1 = (.bool true) := hd 1 rfl
        have d9 : u 9 = (.bool true) := hd 9 rfl
        simp only [d1, d9] at hK
        go_simp
        exact hK _ _ (Below.refl _ _) rfl
      refine StepsAt.cons ?_ ?_
      · intro u w1 K hE hS hU hd hK hW
        have d10 : u 10 = (.bool true) := hd 10 rfl
        simp only [d10] at hK
        go_simp
        exact hK _ _ (Below.refl _ _) rfl
      exact StepsAt.nil
    case fin =>
      intro u w9 hE9 hP
      have d11 : u 11 = (.bool true) := hP
      simp only [d11]
      go_wp2
      go_ret
      exact ⟨rfl, B7.out.trans' hE9⟩

end Go.Proofs.Ytpalnlcjhpkkpaa
