/-
  The walk of CrcParts.
-/
import Derived.Test.YtpalnlcjhpkkpaaAwake4
import Derived.Test.YtpalnlcjhpkkpaaOwn
namespace Go.Proofs.Ytpalnlcjhpkkpaa
open Go.RowKit

theorem bt22 : ByteTy Try.prog 22 5 := ⟨Try.underlying22, Try.underlying5, by
  obtain ⟨i0, hi, hz0, hz1, hz2⟩ := info_parts (show (Try.prog.info? 5).map (fun i => (i.zero, i.size, i.bytes)) = some (some (.int .u8 0), 1, 1) by kernel_rfl)
  exact ⟨i0, hi, hz0, hz1, hz2⟩⟩

theorem crcParts_short (A1 A2 A3 : Option Addr) (n1 n2 n3 c1 c2 c3 : Nat) (w : World) (h : 300 < n1 ∨ 300 < n2 ∨ 300 < n3) :
    Calls Try.prog 4 #[.slice A1 n1 c1, .slice A2 n2 c2, .slice A3 n3 c3] w fun e w' => e = .returned (.bool true) ∧ Ext w w' := by
  by_cases h1 : 300 < n1
  · clear h
    go_enter Try.func4, Try.ntmps4
    go_wp2_with (go_at_call 18; refine (awake4_any _).mono ?_; rintro e w1 ⟨rfl, hb1⟩)
    go_ret
    exact ⟨rfl, hb1⟩
  · by_cases h2 : 300 < n2
    · clear h
      go_enter Try.func4, Try.ntmps4
      go_wp2_with (go_at_call 18; refine (awake4_any _).mono ?_; rintro e w1 ⟨rfl, hb1⟩)
      go_ret
      exact ⟨rfl, hb1⟩
    · have h3 : 300 < n3 := by omega
      clear h
      go_enter Try.func4, Try.ntmps4
      go_wp2_with (go_at_call 18; refine (awake4_any _).mono ?_; rintro e w1 ⟨rfl, hb1⟩)
      go_ret
      exact ⟨rfl, hb1⟩

theorem crcParts_any (A1 A2 A3 : Option Addr) (c1 c2 c3 : Nat) (a b c : List UInt8) (w : World) (h1 : a.length ≤ 300) (h2 : b.length ≤ 300) (h3 : c.length ≤ 300)
    (hr1 : Row w A1 (a.map B8)) (hr2 : Row w A2 (b.map B8)) (hr3 : Row w A3 (c.map B8)) :
    Calls Try.prog 4 #[.slice A1 a.length c1, .slice A2 b.length c2, .slice A3 c.length c3] w fun e w' => e = .returned (.bool true) ∧ Ext w w' := by
  have R1 := Lib.hid hr1
  have R2 := Lib.hid hr2
  have R3 := Lib.hid hr3
  clear hr1 hr2 hr3
  go_enter Try.func4, Try.ntmps4
  go_wp2_with (first
    | (go_at_call 18; refine (awake4_any _).mono ?_; rintro e w1 ⟨rfl, hb1⟩)
    | (at_builtin; refine wpList_append_bytes bt22 rfl (.tmp 24) (.tmp 25) rfl (Own.new w1 w.heap.size hb1.size [] 0 rfl (by simp) #[] rfl) rfl rfl rfl (R1.out.ext (hb1.alloc' _)) (by simp; omega) (by have := hb1.size; simp; omega) ?_; intro A4 c4 w4 hown4 hg4 hbl4; simp only [List.length_nil, Nat.zero_add, List.nil_append] at hown4 hg4; have hb4 := (Own.new w1 w.heap.size hb1.size [] 0 rfl (by simp) #[] rfl).below hg4 (hb1.alloc' _) (by have := hb1.size; simp; omega) (Nat.le_refl _))
    | (at_builtin; refine wpList_append_bytes bt22 rfl (.tmp 26) (.tmp 27) rfl hown4 rfl rfl rfl (R2.out.ext hb4) (by omega) hb4.size ?_; intro A5 c5 w5 hown5 hg5 hbl5; have hb5 := hown4.below hg5 hb4 hb4.size (Nat.le_refl _))
    | (at_builtin; refine wpList_append_bytes bt22 rfl (.tmp 28) (.tmp 29) rfl hown5 rfl rfl rfl (R3.out.ext hb5) (by simp; omega) hb5.size ?_; intro A6 c6 w6 hown6 hg6 hbl6; have hb6 := hown5.below hg6 hb5 hb5.size (Nat.le_refl _)))
  have hlen : (a ++ b ++ c).length = a.length + b.length + c.length := by simp; omega
  have HL := Lib.hid hlen
  have R4 := Lib.hid hown6.row
  rw [List.length_append] at hown6
  have B6 := Lib.hid hb6
  clear hlen hown4 hg4 hbl4 hown5 hg5 hbl5 hown6 hg6 hbl6 hb4 hb5 hb6
  refine (sum_any _ 3 [(A1, c1, a), (A2, c2, b), (A3, c3, c)] _ (by simp) (Parts.new (fun p hp => ?_) _ rfl 22)).mono ?_
  · simp only [List.mem_cons, List.not_mem_nil, or_false] at hp
    rcases hp with rfl | rfl | rfl
    · exact ⟨R1.out.ext B6.out, by simp; omega⟩
    · exact ⟨R2.out.ext B6.out, by simp; omega⟩
    · exact ⟨R3.out.ext B6.out, by simp; omega⟩
  intro e w7 ⟨he, hb7⟩
  rw [show joined [(A1, c1, a), (A2, c2, b), (A3, c3, c)] = a ++ b ++ c by simp [joined]] at he
  subst he
  have B7 := Lib.hid (Below.trans B6.out ((Ext.a1 _ _).trans' hb7 |>.mono B6.out.size))
  have E7 := Lib.hid ((Ext.a1 _ _).trans' hb7)
  clear hb7
  go_wp2_with fail
  refine (sum_any _ 1 [(A6, c6, a ++ b ++ c)] _ (by simp) (Parts.one HL.out (R4.out.ext E7.out) (by simp; omega) 22)).mono ?_
  intro e w8 ⟨he, hb8⟩
  rw [joined_one] at he
  subst he
  have B8' := Lib.hid (Below.trans B7.out ((Ext.a1 _ _).trans' hb8 |>.mono B7.out.size))
  have E8 := Lib.hid (E7.out.trans' ((Ext.a1 _ _).trans' hb8))
  clear hb8 
  have hsz8 := B8'.out.size
  go_wp2_with (first
    | (at_builtin; refine wpList_append_bytes bt22 rfl (.tmp 45) (.tmp 46) rfl (Own.new w8 w8.heap.size (Nat.le_refl _) [] 0 rfl (by simp) #[] rfl) rfl rfl rfl (R2.out.ext (B8'.out.alloc hsz8 _)) (by simp; omega) (by simp) ?_; intro A9 c9 w9 hown9 hg9 hbl9; simp only [List.length_nil, Nat.zero_add, List.nil_append] at hown9 hg9; have hb9 := (Own.new w8 w8.heap.size (Nat.le_refl _) [] 0 rfl (by simp) #[] rfl).below hg9 (Ext.a1 w8 _) (by simp) (Nat.le_refl _))
    | (at_builtin; refine wpList_append_bytes bt22 rfl (.tmp 47) (.tmp 48) rfl hown9 rfl rfl rfl (R3.out.ext (B8'.out.trans (hb9.mono hsz8))) (by omega) hb9.size ?_; intro A10 c10 w10 hown10 hg10 hbl10; have hb10 := hown9.below hg10 hb9 hb9.size (Nat.le_refl _)))
  have R10 := Lib.hid hown10.row
  have B10 := Lib.hid (B8'.out.trans (hb10.mono hsz8))
  have E10 := Lib.hid (E8.out.trans' hb10)
  clear hown9 hg9 hbl9 hown10 hg10 hbl10 hb9 hb10
  refine (sum_any _ 2 [(A1, c1, a), (A10, c10, b ++ c)] _ (by simp) (Parts.two rfl (R1.out.ext B10.out) (by omega) (by simp) R10.out (by simp; omega) 22)).mono ?_
  intro e w11 ⟨he, hb11⟩
  rw [show joined [(A1, c1, a), (A10, c10, b ++ c)] = a ++ b ++ c by simp [joined]] at he
  subst he
  have B11 := Lib.hid (Below.trans B10.out ((Ext.a1 _ _).trans' hb11 |>.mono B10.out.size))
  have E11 := Lib.hid (E10.out.trans' ((Ext.a1 _ _).trans' hb11))
  clear hb11
  go_wp2_with fail
  refine (sum_any _ 1 [(A6, c6, a ++ b ++ c)] _ (by simp) (Parts.one HL.out (R4.out.ext E11.out) (by simp; omega) 22)).mono ?_
  intro e w12 ⟨he, hb12⟩
  rw [joined_one] at he
  subst he
  have B12 := Lib.hid (Below.trans B11.out ((Ext.a1 _ _).trans' hb12 |>.mono B11.out.size))
  clear hb12
  go_wp2
  go_ret
  exact ⟨rfl, B12.out⟩

end Go.Proofs.Ytpalnlcjhpkkpaa
