/-
  The walk of CrcThree.
-/
import Derived.Test.YtpalnlcjhpkkpaaCrcParts
namespace Go.Proofs.Ytpalnlcjhpkkpaa
open Go.RowKit

theorem min3_run (x y z n : Nat) (h : n = min (min x y) z) : ∀ w, (Builtin.min_ #[3, 3, 3] 3 #[.int .i64 (x : Int), .int .i64 (y : Int), .int .i64 (z : Int)]).run Try.prog w = .ok (.int .i64 (n : Int)) w := by
  intro w
  rw [run_min_int3]
  congr 2
  split <;> split <;> omega

theorem crcThree_long (A1 A2 A3 : Option Addr) (c1 c2 c3 n1 n2 n3 n : Nat) (w : World) (h : n = min (min n1 n2) n3) (hn : 300 < n) :
    Calls Try.prog 7 #[.slice A1 n1 c1, .slice A2 n2 c2, .slice A3 n3 c3] w fun e w' => e = .returned (.bool true) ∧ Ext w w' := by
  have hm := min3_run n1 n2 n3 n h
  clear h
  go_enter Try.func7, Try.ntmps7
  go_wp2_with (go_at_call 18; refine (awake4_any _).mono ?_; rintro e w1 ⟨rfl, hb1⟩)
  go_ret
  exact ⟨rfl, hb1⟩

theorem xors_snoc {a b c : List UInt8} {k n : Nat} (ha : n ≤ a.length) (hb : n ≤ b.length) (hc : n ≤ c.length) (hk : k < n) :
    Crc.xors (Crc.xors (a.take (k + 1)) (b.take (k + 1))) (c.take (k + 1)) = Crc.xors (Crc.xors (a.take k) (b.take k)) (c.take k) ++ [a[k] ^^^ b[k] ^^^ c[k]] := by
  rw [take_snoc (l := a) (by omega), take_snoc (l := b) (by omega), take_snoc (l := c) (by omega)]
  unfold Crc.xors
  rw [List.zipWith_append (by simp; omega), List.zipWith_append (by simp; omega)]
  rfl

set_option maxHeartbeats 1000000 in
theorem crcThree_any (A1 A2 A3 : Option Addr) (c1 c2 c3 : Nat) (a b c : List UInt8) (n : Nat) (w0 : World) (h : n = min (min a.length b.length) c.length) (hn : n ≤ 300) (hl1 : a.length ≤ c1) (hl2 : b.length ≤ c2) (hl3 : c.length ≤ c3)
    (hr1 : Row w0 A1 (a.map B8)) (hr2 : Row w0 A2 (b.map B8)) (hr3 : Row w0 A3 (c.map B8)) :
    Calls Try.prog 7 #[.slice A1 a.length c1, .slice A2 b.length c2, .slice A3 c.length c3] w0 fun e w' => e = .returned (.bool true) ∧ Ext w0 w' := by
  have R1 := Lib.hid hr1
  have R2 := Lib.hid hr2
  have R3 := Lib.hid hr3
  have hm := min3_run a.length b.length c.length n h
  have ha : n ≤ a.length := by omega
  have hb : n ≤ b.length := by omega
  have hc : n ≤ c.length := by omega
  clear hr1 hr2 hr3 h
  go_enter Try.func7, Try.ntmps7
  go_wp2_with (go_at_call 18; refine (awake4_any _).mono ?_; rintro e w1 ⟨rfl, hb1⟩)
  go_loopw [9, 10] (fun d i wr => ∃ k : Nat, k ≤ n ∧ i = .int .i64 k ∧ ∃ A c0, d = .slice A k c0 ∧ Own wr w0.heap.size (.slice A k c0) (Crc.xors (Crc.xors (a.take k) (b.take k)) (c.take k)) ∧ Ext w0 wr) (fun _ i _ => n - (intOf i).toNat)
  case atStart => exact ⟨0, Nat.zero_le _, rfl, none, 0, rfl, Own.nil _ _, hb1⟩
  case round =>
    obtain ⟨k, hk, rfl, A, c0, rfl, hown, hbel⟩ := hrel
    have HO := Lib.hid hown
    have HL := Lib.hid hbel
    have hB := hbel.size
    clear hown hbel hb1
    by_cases hlt : k < n
    · obtain ⟨ad1, x1, rfl, hx1, hy1, hcell1⟩ := b8_at R1.out (show k < a.length by omega)
      obtain ⟨ad2, x2, rfl, hx2, hy2, hcell2⟩ := b8_at R2.out (show k < b.length by omega)
      obtain ⟨ad3, x3, rfl, hx3, hy3, hcell3⟩ := b8_at R3.out (show k < c.length by omega)
      have C1 := Lib.hid hcell1
      have C2 := Lib.hid hcell2
      have C3 := Lib.hid hcell3
      have HS := Lib.hid (xors_snoc ha hb hc hlt)
      obtain ⟨x, hx⟩ : ∃ x, x = a[k] ^^^ b[k] ^^^ c[k] := ⟨_, rfl⟩
      have HX := Lib.hid (show x.toNat = x1 ^^^ x2 ^^^ x3 by rw [hx, UInt8.toNat_xor, UInt8.toNat_xor, hy1, hy2, hy3])
      rw [← hx] at HS
      have hy : x1 ^^^ x2 < 256 := Nat.xor_lt_two_pow (n := 8) hx1 hx2
      have e1 := u8_xor_nat x1 x2 hx1 hx2
      have e2 := u8_xor_nat (x1 ^^^ x2) x3 hy hx3
      rw [← HX.out] at e2
      obtain ⟨L, HLe⟩ : ∃ L, Hid (L = Crc.xors (Crc.xors (a.take k) (b.take k)) (c.take k)) := ⟨_, rfl⟩
      have HLn := Lib.hid (show L.length = k by rw [HLe.out]; simp [Crc.xors]; omega)
      rw [← HLe.out] at HO HS
      clear hcell1 hcell2 hcell3 hy1 hy2 hy3 hx
      have hka : k < a.length := by omega
      have hkb : k < b.length := by omega
      have hkc : k < c.length := by omega
      go_wp2
      apply wp_region_inv (w0.heap.size) (hB) (by decide) (by kernel_rfl) (by kernel_rfl) (by kernel_rfl)
        [fun w v => v = .slice A k c0 ∧ Own w w0.heap.size (.slice A k c0) L, Is (.slice (some ad1) a.length c1), Is (.int .i64 (k : Int)), Is (.pointer (some (ad1.add k))), Is (.int .u8 (x1 : Int)), Is (.slice (some ad2) b.length c2), Is (.int .i64 (k : Int)), Is (.pointer (some (ad2.add k))), Is (.int .u8 (x2 : Int)), Is (.int .u8 ((x1 ^^^ x2 : Nat) : Int)), Is (.slice (some ad3) c.length c3), Is (.int .i64 (k : Int)), Is (.pointer (some (ad3.add k))), Is (.int .u8 (x3 : Int)), Is (.int .u8 (x.toNat : Int)), fun w v => ∃ g, v = .slice (some ⟨g, 0, none⟩) 1 1 ∧ Row w (some ⟨g, 0, none⟩) ([x].map B8), fun w v => ∃ A c, v = .slice A (k + 1) c ∧ Own w w0.heap.size (.slice A (k + 1) c) (L ++ [x]), fun w v => ∃ A c, v = .slice A (k + 1) c ∧ Own w w0.heap.size (.slice A (k + 1) c) (L ++ [x])] (fun w => Own w w0.heap.size (.slice A k c0) L) (fun k => k == 0)
      case mono => exact ⟨Say.st_of (by intro w w' v hE hp; exact ⟨hp.1, hp.2.ext hE⟩), Is.st _, Is.st _, Is.st _, Is.st _, Is.st _, Is.st _, Is.st _, Is.st _, Is.st _, Is.st _, Is.st _, Is.st _, Is.st _, Is.st _, Say.st_of (by intro w w' v hE hp; first | (obtain ⟨a1, hp1, hp2⟩ := hp; exact ⟨a1, hp1, hp2.ext hE⟩) | (obtain ⟨a1, a2, hp1, hp2⟩ := hp; exact ⟨a1, a2, hp1, hp2.ext hE⟩) | (obtain ⟨a1, a2, hp1, hp2, hp3⟩ := hp; exact ⟨a1, a2, hp1, hp2.ext hE, hp3.ext hE⟩)), Say.st_of (by intro w w' v hE hp; first | (obtain ⟨a1, hp1, hp2⟩ := hp; exact ⟨a1, hp1, hp2.ext hE⟩) | (obtain ⟨a1, a2, hp1, hp2⟩ := hp; exact ⟨a1, a2, hp1, hp2.ext hE⟩) | (obtain ⟨a1, a2, hp1, hp2, hp3⟩ := hp; exact ⟨a1, a2, hp1, hp2.ext hE, hp3.ext hE⟩)), Say.st_of (by intro w w' v hE hp; first | (obtain ⟨a1, hp1, hp2⟩ := hp; exact ⟨a1, hp1, hp2.ext hE⟩) | (obtain ⟨a1, a2, hp1, hp2⟩ := hp; exact ⟨a1, a2, hp1, hp2.ext hE⟩) | (obtain ⟨a1, a2, hp1, hp2, hp3⟩ := hp; exact ⟨a1, a2, hp1, hp2.ext hE, hp3.ext hE⟩)), True.intro⟩
      case monoS => exact fun _ _ hE h => h.ext hE
      case startS => exact HO.out
      case hF => intro u; simp only [fill, Nat.reduceAdd, List.setIfInBounds_toArray, List.set_cons_succ, List.set_cons_zero]; exact rfl
      case steps =>
        refine StepsAt.cons ?_ ?_
        · intro u w1 K hE hS hU hd hK hW
          have o17 : u 17 = .slice A k c0 := hU 17 rfl
          have hS0 := hS rfl
          simp only [o17] at hK
          go_simp
          exact hK _ _ (Below.refl _ _) ⟨rfl, hS0⟩
        refine StepsAt.cons ?_ ?_
        · intro u w1 K hE hS hU hd hK hW
          go_simp
          exact hK _ _ (Below.refl _ _) rfl
        refine StepsAt.cons ?_ ?_
        · intro u w1 K hE hS hU hd hK hW
          go_simp
          exact hK _ _ (Below.refl _ _) rfl
        refine StepsAt.cons ?_ ?_
        · intro u w1 K hE hS hU hd hK hW
          have d1 : u 1 = (.slice (some ad1) a.length c1) := hd 1 rfl
          have d2 : u 2 = (.int .i64 (k : Int)) := hd 2 rfl
          simp only [d1, d2] at hK
          go_simp
          exact hK _ _ (Below.refl _ _) rfl
        refine StepsAt.cons ?_ ?_
        · intro u w1 K hE hS hU hd hK hW
          have d3 : u 3 = (.pointer (some (ad1.add k))) := hd 3 rfl
          simp only [d3] at hK
          have q := Ext.cellAt (HL.out.trans hE) C1.out
          go_simp
          exact hK _ _ (Below.refl _ _) rfl
        refine StepsAt.cons ?_ ?_
        · intro u w1 K hE hS hU hd hK hW
          go_simp
          exact hK _ _ (Below.refl _ _) rfl
        refine StepsAt.cons ?_ ?_
        · intro u w1 K hE hS hU hd hK hW
          go_simp
          exact hK _ _ (Below.refl _ _) rfl
        refine StepsAt.cons ?_ ?_
        · intro u w1 K hE hS hU hd hK hW
          have d5 : u 5 = (.slice (some ad2) b.length c2) := hd 5 rfl
          have d6 : u 6 = (.int .i64 (k : Int)) := hd 6 rfl
          simp only [d5, d6] at hK
          go_simp
          exact hK _ _ (Below.refl _ _) rfl
        refine StepsAt.cons ?_ ?_
        · intro u w1 K hE hS hU hd hK hW
          have d7 : u 7 = (.pointer (some (ad2.add k))) := hd 7 rfl
          simp only [d7] at hK
          have q := Ext.cellAt (HL.out.trans hE) C2.out
          go_simp
          exact hK _ _ (Below.refl _ _) rfl
        refine StepsAt.cons ?_ ?_
        · intro u w1 K hE hS hU hd hK hW
          have d4 : u 4 = (.int .u8 (x1 : Int)) := hd 4 rfl
          have d8 : u 8 = (.int .u8 (x2 : Int)) := hd 8 rfl
          simp only [d4, d8] at hK
          go_simp
          exact hK _ _ (Below.refl _ _) rfl
        refine StepsAt.cons ?_ ?_
        · intro u w1 K hE hS hU hd hK hW
          go_simp
          exact hK _ _ (Below.refl _ _) rfl
        refine StepsAt.cons ?_ ?_
        · intro u w1 K hE hS hU hd hK hW
          go_simp
          exact hK _ _ (Below.refl _ _) rfl
        refine StepsAt.cons ?_ ?_
        · intro u w1 K hE hS hU hd hK hW
          have d10 : u 10 = (.slice (some ad3) c.length c3) := hd 10 rfl
          have d11 : u 11 = (.int .i64 (k : Int)) := hd 11 rfl
          simp only [d10, d11] at hK
          go_simp
          exact hK _ _ (Below.refl _ _) rfl
        refine StepsAt.cons ?_ ?_
        · intro u w1 K hE hS hU hd hK hW
          have d12 : u 12 = (.pointer (some (ad3.add k))) := hd 12 rfl
          simp only [d12] at hK
          have q := Ext.cellAt (HL.out.trans hE) C3.out
          go_simp
          exact hK _ _ (Below.refl _ _) rfl
        refine StepsAt.cons ?_ ?_
        · intro u w1 K hE hS hU hd hK hW
          have d9 : u 9 = (.int .u8 ((x1 ^^^ x2 : Nat) : Int)) := hd 9 rfl
          have d13 : u 13 = (.int .u8 (x3 : Int)) := hd 13 rfl
          simp only [d9, d13] at hK
          go_simp
          exact hK _ _ (Below.refl _ _) rfl
        refine StepsAt.cons ?_ ?_
        · intro u w1 K hE hS hU hd hK hW
          have d14 : u 14 = (.int .u8 (x.toNat : Int)) := hd 14 rfl
          simp only [d14] at hK
          go_simp
          exact hK _ _ (Ext.a1 _ _) ⟨_, rfl, Row.newM w1 _ 5 (0, 0)⟩
        refine StepsAt.cons ?_ ?_
        · intro u w1 K hE hS hU hd hK hW
          obtain ⟨d0, h0_1⟩ : u 0 = .slice A k c0 ∧ Own w1 w0.heap.size (.slice A k c0) L := hd 0 rfl
          obtain ⟨g15, d15, h15_1⟩ : ∃ g15, u 15 = .slice (some ⟨g15, 0, none⟩) 1 1 ∧ Row w1 (some ⟨g15, 0, none⟩) ([x].map B8) := hd 15 rfl
          refine if_run rfl ?_
          refine wp_append_bytes (m := 1) bt22 (.tmp 27) (.tmp 42) rfl h0_1 d0 d15 rfl h15_1 (by rw [HLn.out]; simp; omega) (Nat.le_trans hB hE.size) ?_
          rw [HLn.out]
          intro A' c' w2 hown2 hg2 hbl2
          exact hW _ _ (h0_1.below hg2 (Below.refl _ _) (Nat.le_trans hB hE.size) (Nat.le_refl _)) ⟨fun hk => absurd hk (by decide), fun _ _ h => h, fun _ _ h => h, fun _ _ h => h, fun _ _ h => h, fun _ _ h => h, fun _ _ h => h, fun _ _ h => h, fun _ _ h => h, fun _ _ h => h, fun _ _ h => h, fun _ _ h => h, fun _ _ h => h, fun _ _ h => h, fun _ _ h => h, fun hk => absurd hk (by decide), fun hk => absurd hk (by decide), fun hk => absurd hk (by decide), True.intro⟩ (fun hk => absurd hk (by decide)) ⟨A', c', rfl, hown2⟩
        refine StepsAt.cons ?_ ?_
        · intro u w1 K hE hS hU hd hK hW
          obtain ⟨A16, c16, d16, h16_1⟩ : ∃ A16 c16, u 16 = .slice A16 (k + 1) c16 ∧ Own w1 w0.heap.size (.slice A16 (k + 1) c16) (L ++ [x]) := hd 16 rfl
          simp only [d16] at hK
          go_simp
          exact hK _ _ (Below.refl _ _) ⟨_, _, rfl, h16_1⟩
        exact StepsAt.nil
      case fin =>
        intro u w9 hE9 hP
        obtain ⟨A17, c17, d17, h17_1⟩ : ∃ A17 c17, u 17 = .slice A17 (k + 1) c17 ∧ Own w9 w0.heap.size (.slice A17 (k + 1) c17) (L ++ [x]) := hP
        simp only [d17]
        go_wp2
        go_roundw
        case rel => exact ⟨k + 1, by omega, by go_num, A17, c17, rfl, by rw [HS.out]; exact h17_1, HL.out.trans hE9⟩
        case measure => simp [intOf]; omega
    · obtain rfl : k = n := by omega
      obtain ⟨L, HLe⟩ : ∃ L, Hid (L = Crc.xors (Crc.xors (a.take k) (b.take k)) (c.take k)) := ⟨_, rfl⟩
      have HLn := Lib.hid (show L.length = k by rw [HLe.out]; simp [Crc.xors]; omega)
      obtain ⟨s1, Hs1⟩ : ∃ s1, Hid (Crc.sum (a.take k) = s1) := ⟨_, rfl⟩
      obtain ⟨s2, Hs2⟩ : ∃ s2, Hid (Crc.sum (b.take k) = s2) := ⟨_, rfl⟩
      obtain ⟨s3, Hs3⟩ : ∃ s3, Hid (Crc.sum (c.take k) = s3) := ⟨_, rfl⟩
      have g1 : s1 < 2 ^ 32 := by rw [← Hs1.out]; exact Crc.sum_lt _
      have g2 : s2 < 2 ^ 32 := by rw [← Hs2.out]; exact Crc.sum_lt _
      have g3 : s3 < 2 ^ 32 := by rw [← Hs3.out]; exact Crc.sum_lt _
      have e1 := xor32 s1 s2 g1 g2
      have g12 : s1 ^^^ s2 < 2 ^ 32 := Nat.xor_lt_two_pow g1 g2
      obtain ⟨s12, Hs12⟩ : ∃ s12, Hid (s1 ^^^ s2 = s12) := ⟨_, rfl⟩
      rw [Hs12.out] at e1 g12
      have e2 := xor32 s12 s3 g12 g3
      obtain ⟨s4, Hs4⟩ : ∃ s4, Hid (s12 ^^^ s3 = s4) := ⟨_, rfl⟩
      rw [Hs4.out] at e2
      have HSum := Lib.hid (show Crc.sum L = s4 by rw [HLe.out, Crc.three _ _ _ (by simp; omega) (by simp; omega), Hs1.out, Hs2.out, Hs3.out, Hs12.out, Hs4.out])
      rw [← HLe.out] at HO
      have RO := Lib.hid HO.out.row
      have Q1 := Lib.hid ((R1.out.ext HL.out).take k)
      have Q2 := Lib.hid ((R2.out.ext HL.out).take k)
      have Q3 := Lib.hid ((R3.out.ext HL.out).take k)
      rw [← List.map_take] at Q1 Q2 Q3
      have kc1 : k ≤ c1 := by omega
      have kc2 : k ≤ c2 := by omega
      have kc3 : k ≤ c3 := by omega
      clear g1 g2 g3 g12 HO
      go_wp2
      apply wp_region_inv _ (Nat.le_refl _) (by decide) (by kernel_rfl) (by kernel_rfl) (by kernel_rfl)
        [Is (.bool true), Is (.bool true), Is (.slice A k c0), fun w v => ∃ B, v = .slice B 1 1 ∧ Parts w B [(A, c0, L)], Is (.int .u32 (s4 : Int)), Is (.slice A1 a.length c1), Is (.int .i64 (k : Int)), Is (.slice A1 k c1), fun w v => ∃ B, v = .slice B 1 1 ∧ Parts w B [(A1, c1, a.take k)], Is (.int .u32 (s1 : Int)), Is (.slice A2 b.length c2), Is (.int .i64 (k : Int)), Is (.slice A2 k c2), fun w v => ∃ B, v = .slice B 1 1 ∧ Parts w B [(A2, c2, b.take k)], Is (.int .u32 (s2 : Int)), Is (.int .u32 (s12 : Int)), Is (.slice A3 c.length c3), Is (.int .i64 (k : Int)), Is (.slice A3 k c3), fun w v => ∃ B, v = .slice B 1 1 ∧ Parts w B [(A3, c3, c.take k)], Is (.int .u32 (s3 : Int)), Is (.int .u32 (s4 : Int)), Is (.bool true), Is (.bool true), Is (.bool true)] (fun _ => True) (fun _ => false)
      case mono => exact ⟨Is.st _, Is.st _, Is.st _, Say.st_of (by intro w w' v hE hp; first | (obtain ⟨a1, hp1, hp2⟩ := hp; exact ⟨a1, hp1, hp2.ext hE⟩) | (obtain ⟨a1, a2, hp1, hp2⟩ := hp; exact ⟨a1, a2, hp1, hp2.ext hE⟩) | (obtain ⟨a1, a2, hp1, hp2, hp3⟩ := hp; exact ⟨a1, a2, hp1, hp2.ext hE, hp3.ext hE⟩)), Is.st _, Is.st _, Is.st _, Is.st _, Say.st_of (by intro w w' v hE hp; first | (obtain ⟨a1, hp1, hp2⟩ := hp; exact ⟨a1, hp1, hp2.ext hE⟩) | (obtain ⟨a1, a2, hp1, hp2⟩ := hp; exact ⟨a1, a2, hp1, hp2.ext hE⟩) | (obtain ⟨a1, a2, hp1, hp2, hp3⟩ := hp; exact ⟨a1, a2, hp1, hp2.ext hE, hp3.ext hE⟩)), Is.st _, Is.st _, Is.st _, Is.st _, Say.st_of (by intro w w' v hE hp; first | (obtain ⟨a1, hp1, hp2⟩ := hp; exact ⟨a1, hp1, hp2.ext hE⟩) | (obtain ⟨a1, a2, hp1, hp2⟩ := hp; exact ⟨a1, a2, hp1, hp2.ext hE⟩) | (obtain ⟨a1, a2, hp1, hp2, hp3⟩ := hp; exact ⟨a1, a2, hp1, hp2.ext hE, hp3.ext hE⟩)), Is.st _, Is.st _, Is.st _, Is.st _, Is.st _, Say.st_of (by intro w w' v hE hp; first | (obtain ⟨a1, hp1, hp2⟩ := hp; exact ⟨a1, hp1, hp2.ext hE⟩) | (obtain ⟨a1, a2, hp1, hp2⟩ := hp; exact ⟨a1, a2, hp1, hp2.ext hE⟩) | (obtain ⟨a1, a2, hp1, hp2, hp3⟩ := hp; exact ⟨a1, a2, hp1, hp2.ext hE, hp3.ext hE⟩)), Is.st _, Is.st _, Is.st _, Is.st _, Is.st _, True.intro⟩
      case monoS => exact fun _ _ _ h => h
      case startS => exact True.intro
      case hF => intro u; simp only [fill, Nat.reduceAdd, List.setIfInBounds_toArray, List.set_cons_succ, List.set_cons_zero]; exact rfl
      case steps =>
        refine StepsAt.cons ?_ ?_
        · intro u w1 K hE hS hU hd hK hW
          go_simp
          exact hK _ _ (Below.refl _ _) rfl
        refine StepsAt.cons ?_ ?_
        · intro u w1 K hE hS hU hd hK hW
          have d0 : u 0 = (.bool true) := hd 0 rfl
          simp only [d0] at hK
          go_simp
          exact hK _ _ (Below.refl _ _) rfl
        refine StepsAt.cons ?_ ?_
        · intro u w1 K hE hS hU hd hK hW
          have d1 : u 1 = (.bool true) := hd 1 rfl
          simp only [d1] at hK
          go_simp
          exact hK _ _ (Below.refl _ _) rfl
        refine StepsAt.cons ?_ ?_
        · intro u w1 K hE hS hU hd hK hW
          have d1 : u 1 = (.bool true) := hd 1 rfl
          have d2 : u 2 = (.slice A k c0) := hd 2 rfl
          simp only [d1, d2] at hK
          go_simp
          exact hK _ _ (Ext.a1 _ _) ⟨_, rfl, Parts.one HLn.out (RO.out.ext hE) (by rw [HLn.out]; omega) _⟩
        refine StepsAt.cons ?_ ?_
        · intro u w1 K hE hS hU hd hK hW
          have d1 : u 1 = (.bool true) := hd 1 rfl
          obtain ⟨B3, d3, h3_1⟩ : ∃ B3, u 3 = .slice B3 1 1 ∧ Parts w1 B3 [(A, c0, L)] := hd 3 rfl
          simp only [d1, d3] at hK
          go_simp
          refine (sum_any B3 1 [(A, c0, L)] w1 (by simp) h3_1).mono ?_
          rintro e w2 ⟨rfl, hb⟩
          rw [joined_one, HSum.out]
          exact hK _ _ hb rfl
        refine StepsAt.cons ?_ ?_
        · intro u w1 K hE hS hU hd hK hW
          have d1 : u 1 = (.bool true) := hd 1 rfl
          simp only [d1] at hK
          go_simp
          exact hK _ _ (Below.refl _ _) rfl
        refine StepsAt.cons ?_ ?_
        · intro u w1 K hE hS hU hd hK hW
          have d1 : u 1 = (.bool true) := hd 1 rfl
          simp only [d1] at hK
          go_simp
          exact hK _ _ (Below.refl _ _) rfl
        refine StepsAt.cons ?_ ?_
        · intro u w1 K hE hS hU hd hK hW
          have d1 : u 1 = (.bool true) := hd 1 rfl
          have d5 : u 5 = (.slice A1 a.length c1) := hd 5 rfl
          have d6 : u 6 = (.int .i64 (k : Int)) := hd 6 rfl
          simp only [d1, d5, d6] at hK
          go_simp
          exact hK _ _ (Below.refl _ _) rfl
        refine StepsAt.cons ?_ ?_
        · intro u w1 K hE hS hU hd hK hW
          have d1 : u 1 = (.bool true) := hd 1 rfl
          have d7 : u 7 = (.slice A1 k c1) := hd 7 rfl
          simp only [d1, d7] at hK
          go_simp
          exact hK _ _ (Ext.a1 _ _) ⟨_, rfl, Parts.one (by simp; omega) (Q1.out.ext hE) (by simp; omega) _⟩
        refine StepsAt.cons ?_ ?_
        · intro u w1 K hE hS hU hd hK hW
          have d1 : u 1 = (.bool true) := hd 1 rfl
          obtain ⟨B8, d8, h8_1⟩ : ∃ B8, u 8 = .slice B8 1 1 ∧ Parts w1 B8 [(A1, c1, a.take k)] := hd 8 rfl
          simp only [d1, d8] at hK
          go_simp
          refine (sum_any B8 1 [(A1, c1, a.take k)] w1 (by simp) h8_1).mono ?_
          rintro e w2 ⟨rfl, hb⟩
          rw [joined_one, Hs1.out]
          exact hK _ _ hb rfl
        refine StepsAt.cons ?_ ?_
        · intro u w1 K hE hS hU hd hK hW
          have d1 : u 1 = (.bool true) := hd 1 rfl
          simp only [d1] at hK
          go_simp
          exact hK _ _ (Below.refl _ _) rfl
        refine StepsAt.cons ?_ ?_
        · intro u w1 K hE hS hU hd hK hW
          have d1 : u 1 = (.bool true) := hd 1 rfl
          simp only [d1] at hK
          go_simp
          exact hK _ _ (Below.refl _ _) rfl
        refine StepsAt.cons ?_ ?_
        · intro u w1 K hE hS hU hd hK hW
          have d1 : u 1 = (.bool true) := hd 1 rfl
          have d10 : u 10 = (.slice A2 b.length c2) := hd 10 rfl
          have d11 : u 11 = (.int .i64 (k : Int)) := hd 11 rfl
          simp only [d1, d10, d11] at hK
          go_simp
          exact hK _ _ (Below.refl _ _) rfl
        refine StepsAt.cons ?_ ?_
        · intro u w1 K hE hS hU hd hK hW
          have d1 : u 1 = (.bool true) := hd 1 rfl
          have d12 : u 12 = (.slice A2 k c2) := hd 12 rfl
          simp only [d1, d12] at hK
          go_simp
          exact hK _ _ (Ext.a1 _ _) ⟨_, rfl, Parts.one (by simp; omega) (Q2.out.ext hE) (by simp; omega) _⟩
        refine StepsAt.cons ?_ ?_
        · intro u w1 K hE hS hU hd hK hW
          have d1 : u 1 = (.bool true) := hd 1 rfl
          obtain ⟨B13, d13, h13_1⟩ : ∃ B13, u 13 = .slice B13 1 1 ∧ Parts w1 B13 [(A2, c2, b.take k)] := hd 13 rfl
          simp only [d1, d13] at hK
          go_simp
          refine (sum_any B13 1 [(A2, c2, b.take k)] w1 (by simp) h13_1).mono ?_
          rintro e w2 ⟨rfl, hb⟩
          rw [joined_one, Hs2.out]
          exact hK _ _ hb rfl
        refine StepsAt.cons ?_ ?_
        · intro u w1 K hE hS hU hd hK hW
          have d1 : u 1 = (.bool true) := hd 1 rfl
          have d9 : u 9 = (.int .u32 (s1 : Int)) := hd 9 rfl
          have d14 : u 14 = (.int .u32 (s2 : Int)) := hd 14 rfl
          simp only [d1, d9, d14] at hK
          go_simp
          exact hK _ _ (Below.refl _ _) rfl
        refine StepsAt.cons ?_ ?_
        · intro u w1 K hE hS hU hd hK hW
          have d1 : u 1 = (.bool true) := hd 1 rfl
          simp only [d1] at hK
          go_simp
          exact hK _ _ (Below.refl _ _) rfl
        refine StepsAt.cons ?_ ?_
        · intro u w1 K hE hS hU hd hK hW
          have d1 : u 1 = (.bool true) := hd 1 rfl
          simp only [d1] at hK
          go_simp
          exact hK _ _ (Below.refl _ _) rfl
        refine StepsAt.cons ?_ ?_
        · intro u w1 K hE hS hU hd hK hW
          have d1 : u 1 = (.bool true) := hd 1 rfl
          have d16 : u 16 = (.slice A3 c.length c3) := hd 16 rfl
          have d17 : u 17 = (.int .i64 (k : Int)) := hd 17 rfl
          simp only [d1, d16, d17] at hK
          go_simp
          exact hK _ _ (Below.refl _ _) rfl
        refine StepsAt.cons ?_ ?_
        · intro u w1 K hE hS hU hd hK hW
          have d1 : u 1 = (.bool true) := hd 1 rfl
          have d18 : u 18 = (.slice A3 k c3) := hd 18 rfl
          simp only [d1, d18] at hK
          go_simp
          exact hK _ _ (Ext.a1 _ _) ⟨_, rfl, Parts.one (by simp; omega) (Q3.out.ext hE) (by simp; omega) _⟩
        refine StepsAt.cons ?_ ?_
        · intro u w1 K hE hS hU hd hK hW
          have d1 : u 1 = (.bool true) := hd 1 rfl
          obtain ⟨B19, d19, h19_1⟩ : ∃ B19, u 19 = .slice B19 1 1 ∧ Parts w1 B19 [(A3, c3, c.take k)] := hd 19 rfl
          simp only [d1, d19] at hK
          go_simp
          refine (sum_any B19 1 [(A3, c3, c.take k)] w1 (by simp) h19_1).mono ?_
          rintro e w2 ⟨rfl, hb⟩
          rw [joined_one, Hs3.out]
          exact hK _ _ hb rfl
        refine StepsAt.cons ?_ ?_
        · intro u w1 K hE hS hU hd hK hW
          have d1 : u 1 = (.bool true) := hd 1 rfl
          have d15 : u 15 = (.int .u32 (s12 : Int)) := hd 15 rfl
          have d20 : u 20 = (.int .u32 (s3 : Int)) := hd 20 rfl
          simp only [d1, d15, d20] at hK
          go_simp
          exact hK _ _ (Below.refl _ _) rfl
        refine StepsAt.cons ?_ ?_
        · intro u w1 K hE hS hU hd hK hW
          have d1 : u 1 = (.bool true) := hd 1 rfl
          have d4 : u 4 = (.int .u32 (s4 : Int)) := hd 4 rfl
          have d21 : u 21 = (.int .u32 (s4 : Int)) := hd 21 rfl
          simp only [d1, d4, d21] at hK
          go_simp
          exact hK _ _ (Below.refl _ _) rfl
        refine StepsAt.cons ?_ ?_
        · intro u w1 K hE hS hU hd hK hW
          have d1 : u 1 = (.bool true) := hd 1 rfl
          have d22 : u 22 = (.bool true) := hd 22 rfl
          simp only [d1, d22] at hK
          go_simp
          exact hK _ _ (Below.refl _ _) rfl
        refine StepsAt.cons ?_ ?_
        · intro u w1 K hE hS hU hd hK hW
          have d23 : u 23 = (.bool true) := hd 23 rfl
          simp only [d23] at hK
          go_simp
          exact hK _ _ (Below.refl _ _) rfl
        exact StepsAt.nil
      case fin =>
        intro u w9 hE9 hP
        have d24 : u 24 = (.bool true) := hP
        simp only [d24]
        go_wp2
        go_ret
        exact ⟨rfl, HL.out.trans' hE9⟩

end Go.Proofs.Ytpalnlcjhpkkpaa
