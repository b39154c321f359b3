/-
  The walk of CrcBurst.
-/
import Derived.Test.YtpalnlcjhpkkpaaCrcParts
namespace Go.Proofs.Ytpalnlcjhpkkpaa
open Go.RowKit

theorem burst_bit (f b i : Nat) (h : b / 2 ^ i % 2 = 1) : 2 ^ f * (b % 2 ^ (i + 1)) = 2 ^ f * (b % 2 ^ i) ^^^ 2 ^ (f + i) := by
  apply Nat.eq_of_testBit_eq
  intro j
  rw [Nat.testBit_xor, Nat.testBit_two_pow_mul, Nat.testBit_two_pow_mul, Nat.testBit_mod_two_pow, Nat.testBit_mod_two_pow, Nat.testBit_two_pow]
  have hb : b.testBit i = true := by
    rw [Nat.testBit_eq_decide_div_mod_eq]
    simpa using h
  by_cases h1 : f ≤ j
  · by_cases h2 : f + i = j
    · have e : j - f = i := by omega
      have h3 : i < i + 1 := by omega
      simp [h1, h2, e, hb]
    · by_cases h3 : j - f < i
      · have h4 : j - f < i + 1 := by omega
        simp [h1, h2, h3, h4]
      · have h4 : ¬ j - f < i + 1 := by omega
        simp [h1, h2, h3, h4]
  · have h2 : ¬ f + i = j := by omega
    simp [h1, h2]
theorem burst_no (f b i : Nat) (h : ¬ b / 2 ^ i % 2 = 1) : 2 ^ f * (b % 2 ^ (i + 1)) = 2 ^ f * (b % 2 ^ i) := by
  congr 1
  rw [Nat.mod_pow_succ]
  have : b / 2 ^ i % 2 = 0 := by omega
  rw [this]; omega

set_option maxHeartbeats 1000000 in
theorem crcBurst_any (A1 : Option Addr) (c1 : Nat) (l : List UInt8) (at_ burst : Nat) (w0 : World) (hat : at_ < 65536) (hbu : burst < 4294967296) (hr : Row w0 A1 (l.map B8)) :
    Calls Try.prog 6 #[.slice A1 l.length c1, .int .u16 (at_ : Int), .int .u32 (burst : Int)] w0 fun e w' => e = .returned (.bool true) ∧ Ext w0 w' := by
  have HR := Lib.hid hr
  clear hr
  by_cases hlen : 1000 < l.length
  · go_enter Try.func6, Try.ntmps6
    go_wp2_with (go_at_call 18; refine (awake4_any _).mono ?_; rintro e w1 ⟨rfl, hb1⟩)
    go_ret
    exact ⟨rfl, hb1⟩
  · go_enter Try.func6, Try.ntmps6
    go_wp2_with (go_at_call 18; refine (awake4_any _).mono ?_; rintro e w1 ⟨rfl, hb1⟩)
    refine (sum_any _ 1 [(A1, c1, l)] _ (by simp) (Parts.one rfl (HR.out.ext hb1) (by omega) 22)).mono ?_
    intro e w2 ⟨he, hb2⟩
    rw [joined_one] at he
    subst he
    have B2 := (Ext.alloc' hb1 (.cells #[.slice A1 l.length c1] 22)).trans' hb2
    clear hb2
    go_wp2_with (first
      | (go_at_call 19; refine (bytes_any _ _).mono ?_; rintro e w3 ⟨rfl, hb3⟩)
      | (with_reducible refine wpList_store_named rfl 25 _ _ rfl w3.heap.size _ rfl rfl 25 _ (heap_alloc_new _ _) (bytesV_hi _) (bytesV_hold _ _ _ _ _) (bytesV_ok _) w0 ((B2.trans' hb3).alloc' _) (B2.trans' hb3).size ?_; intro w4 hb4 hblk4 hs4 ho4))
    have B4 := Lib.hid hb4
    have K4 := Lib.hid hblk4
    have hB4 := hb4.size
    clear hs4 ho4 hb3 B2 hb1 hb4 hblk4
    have R4 := Lib.hid (HR.out.ext B4.out)
    apply wp_region_inv (w0.heap.size) (hB4) (by decide) (by kernel_rfl) (by kernel_rfl) (by kernel_rfl)
      [fun w v => ∃ A c, v = .slice A 0 c ∧ Own w w0.heap.size (.slice A 0 c) [], Is (.slice A1 l.length c1), fun w v => ∃ A c, v = .slice A l.length c ∧ Own w w0.heap.size (.slice A l.length c) l, Is (.slice (some ⟨w3.heap.size, 0, none⟩) 4 4), fun w v => ∃ A c, v = .slice A (l.length + 4) c ∧ Own w w0.heap.size (.slice A (l.length + 4) c) (l ++ Crc.bytes (Crc.sum l)), fun w v => ∃ A c, v = .slice A (l.length + 4) c ∧ Own w w0.heap.size (.slice A (l.length + 4) c) (l ++ Crc.bytes (Crc.sum l))] (fun w => w.heap[w3.heap.size]? = some (.cells (bytesV (Crc.sum l)) 25 (0, 0))) (fun k => k == 4)
    case mono => exact ⟨Say.st_of (by intro w w' v hE hp; first | (obtain ⟨a1, hp1, hp2⟩ := hp; exact ⟨a1, hp1, hp2.ext hE⟩) | (obtain ⟨a1, a2, hp1, hp2⟩ := hp; exact ⟨a1, a2, hp1, hp2.ext hE⟩) | (obtain ⟨a1, a2, hp1, hp2, hp3⟩ := hp; exact ⟨a1, a2, hp1, hp2.ext hE, hp3.ext hE⟩)), Is.st _, Say.st_of (by intro w w' v hE hp; first | (obtain ⟨a1, hp1, hp2⟩ := hp; exact ⟨a1, hp1, hp2.ext hE⟩) | (obtain ⟨a1, a2, hp1, hp2⟩ := hp; exact ⟨a1, a2, hp1, hp2.ext hE⟩) | (obtain ⟨a1, a2, hp1, hp2, hp3⟩ := hp; exact ⟨a1, a2, hp1, hp2.ext hE, hp3.ext hE⟩)), Is.st _, Say.st_of (by intro w w' v hE hp; first | (obtain ⟨a1, hp1, hp2⟩ := hp; exact ⟨a1, hp1, hp2.ext hE⟩) | (obtain ⟨a1, a2, hp1, hp2⟩ := hp; exact ⟨a1, a2, hp1, hp2.ext hE⟩) | (obtain ⟨a1, a2, hp1, hp2, hp3⟩ := hp; exact ⟨a1, a2, hp1, hp2.ext hE, hp3.ext hE⟩)), Say.st_of (by intro w w' v hE hp; first | (obtain ⟨a1, hp1, hp2⟩ := hp; exact ⟨a1, hp1, hp2.ext hE⟩) | (obtain ⟨a1, a2, hp1, hp2⟩ := hp; exact ⟨a1, a2, hp1, hp2.ext hE⟩) | (obtain ⟨a1, a2, hp1, hp2, hp3⟩ := hp; exact ⟨a1, a2, hp1, hp2.ext hE, hp3.ext hE⟩)), True.intro⟩
    case monoS => exact fun _ _ hE h => (hE.block _ (lt_of_block h)).trans h
    case startS => exact K4.out
    case hF => intro u; simp only [fill, Nat.reduceAdd, List.setIfInBounds_toArray, List.set_cons_succ, List.set_cons_zero]; exact rfl
    case steps =>
      refine StepsAt.cons ?_ ?_
      · intro u w1 K hE hS hU hd hK hW
        go_simp
        exact hK _ _ (Ext.a1 _ _) ⟨_, _, rfl, Own.new w1 w0.heap.size (Nat.le_trans hB4 hE.size) [] 0 rfl (by simp) #[] rfl⟩
      refine StepsAt.cons ?_ ?_
      · intro u w1 K hE hS hU hd hK hW
        go_simp
        exact hK _ _ (Below.refl _ _) rfl
      refine StepsAt.cons ?_ ?_
      · intro u w1 K hE hS hU hd hK hW
        obtain ⟨A0, c0, d0, h0_1⟩ : ∃ A0 c0, u 0 = .slice A0 0 c0 ∧ Own w1 w0.heap.size (.slice A0 0 c0) [] := hd 0 rfl
        have d1 : u 1 = (.slice A1 l.length c1) := hd 1 rfl
        refine if_run rfl ?_
        refine wp_append_bytes (m := l.length) bt22 (.tmp 23) (.tmp 24) rfl h0_1 d0 d1 rfl (HR.out.ext (B4.out.trans hE)) (by simp; omega) (Nat.le_trans hB4 hE.size) ?_
        simp only [List.length_nil, Nat.zero_add, List.nil_append]
        intro A' c' w2 hown2 hg2 hbl2
        exact hW _ _ (h0_1.below hg2 (Below.refl _ _) (Nat.le_trans hB4 hE.size) (Nat.le_refl _)) ⟨fun hk => absurd hk (by decide), fun _ _ h => h, fun hk => absurd hk (by decide), fun _ _ h => h, fun hk => absurd hk (by decide), fun hk => absurd hk (by decide), True.intro⟩ (fun _ hs => (hg2.block _ (lt_of_block hs) (h0_1.ne_block hs (by decide))).trans hs)  ⟨A', c', rfl, hown2⟩
      refine StepsAt.cons ?_ ?_
      · intro u w1 K hE hS hU hd hK hW
        go_simp
        exact hK _ _ (Below.refl _ _) rfl
      refine StepsAt.cons ?_ ?_
      · intro u w1 K hE hS hU hd hK hW
        obtain ⟨A2, c2, d2, h2_1⟩ : ∃ A2 c2, u 2 = .slice A2 l.length c2 ∧ Own w1 w0.heap.size (.slice A2 l.length c2) l := hd 2 rfl
        have d3 : u 3 = (.slice (some ⟨w3.heap.size, 0, none⟩) 4 4) := hd 3 rfl
        have hS0 := hS rfl
        refine if_run rfl ?_
        refine wp_append_bytes (m := 4) bt22 (.tmp 25) (.tmp 26) rfl h2_1 d2 d3 (bytes_len (Crc.sum l)) (row4 hS0) (by rw [bytes_len]; omega) (Nat.le_trans hB4 hE.size) ?_
        intro A' c' w2 hown2 hg2 hbl2
        exact hW _ _ (h2_1.below hg2 (Below.refl _ _) (Nat.le_trans hB4 hE.size) (Nat.le_refl _)) ⟨fun hk => absurd hk (by decide), fun _ _ h => h, fun hk => absurd hk (by decide), fun _ _ h => h, fun hk => absurd hk (by decide), fun hk => absurd hk (by decide), True.intro⟩ (fun hk => absurd hk (by decide)) ⟨A', c', rfl, hown2⟩
      refine StepsAt.cons ?_ ?_
      · intro u w1 K hE hS hU hd hK hW
        obtain ⟨A4, c4, d4, h4_1⟩ : ∃ A4 c4, u 4 = .slice A4 (l.length + 4) c4 ∧ Own w1 w0.heap.size (.slice A4 (l.length + 4) c4) (l ++ Crc.bytes (Crc.sum l)) := hd 4 rfl
        simp only [d4] at hK
        go_simp
        exact hK _ _ (Below.refl _ _) ⟨_, _, rfl, h4_1⟩
      exact StepsAt.nil
    case fin =>
      intro u w9 hE9 hP
      obtain ⟨A5, c5, d5, h5_1⟩ : ∃ A5 c5, u 5 = .slice A5 (l.length + 4) c5 ∧ Own w9 w0.heap.size (.slice A5 (l.length + 4) c5) (l ++ Crc.bytes (Crc.sum l)) := hP
      simp only [d5]
      go_wp2_with fail
      obtain ⟨base, HBe⟩ : ∃ base, Hid (base = l ++ Crc.bytes (Crc.sum l)) := ⟨_, rfl⟩
      have HBl := Lib.hid (show base.length = l.length + 4 by rw [HBe.out, List.length_append, bytes_len])
      obtain ⟨f, Hf⟩ : ∃ f : Nat, Hid (f = at_ % (8 * (l.length + 4) - 31)) := ⟨_, rfl⟩
      have hfb : f ≤ 8 * l.length := by rw [Hf.out]; have := Nat.mod_lt at_ (show 0 < 8 * (l.length + 4) - 31 by omega); omega
      rw [show (at_ : Int) % (8 * ((l.length : Int) + 4) - 31) = (f : Int) by rw [Hf.out, Int.natCast_emod]; congr 1; omega]
      obtain ⟨g, cap, hv, _, _⟩ := World.ownsRow.form h5_1 (by rw [← HBe.out, HBl.out]; omega)
      injection hv with hA hlq hcap
      subst hA
      rw [← HBe.out] at h5_1
      have H5 := Lib.hid h5_1
      have HC := Lib.hid (show l.length + 4 ≤ c5 by obtain ⟨_, _, e, hc⟩ := h5_1.shape; injection e with _ e2 e3; omega)
      have E9 := Lib.hid (B4.out.trans hE9)
      clear h5_1 hE9 d5 hcap hlq
      go_loopw [11] (fun i wr => ∃ j : Nat, j ≤ 32 ∧ i = .int .i64 j ∧ Own wr w0.heap.size (.slice (some ⟨g, 0, none⟩) (l.length + 4) c5) (Crc.xors base (Crc.le base.length (2 ^ f * (burst % 2 ^ j)))) ∧ Ext w0 wr) (fun i _ => 32 - (intOf i).toNat)
      case atStart => exact ⟨0, by omega, rfl, by rw [Nat.pow_zero, Nat.mod_one, Nat.mul_zero, Crc.xors_zero]; exact H5.out, E9.out⟩
      case round =>
        obtain ⟨j, hj, rfl, hown, hext⟩ := hrel
        have HO := Lib.hid hown
        have HE := Lib.hid hext
        clear hown hext
        by_cases hlt : j < 32
        · by_cases hbit : burst / 2 ^ j % 2 = 1
          · obtain ⟨q, Hq⟩ : ∃ q : Nat, Hid (q = burst / 2 ^ j) := ⟨_, rfl⟩
            have hq : (burst : Int) / 2 ^ j = (q : Int) := by rw [Hq.out, Int.natCast_ediv]; simp
            rw [← Hq.out] at hbit
            have ht : ((q : Int) % 2 == 1) = true := by simp; omega
            have HB := Lib.hid (burst_bit f burst j (by rw [← Hq.out]; exact hbit))
            clear hbit
            have hka : (f + j) / 8 < l.length + 4 := by omega
            obtain ⟨L, HLe⟩ : ∃ L, Hid (L = Crc.xors base (Crc.le base.length (2 ^ f * (burst % 2 ^ j)))) := ⟨_, rfl⟩
            rw [← HLe.out] at HO
            have HLn := Lib.hid (show L.length = l.length + 4 by rw [HLe.out]; simp [Crc.xors, Crc.le_length, HBl.out])
            have hkL : (f + j) / 8 < L.length := by rw [HLn.out]; exact hka
            obtain ⟨x, Hx⟩ : ∃ x : UInt8, Hid (x = L.getD ((f + j) / 8) 0) := ⟨L.getD ((f + j) / 8) 0, Lib.hid rfl⟩
            have hcell := HO.out.cell hkL
            rw [← Hx.out] at hcell
            have hfr := HO.out.free ((f + j) / 8)
            obtain ⟨y, Hy⟩ : ∃ y : UInt8, Hid (y = UInt8.ofNat (2 ^ ((f + j) % 8))) := ⟨_, Lib.hid rfl⟩
            have he : bits .xor .u8 (x.toNat : Int) ((2 : Int) ^ ((f + j) % 8) % 256) = ((x ^^^ y).toNat : Int) := by
              rw [show (2 : Int) ^ ((f + j) % 8) % 256 = ((2 ^ ((f + j) % 8) % 256 : Nat) : Int) by simp, u8_xor_nat _ _ x.toNat_lt (Nat.mod_lt _ (by decide)), UInt8.toNat_xor, Hy.out, Crc.u8_toNat]
            obtain ⟨z, Hz⟩ : ∃ z, Hid (z = x ^^^ y) := ⟨_, Lib.hid rfl⟩
            rw [← Hz.out] at he
            have HS := Lib.hid (HO.out.stored HLn.out ((f + j) / 8) z)
            have HT := Lib.hid (HE.out.setCell (p := ⟨g, (f + j) / 8, none⟩) (HO.out.block g rfl).1 (B8 z))
            have HF := Lib.hid (show L.set ((f + j) / 8) z = Crc.xors base (Crc.le base.length (2 ^ f * (burst % 2 ^ (j + 1)))) by rw [HB.out, Crc.xors_bit, ← HLe.out, Hz.out, Hx.out, Hy.out])
            rw [HF.out] at HS
            unfold B8 at hcell HS HT
            clear hkL
            go_wp2
            go_roundw
            case rel => exact ⟨j + 1, by omega, by go_num, HS.out, HT.out⟩
            case measure => simp [intOf]; omega
          · obtain ⟨q, Hq⟩ : ∃ q : Nat, Hid (q = burst / 2 ^ j) := ⟨_, rfl⟩
            have hq : (burst : Int) / 2 ^ j = (q : Int) := by rw [Hq.out, Int.natCast_ediv]; simp
            have HB := Lib.hid (burst_no f burst j hbit)
            rw [← Hq.out] at hbit
            have ht : ((q : Int) % 2 == 1) = false := by simp; omega
            clear hbit
            rw [← HB.out] at HO
            go_wp2
            go_roundw
            case rel => exact ⟨j + 1, by omega, by go_num, HO.out, HE.out⟩
            case measure => simp [intOf]; omega
        · obtain rfl : j = 32 := by omega
          obtain ⟨C, HCe⟩ : ∃ C, Hid (C = Crc.xors base (Crc.le base.length (2 ^ f * burst))) := ⟨_, rfl⟩
          rw [Nat.mod_eq_of_lt (show burst < 2 ^ 32 from hbu), ← HCe.out] at HO
          have HCn := Lib.hid (show C.length = l.length + 4 by rw [HCe.out]; simp [Crc.xors, Crc.le_length, HBl.out])
          have RC := Lib.hid HO.out.row
          have hc5 : l.length ≤ c5 := by have := HC.out; omega
          have QT := Lib.hid (RC.out.take l.length)
          rw [← List.map_take] at QT
          obtain ⟨S, HSe⟩ : ∃ S, Hid (S = Crc.sum (C.take l.length)) := ⟨_, Lib.hid rfl⟩
          obtain ⟨t0, Ht0⟩ : ∃ t0 : Bool, Hid (t0 = decide (burst = 0)) := ⟨_, Lib.hid rfl⟩
          have hbz : ((burst : Int) == 0) = t0 := by
            rw [Ht0.out, Bool.eq_iff_iff]
            simp
          have HQ := Lib.hid (show (Crc.bytes S == C.drop l.length) = t0 by
            rw [Ht0.out, Bool.eq_iff_iff, beq_iff_eq, decide_eq_true_iff, HSe.out]
            exact Crc.burst_seen l f burst hbu (by omega) C (by rw [HCe.out, ← HBe.out, HBl.out]))
          go_wp2_with fail
          refine (sum_any _ 1 [(some ⟨g, 0, none⟩, c5, C.take l.length)] _ (by simp) (Parts.one (by rw [List.length_take, HCn.out]; omega) QT.out (by rw [List.length_take, HCn.out]; omega) 22)).mono ?_
          intro e w5 ⟨he, hb5⟩
          rw [joined_one, ← HSe.out] at he
          subst he
          have X5 := (Ext.a1 wr (.cells #[.slice (some ⟨g, 0, none⟩) l.length c5] 22)).trans' hb5
          clear hb5
          go_wp2_with (first
            | (go_at_call 19; refine (bytes_any _ _).mono ?_; rintro e w6 ⟨rfl, hb6⟩)
            | (with_reducible refine wpList_store_named rfl 25 _ _ rfl w6.heap.size _ rfl rfl 25 _ (heap_alloc_new _ _) (bytesV_hi _) (bytesV_hold _ _ _ _ _) (bytesV_ok _) w6 (Ext.a1 _ _) (Nat.le_refl _) ?_; intro w7 hb7 hblk7 hs7 ho7))
          have X7 := Lib.hid (X5.trans' (hb6.trans' hb7))
          have K7 := Lib.hid hblk7
          have QD := Lib.hid ((RC.out.ext X7.out).cut (k := l.length) (cap := c5) (by rw [List.length_map, HCn.out]; exact HC.out))
          rw [← List.map_drop] at QD
          have HDn := Lib.hid (show (C.drop l.length).length = 4 by rw [List.length_drop, HCn.out]; omega)
          have hc6 : ¬ c5 = l.length := by have := HC.out; omega
          rw [if_neg hc6] at QD
          have QE : Hid (Row w7 (some ⟨g, l.length, none⟩) ((C.drop l.length).map B8)) := by
            have h := QD.out
            rwa [Option.map_some, show (⟨g, 0, none⟩ : Addr).add l.length = ⟨g, l.length, none⟩ by unfold Addr.add; split <;> simp_all] at h
          clear hs7 ho7 hb7 hb6 X5 hblk7
          apply wp_region_inv _ (Nat.le_refl _) (by decide) (by kernel_rfl) (by kernel_rfl) (by kernel_rfl)
            [Is (.bool true), Is (.bool true), Is (.slice (some ⟨w6.heap.size, 0, none⟩) 4 4), Is (Str (Crc.bytes S)), Is (.slice (some ⟨g, 0, none⟩) (l.length + 4) c5), Is (.slice A1 l.length c1), Is (.int .i64 (l.length : Int)), Is (.slice (some ⟨g, l.length, none⟩) 4 (c5 - l.length)), Is (Str (C.drop l.length)), Is (.bool t0), Is (.int .u32 (burst : Int)), Is (.bool t0), Is (.bool true), Is (.bool true), Is (.bool true)] (fun _ => True) (fun _ => false)
          case mono => exact ⟨Is.st _, Is.st _, Is.st _, Is.st _, Is.st _, Is.st _, Is.st _, Is.st _, Is.st _, Is.st _, Is.st _, Is.st _, Is.st _, Is.st _, Is.st _, True.intro⟩
          case monoS => exact fun _ _ _ h => h
          case startS => exact True.intro
          case hF => intro u; simp only [fill, Nat.reduceAdd, List.setIfInBounds_toArray, List.set_cons_succ, List.set_cons_zero]; exact rfl
          case steps =>
            refine StepsAt.cons ?_ ?_
            · intro u w1 K hE hS hU hd hK hW
              go_simp
              exact hK _ _ (Below.refl _ _) rfl
            refine StepsAt.cons ?_ ?_
            · intro u w1 K hE hS hU hd hK hW
              have d0 : u 0 = (.bool true) := hd 0 rfl
              simp only [d0] at hK
              go_simp
              exact hK _ _ (Below.refl _ _) rfl
            refine StepsAt.cons ?_ ?_
            · intro u w1 K hE hS hU hd hK hW
              have d1 : u 1 = (.bool true) := hd 1 rfl
              simp only [d1] at hK
              go_simp
              exact hK _ _ (Below.refl _ _) rfl
            refine StepsAt.cons ?_ ?_
            · intro u w1 K hE hS hU hd hK hW
              have d1 : u 1 = (.bool true) := hd 1 rfl
              have d2 : u 2 = (.slice (some ⟨w6.heap.size, 0, none⟩) 4 4) := hd 2 rfl
              simp only [d1, d2] at hK
              have ht := run_text4 ((hE.block w6.heap.size (lt_of_block K7.out)).trans K7.out)
              go_simp
              exact hK _ _ (Below.refl _ _) rfl
            refine StepsAt.cons ?_ ?_
            · intro u w1 K hE hS hU hd hK hW
              have d1 : u 1 = (.bool true) := hd 1 rfl
              simp only [d1] at hK
              go_simp
              exact hK _ _ (Below.refl _ _) rfl
            refine StepsAt.cons ?_ ?_
            · intro u w1 K hE hS hU hd hK hW
              have d1 : u 1 = (.bool true) := hd 1 rfl
              simp only [d1] at hK
              go_simp
              exact hK _ _ (Below.refl _ _) rfl
            refine StepsAt.cons ?_ ?_
            · intro u w1 K hE hS hU hd hK hW
              have d1 : u 1 = (.bool true) := hd 1 rfl
              have d5 : u 5 = (.slice A1 l.length c1) := hd 5 rfl
              simp only [d1, d5] at hK
              go_simp
              exact hK _ _ (Below.refl _ _) rfl
            refine StepsAt.cons ?_ ?_
            · intro u w1 K hE hS hU hd hK hW
              have d1 : u 1 = (.bool true) := hd 1 rfl
              have d4 : u 4 = (.slice (some ⟨g, 0, none⟩) (l.length + 4) c5) := hd 4 rfl
              have d6 : u 6 = (.int .i64 (l.length : Int)) := hd 6 rfl
              simp only [d1, d4, d6] at hK
              have hbd : (l.length : Int) ≤ (l.length : Int) + 4 := by omega
              go_simp
              exact hK _ _ (Below.refl _ _) rfl
            refine StepsAt.cons ?_ ?_
            · intro u w1 K hE hS hU hd hK hW
              have d1 : u 1 = (.bool true) := hd 1 rfl
              have d7 : u 7 = (.slice (some ⟨g, l.length, none⟩) 4 (c5 - l.length)) := hd 7 rfl
              simp only [d1, d7] at hK
              have ht := run_text (P := Try.prog) (c := c5 - l.length) Try.underlying22 Try.underlying5 Try.underlying9 (QE.out.ext hE)
              rw [HDn.out] at ht
              go_simp
              exact hK _ _ (Below.refl _ _) rfl
            refine StepsAt.cons ?_ ?_
            · intro u w1 K hE hS hU hd hK hW
              have d1 : u 1 = (.bool true) := hd 1 rfl
              have d3 : u 3 = (Str (Crc.bytes S)) := hd 3 rfl
              have d8 : u 8 = (Str (C.drop l.length)) := hd 8 rfl
              simp only [d1, d3, d8] at hK
              go_simp
              exact hK _ _ (Below.refl _ _) (congrArg Value.bool ((str_beq _ _).trans HQ.out))
            refine StepsAt.cons ?_ ?_
            · intro u w1 K hE hS hU hd hK hW
              have d1 : u 1 = (.bool true) := hd 1 rfl
              simp only [d1] at hK
              go_simp
              exact hK _ _ (Below.refl _ _) rfl
            refine StepsAt.cons ?_ ?_
            · intro u w1 K hE hS hU hd hK hW
              have d1 : u 1 = (.bool true) := hd 1 rfl
              have d10 : u 10 = (.int .u32 (burst : Int)) := hd 10 rfl
              simp only [d1, d10] at hK
              go_simp
              exact hK _ _ (Below.refl _ _) rfl
            refine StepsAt.cons ?_ ?_
            · intro u w1 K hE hS hU hd hK hW
              have d1 : u 1 = (.bool true) := hd 1 rfl
              have d9 : u 9 = (.bool t0) := hd 9 rfl
              have d11 : u 11 = (.bool t0) := hd 11 rfl
              simp only [d1, d9, d11] at hK
              go_simp
              exact hK _ _ (Below.refl _ _) rfl
            refine StepsAt.cons ?_ ?_
            · intro u w1 K hE hS hU hd hK hW
              have d1 : u 1 = (.bool true) := hd 1 rfl
              have d12 : u 12 = (.bool true) := hd 12 rfl
              simp only [d1, d12] at hK
              go_simp
              exact hK _ _ (Below.refl _ _) rfl
            refine StepsAt.cons ?_ ?_
            · intro u w1 K hE hS hU hd hK hW
              have d13 : u 13 = (.bool true) := hd 13 rfl
              simp only [d13] at hK
              go_simp
              exact hK _ _ (Below.refl _ _) rfl
            exact StepsAt.nil
          case fin =>
            intro u w9 hE9 hP
            have d14 : u 14 = (.bool true) := hP
            simp only [d14]
            go_wp2
            go_ret
            exact ⟨rfl, HE.out.trans' (X7.out.trans' hE9)⟩

end Go.Proofs.Ytpalnlcjhpkkpaa
