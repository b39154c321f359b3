/-
  The walk of FrameBurst.
-/
import Derived.Test.YtpalnlcjhpkkpaaFTells
import Derived.Test.YtpalnlcjhpkkpaaFBurstMath
namespace Go.Proofs.Ytpalnlcjhpkkpaa
open Go.RowKit

theorem frameBurst_long (A1 : Option Addr) (n1 c1 : Nat) (x y : Value) (w : World) (h : 1000 < n1) :
    Calls Try.prog 16 #[.slice A1 n1 c1, x, y] w fun e w' => e = .returned (.bool true) ∧ Ext w w' := by
  go_enter Try.func16, Try.ntmps16
  go_wp2_with (go_at_call 34; refine (awake6_any _).mono ?_; rintro e w1 ⟨rfl, hb1⟩)
  go_ret
  exact ⟨rfl, hb1⟩

set_option maxHeartbeats 4000000 in
set_option maxRecDepth 100000 in
theorem frameBurst_any (A1 : Option Addr) (c1 : Nat) (p : List UInt8) (at_ burst : Nat) (w0 : World) (hp : p.length ≤ 1000) (hat : at_ < 65536) (hbu : burst < 4294967296) (hr : Row w0 A1 (p.map B8)) :
    Calls Try.prog 16 #[.slice A1 p.length c1, .int .u16 (at_ : Int), .int .u32 (burst : Int)] w0 fun e w' => e = .returned (.bool true) ∧ Ext w0 w' := by
  have HR := Lib.hid hr
  clear hr
  have hput : Frame.put [] p = some (Frame.frame p) := by
    unfold Frame.put Frame.frame
    rw [if_neg (by omega)]
    simp
  have h8 := Pack.need_le8 p.length (by omega)
  have hfl := Frame.frame_length p
  have HS := Lib.hid (fun w => size_any p.length w (by omega))
  have HB := Lib.hid (Frame.take_burst p (by omega))
  obtain ⟨F, hF⟩ : ∃ F, Hid (F = Frame.frame p) := ⟨_, Lib.hid rfl⟩
  rw [← hF.out] at hput hfl HB
  obtain ⟨nn, hnn⟩ : ∃ nn, Hid (nn = Pack.need p.length) := ⟨_, Lib.hid rfl⟩
  rw [← hnn.out] at hfl HS h8 HB
  obtain ⟨fl, Hfl⟩ : ∃ fl, Hid (F.length = fl) := ⟨_, Lib.hid rfl⟩
  rw [Hfl.out] at hfl HB
  have HPUT := Lib.hid hput
  obtain ⟨m, Hm⟩ : ∃ m : Nat, Hid (m = fl - (nn + 1)) := ⟨_, Lib.hid rfl⟩
  obtain ⟨q0, Hq0⟩ : ∃ q0 : Nat, Hid (q0 = 8 * m - 31) := ⟨_, Lib.hid rfl⟩
  obtain ⟨r0, Hr0⟩ : ∃ r0 : Nat, Hid (r0 = at_ % q0) := ⟨_, Lib.hid rfl⟩
  obtain ⟨f, Hf⟩ : ∃ f : Nat, Hid (f = 8 * (nn + 1) + r0) := ⟨_, Lib.hid rfl⟩
  have hm : m = p.length + 4 := by rw [Hm.out]; omega
  have hq0 : 1 ≤ q0 ∧ q0 + 31 = 8 * m := by rw [Hq0.out]; omega
  have hr0 : r0 < q0 := by rw [Hr0.out]; exact Nat.mod_lt _ hq0.1
  have hfb : 8 * (nn + 1) ≤ f ∧ f + 32 ≤ 8 * fl := by rw [Hf.out]; omega
  have hsub : (fl : Int) - ((nn : Int) + 1) = (m : Int) := by omega
  have hq : 8 * (m : Int) - 31 = (q0 : Int) := by omega
  have hmod : (at_ : Int) % (q0 : Int) = (r0 : Int) := by rw [Hr0.out, Int.natCast_emod]
  have hf : 8 * ((nn : Int) + 1) + (r0 : Int) = (f : Int) := by rw [Hf.out]; omega
  have hmb : m ≤ 2000 := by omega
  have hfbb : f ≤ 20000 := by omega
  have hq1 : 1 ≤ q0 := hq0.1
  have HM := Lib.hid hm
  have HQ := Lib.hid hq0
  have HFB := Lib.hid hfb
  have HFL := Lib.hid hfl
  have hd : decide ((fl : Int) < (nn : Int) + 1 + 4) = false := by simp; omega
  clear hput hfl hm hq0 hfb hr0
  go_enter Try.func16, Try.ntmps16
  go_wp2_with (go_at_call 34; refine (awake6_any _).mono ?_; rintro e w1 ⟨rfl, hb1⟩)
  have h2 := fput_any none A1 0 c1 [] p w1 (by simp) (by omega) (Row.nil _ _) (HR.out.ext hb1)
  rw [HPUT.out] at h2
  refine h2.mono ?_
  clear h2
  intro e w2 ⟨hb2, v, he, hO⟩
  obtain ⟨A8, c8, hv, hc8⟩ := hO.shape
  subst hv
  subst he
  rw [Hfl.out] at hO hc8 ⊢
  obtain ⟨g, cap, hv, _, _⟩ := World.ownsRow.form hO (by rw [Hfl.out, HFL.out]; omega)
  injection hv with hA hlq hcap
  subst hA
  have B2 := Lib.hid (hb1.trans' hb2)
  have HO2 := Lib.hid (hO.mono hb1.size)
  clear hO hb1 hb2 hlq hcap
  go_wp2_with (go_at_call 30; refine (HS.out _).mono ?_; rintro e w8 ⟨rfl, rfl⟩)
  go_loopw [12] (fun i wr => ∃ j : Nat, j ≤ 32 ∧ i = .int .i64 j ∧ Own wr w0.heap.size (.slice (some ⟨g, 0, none⟩) (fl) c8) (Crc.xors F (Crc.le F.length (2 ^ f * (burst % 2 ^ j)))) ∧ Ext w0 wr) (fun i _ => 32 - (intOf i).toNat)
  case atStart => exact ⟨0, by omega, rfl, by rw [Nat.pow_zero, Nat.mod_one, Nat.mul_zero, Crc.xors_zero]; exact HO2.out, B2.out⟩
  case round =>
    obtain ⟨j, hj, rfl, hown, hext⟩ := hrel
    have HO := Lib.hid hown
    have HE := Lib.hid hext
    clear hown hext
    by_cases hlt : j < 32
    · by_cases hbit : burst / 2 ^ j % 2 = 1
      · obtain ⟨q, Hq⟩ : ∃ q : Nat, Hid (q = burst / 2 ^ j) := ⟨_, rfl⟩
        have hq : (burst : Int) / 2 ^ j = (q : Int) := by rw [Hq.out, Int.natCast_ediv]; simp
        rw [← Hq.out] at hbit
        have ht : ((q : Int) % 2 == 1) = true := by simp; omega
        have HB := Lib.hid (fburst_bit f burst j (by rw [← Hq.out]; exact hbit))
        clear hbit
        have hka : (f + j) / 8 < fl := by have := HFB.out; omega
        obtain ⟨L, HLe⟩ : ∃ L, Hid (L = Crc.xors F (Crc.le F.length (2 ^ f * (burst % 2 ^ j)))) := ⟨_, rfl⟩
        rw [← HLe.out] at HO
        have HLn := Lib.hid (show L.length = fl by rw [HLe.out]; simp [Crc.xors, Crc.le_length, Hfl.out])
        have hkL : (f + j) / 8 < L.length := by rw [HLn.out]; exact hka
        obtain ⟨x, Hx⟩ : ∃ x : UInt8, Hid (x = L.getD ((f + j) / 8) 0) := ⟨L.getD ((f + j) / 8) 0, Lib.hid rfl⟩
        have hcell := HO.out.cell hkL
        rw [← Hx.out] at hcell
        have hfr := HO.out.free ((f + j) / 8)
        obtain ⟨y, Hy⟩ : ∃ y : UInt8, Hid (y = UInt8.ofNat (2 ^ ((f + j) % 8))) := ⟨_, Lib.hid rfl⟩
        have he : bits .xor .u8 (x.toNat : Int) ((2 : Int) ^ ((f + j) % 8) % 256) = ((x ^^^ y).toNat : Int) := by
          rw [show (2 : Int) ^ ((f + j) % 8) % 256 = ((2 ^ ((f + j) % 8) % 256 : Nat) : Int) by simp, u8_xor_nat _ _ x.toNat_lt (Nat.mod_lt _ (by decide)), UInt8.toNat_xor, Hy.out, Crc.u8_toNat]
        obtain ⟨z, Hz⟩ : ∃ z, Hid (z = x ^^^ y) := ⟨_, Lib.hid rfl⟩
        rw [← Hz.out] at he
        have HS := Lib.hid (HO.out.stored HLn.out ((f + j) / 8) z)
        have HT := Lib.hid (HE.out.setCell (p := ⟨g, (f + j) / 8, none⟩) (HO.out.block g rfl).1 (B8 z))
        have HF := Lib.hid (show L.set ((f + j) / 8) z = Crc.xors F (Crc.le F.length (2 ^ f * (burst % 2 ^ (j + 1)))) by rw [HB.out, Crc.xors_bit, ← HLe.out, Hz.out, Hx.out, Hy.out])
        rw [HF.out] at HS
        unfold B8 at hcell HS HT
        clear hkL
        go_wp2
        go_roundw
        case rel => exact ⟨j + 1, by omega, by go_num, HS.out, HT.out⟩
        case measure => simp [intOf]; omega
      · obtain ⟨q, Hq⟩ : ∃ q : Nat, Hid (q = burst / 2 ^ j) := ⟨_, rfl⟩
        have hq : (burst : Int) / 2 ^ j = (q : Int) := by rw [Hq.out, Int.natCast_ediv]; simp
        have HB := Lib.hid (fburst_no f burst j hbit)
        rw [← Hq.out] at hbit
        have ht : ((q : Int) % 2 == 1) = false := by simp; omega
        clear hbit
        rw [← HB.out] at HO
        go_wp2
        go_roundw
        case rel => exact ⟨j + 1, by omega, by go_num, HO.out, HE.out⟩
        case measure => simp [intOf]; omega
    · obtain rfl : j = 32 := by omega
      obtain ⟨C, HCe⟩ : ∃ C, Hid (C = Crc.xors F (Crc.le F.length (2 ^ f * burst))) := ⟨_, rfl⟩
      rw [Nat.mod_eq_of_lt (show burst < 2 ^ 32 from hbu), ← HCe.out] at HO
      have hC : Frame.take C = if burst = 0 then some (p, []) else none := HB.out f burst hbu HFB.out.1 HFB.out.2 C (by rw [HCe.out, Hfl.out])
      have HCn := Lib.hid (show C.length = fl by rw [HCe.out]; simp [Crc.xors, Crc.le_length, Hfl.out])
      have hc8' : fl ≤ c8 := hc8
      have HT := ftake_any (some ⟨g, 0, none⟩) c8 C wr (by rw [HCn.out]; exact hc8) (by rw [HCn.out, HFL.out]; omega) HO.out.row
      rw [HCn.out] at HT
      by_cases h0 : burst = 0
      · rw [if_pos h0] at hC
        rw [hC] at HT
        have HT := Lib.hid HT
        subst h0
        clear hC
        go_wp2_with fail
        refine HT.out.mono ?_
        rintro e w5 ⟨hb5, v1, v2, rfl, ⟨A6, c6, hv1, hc6, hr6⟩, ⟨A7, c7, hv2, hc7, hr7⟩⟩
        subst hv1
        subst hv2
        have t1 := text_at (n := p.length) (c := c6) hr6 rfl
        have t2 := text_at (n := p.length) (c := c1) (HR.out.ext (Ext.trans' HE.out hb5)) rfl
        unfold Str at t1 t2
        have HX := Lib.hid (Ext.trans' HE.out hb5)
        clear hr6 hr7 hb5 hc6 hc7
        go_wp2_with fail
        go_ret
        exact ⟨rfl, HX.out⟩
      · rw [if_neg h0] at hC
        rw [hC] at HT
        have HT := Lib.hid HT
        have hz : ((burst : Int) == 0) = false := by simp; omega
        clear hC
        go_wp2_with fail
        refine HT.out.mono ?_
        rintro e w5 ⟨hb5, rfl⟩
        have HX := Lib.hid (Ext.trans' HE.out hb5)
        clear hb5
        go_wp2_with fail
        go_ret
        refine ⟨?_, HX.out⟩
        show Ending.returned (Value.bool ((burst : Int) != 0)) = _
        unfold bne
        rw [hz]
        rfl

end Go.Proofs.Ytpalnlcjhpkkpaa
