/-
  What the document's functions on numbers as bytes return.
-/
import Derived.Test.YtpalnlcjhpkkpaaPack
namespace Go.Proofs.Ytpalnlcjhpkkpaa
open Go.RowKit

theorem digits_any (f : Nat) : ∀ (n : Nat) (w : World), n < 256 ^ f → n ≤ 9223372036854775807 → Calls Try.prog 54 #[.int .i64 (n : Int)] w (RetOwn w (Pack.be (Pack.need n) n)) := by
  induction f with
  | zero =>
    intro n w h _
    obtain rfl : n = 0 := by simp at h; exact h
    go_enter Try.func54, Try.ntmps54
    go_wp2_with fail
    go_ret
    exact ⟨_, rfl, Own.nil _ _, Below.refl _ _⟩
  | succ f ih =>
    intro n w h hn
    by_cases h0 : n = 0
    · subst h0
      clear ih h
      go_enter Try.func54, Try.ntmps54
      go_wp2_with fail
      go_ret
      exact ⟨_, rfl, Own.nil _ _, Below.refl _ _⟩
    · have hne : ((n : Int) == 0) = false := by simp; omega
      have hq : n / 256 < 256 ^ f := by rw [Nat.div_lt_iff_lt_mul (by omega)]; rwa [Nat.pow_succ] at h
      have IH := Lib.hid (ih (n / 256) w hq (by omega))
      have HS := Lib.hid (Pack.need_step n h0 (by omega))
      have h8 := Pack.need_le8 (n / 256) (by omega)
      obtain ⟨L, HL⟩ : ∃ L, Hid (L = Pack.be (Pack.need (n / 256)) (n / 256)) := ⟨_, Lib.hid rfl⟩
      have hL : L.length ≤ 8 := by rw [HL.out, Pack.be_length]; exact h8
      rw [← HL.out] at IH
      have HF := Lib.hid (show Pack.be (Pack.need n) n = L ++ [UInt8.ofNat n] by rw [HS.out, HL.out]; rfl)
      obtain ⟨q, Hq⟩ : ∃ q : Nat, Hid (q = n / 256) := ⟨_, Lib.hid rfl⟩
      have hd : (n : Int) / 256 = (q : Int) := by rw [Hq.out]; omega
      rw [← Hq.out] at IH
      clear ih h hq h8 h0
      go_enter Try.func54, Try.ntmps54
      go_wp2_with fail
      refine IH.out.mono ?_
      intro e w1 ⟨v, he, hown, hb⟩
      subst he
      obtain ⟨A3, c3, hv, hc3⟩ := hown.shape
      subst hv
      have HO := Lib.hid hown
      have hsz := hb.size
      have HB := Lib.hid hb
      clear hown hb hc3
      go_wp2_with (at_builtin; go_must (refine wpList_append_bytes (m := 1) (l2 := [UInt8.ofNat n]) bt22 rfl (.tmp 7) (.tmp 11) rfl (HO.out.ext (Ext.a1 _ _)) rfl rfl rfl (Row.byte _ _ _ rfl) (by simp; omega) (by simp; omega) ?_); intro A7 c7 w7 hown7 hg7 hbl7; have hb7 := Lib.hid ((HO.out.ext (Ext.a1 _ _)).below hg7 (HB.out.alloc hsz _) (by simp; omega) (Nat.le_refl _)); have HO7 := Lib.hid hown7; clear hown7 hg7 hbl7)
      go_ret
      exact ⟨_, rfl, by rw [HF.out]; exact HO7.out, hb7.out⟩

theorem one_any (n : Nat) (w : World) (hn : n ≤ 9223372036854775807) : Calls Try.prog 47 #[.int .i64 (n : Int)] w (RetOwn w (Pack.one n)) := by
  have h8 := Pack.need_le8 n (by omega)
  have HD := Lib.hid (digits_any 8 n w (by omega) hn)
  obtain ⟨L, HL⟩ : ∃ L, Hid (L = Pack.be (Pack.need n) n) := ⟨_, Lib.hid rfl⟩
  have HLn := Lib.hid (show L.length = Pack.need n by rw [HL.out, Pack.be_length])
  have hL : L.length ≤ 8 := by rw [HLn.out]; exact h8
  rw [← HL.out] at HD
  clear h8
  go_enter Try.func47, Try.ntmps47
  go_wp2_with fail
  refine HD.out.mono ?_
  intro e w1 ⟨v, he, hown, hb⟩
  subst he
  obtain ⟨A3, c3, hv, hc3⟩ := hown.shape
  subst hv
  have HO := Lib.hid hown.row
  have hsz := hb.size
  have HB := Lib.hid hb
  clear hown hb hc3
  have HN := Lib.hid (Own.new w1 w.heap.size hsz [UInt8.ofNat L.length] 1 rfl (by simp) #[.int .u8 (L.length : Int)] (by rw [List.map_singleton, b8_of, show (L.length : Int) % 256 = L.length by omega]))
  go_wp2_with (at_builtin; go_must (refine wpList_append_bytes bt22 rfl (.tmp 9) (.tmp 10) rfl HN.out rfl rfl rfl (HO.out.ext (Ext.a1 _ _)) (by simp; omega) (by simp; omega) ?_); intro A7 c7 w7 hown7 hg7 hbl7; have hb7 := Lib.hid (HN.out.below hg7 (HB.out.alloc hsz _) (by simp; omega) (Nat.le_refl _)); have HO7 := Lib.hid hown7; clear hown7 hg7 hbl7)
  go_ret
  exact ⟨_, rfl, by rw [show Pack.one n = [UInt8.ofNat L.length] ++ L by rw [HLn.out, HL.out]; rfl]; exact HO7.out, hb7.out⟩

theorem refSize_any (n : Nat) (w : World) (h : n ≤ 9223372036854775807) : Calls Try.prog 31 #[.int .i64 (n : Int)] w fun e w' => e = .returned (.int .i64 ((Pack.need n : Int) + 1)) ∧ Ext w w' := by
  have hn : ¬ (n : Int) < 0 := by omega
  have HD := Lib.hid (one_any n w h)
  have HL := Lib.hid (Pack.one_length n)
  obtain ⟨L, HLe⟩ : ∃ L, Hid (L = Pack.one n) := ⟨_, Lib.hid rfl⟩
  rw [← HLe.out] at HD HL
  go_enter Try.func31, Try.ntmps31
  go_wp2_with fail
  refine HD.out.mono ?_
  intro e w1 ⟨v, he, hown, hb⟩
  subst he
  obtain ⟨A3, c3, hv, hc3⟩ := hown.shape
  subst hv
  clear hown hc3
  go_wp2
  go_ret
  exact ⟨ret_i (by rw [HL.out]; omega), hb⟩
theorem refSize_neg (n : Int) (w : World) (h : n < 0) : Calls Try.prog 31 #[.int .i64 n] w fun e w' => e = .returned (.int .i64 0) ∧ Ext w w' := by
  go_enter Try.func31, Try.ntmps31
  go_wp2_with fail
  go_ret
  exact ⟨rfl, Below.refl _ _⟩

/-- A text behind bytes, the document's. -/
theorem refText_any (A A2 : Option Addr) (c c2 : Nat) (l t : List UInt8) (w : World) (hr : Row w A (l.map B8)) (hl : l.length ≤ 1000000000) (hr2 : Row w A2 (t.map B8)) (ht : t.length ≤ 1000000000) :
    Calls Try.prog 33 #[.slice A l.length c, .slice A2 t.length c2] w (RetOwn w (Pack.text l t)) := by
  have HR := Lib.hid hr
  have HR2 := Lib.hid hr2
  have h8 := Pack.need_le8 t.length (by omega)
  have HOn := Lib.hid (fun w => one_any t.length w (by omega))
  have HLn := Lib.hid (Pack.one_length t.length)
  obtain ⟨M, HM⟩ : ∃ M, Hid (M = Pack.one t.length) := ⟨_, Lib.hid rfl⟩
  rw [← HM.out] at HLn HOn
  have hM : M.length ≤ 9 := by rw [HLn.out]; omega
  clear hr hr2 h8
  go_enter Try.func33, Try.ntmps33
  go_wp2_with (first
    | (at_builtin; refine wpList_append_bytes bt22 rfl (.tmp 5) (.tmp 6) rfl (Own.new w w.heap.size (Nat.le_refl _) [] 0 rfl (by simp) #[] rfl) rfl rfl rfl (HR.out.ext (Ext.a1 _ _)) (by simp; omega) (by simp) ?_; intro A4 c4 w4 hown4 hg4 hbl4; simp only [List.length_nil, Nat.zero_add, List.nil_append] at hown4 hg4; have hb4 := Lib.hid ((Own.new w w.heap.size (Nat.le_refl _) [] 0 rfl (by simp) #[] rfl).below hg4 (Ext.a1 w _) (by simp) (Nat.le_refl _)); have HO4 := Lib.hid hown4; clear hown4 hg4 hbl4)
    | (go_at_call 47; refine (HOn.out _).mono ?_; rintro e w5 ⟨v, rfl, hown5, hb5⟩; obtain ⟨A5, c5, rfl, hc5⟩ := hown5.shape; have HO5 := Lib.hid hown5.row; have HP5 := Lib.hid (HO4.out.ext hb5); have HB5 := Lib.hid (Ext.trans' hb4.out hb5); have hs5 := (Ext.trans' hb4.out hb5).size; clear hown5 hb5 hc5)
    | (at_builtin; refine wpList_append_bytes bt22 rfl (.tmp 7) (.tmp 10) rfl HP5.out rfl rfl rfl HO5.out (by omega) hs5 ?_; intro A6 c6 w6 hown6 hg6 hbl6; have hb6 := Lib.hid (HP5.out.below hg6 HB5.out hs5 (Nat.le_refl _)); have HO6 := Lib.hid hown6; clear hown6 hg6 hbl6)
    | (at_builtin; refine wpList_append_bytes bt22 rfl (.tmp 11) (.tmp 12) rfl HO6.out rfl rfl rfl (HR2.out.ext hb6.out) (by simp; omega) hb6.out.size ?_; intro A7 c7 w7 hown7 hg7 hbl7; have hb7 := Lib.hid (HO6.out.below hg7 hb6.out hb6.out.size (Nat.le_refl _)); have HO7 := Lib.hid hown7; clear hown7 hg7 hbl7))
  go_ret
  exact ⟨_, rfl, by unfold Pack.text; rw [← HM.out]; rw [List.length_append] at HO7; exact HO7.out, hb7.out⟩

set_option maxHeartbeats 1000000 in
theorem refPut_any (A A2 : Option Addr) (c c2 : Nat) (l : List UInt8) (ns : List Int) (w : World) (hr : Row w A (l.map B8)) (hl : l.length ≤ 1000000000)
    (hr2 : Row w A2 (ns.map I64)) (hn : ns.length ≤ 1000000000) (hw : ∀ n ∈ ns, n ≤ 9223372036854775807) :
    Calls Try.prog 25 #[.slice A l.length c, .slice A2 ns.length c2] w (RetPut w (Pack.put l ns)) := by
  have HR := Lib.hid hr
  have HR2 := Lib.hid hr2
  have HW := Lib.hid hw
  clear hr hr2 hw
  go_enter Try.func25, Try.ntmps25
  go_wp2_with (at_builtin; refine wpList_append_bytes bt22 rfl (.tmp 8) (.tmp 9) rfl (Own.new w w.heap.size (Nat.le_refl _) [] 0 rfl (by simp) #[] rfl) rfl rfl rfl (HR.out.ext (Ext.a1 _ _)) (by simp; omega) (by simp) ?_; intro A1 c1 w1 hown4 hg4 hbl4; simp only [List.length_nil, Nat.zero_add, List.nil_append] at hown4 hg4; have HB1 := Lib.hid ((Own.new w w.heap.size (Nat.le_refl _) [] 0 rfl (by simp) #[] rfl).below hg4 (Ext.a1 w _) (by simp) (Nat.le_refl _)); have HV := Lib.hid hown4; clear hown4 hg4 hbl4)
  go_loopw [6, 7] (fun d i wr => ∃ k : Nat, k ≤ ns.length ∧ i = .int .i64 k ∧ ∃ A' c' L, d = .slice A' L.length c' ∧ L.length ≤ l.length + 9 * k ∧ Own wr w.heap.size (.slice A' L.length c') L ∧ L = l ++ ones (ns.take k) ∧ (∀ j, j < k → 0 ≤ ns.getD j 0) ∧ Ext w wr) (fun _ i _ => ns.length - (intOf i).toNat)
  case atStart => exact ⟨0, Nat.zero_le _, rfl, A1, c1, l, rfl, by omega, HV.out, by simp [ones], fun j hj => by omega, HB1.out⟩
  case round =>
    obtain ⟨k, hk, rfl, A', c', L, rfl, hnb, hown, hLe, hpos, hext⟩ := hrel
    have HO := Lib.hid hown
    have HLe := Lib.hid hLe
    have HP := Lib.hid hpos
    have HE := Lib.hid hext
    have hsz := hext.size
    clear hown hLe hpos hext
    by_cases hlt : k < ns.length
    · obtain ⟨ad, z, rfl, hz, hcell0⟩ := int_at HR2.out hlt
      have hcell := HE.out.cellAt hcell0
      have HZ := Lib.hid hz
      have hzb : z ≤ 9223372036854775807 := by rw [← hz]; exact HW.out _ (List.getElem_mem hlt)
      clear hcell0 hz
      by_cases hneg : z < 0
      · have HF := Lib.hid (put_none (l := l) hlt (by rw [HZ.out]; exact hneg))
        go_wp2
        go_ret2
        refine ⟨HE.out, ?_⟩
        rw [HF.out]
        rfl
      · obtain ⟨m, rfl⟩ : ∃ m : Nat, z = (m : Int) := ⟨z.toNat, by omega⟩
        have hm : m ≤ 9223372036854775807 := by omega
        have hn8 := Pack.need_le8 m (by omega)
        have HOne := Lib.hid (fun w => one_any m w hm)
        have HLn := Lib.hid (Pack.one_length m)
        obtain ⟨M, HM⟩ : ∃ M, Hid (M = Pack.one m) := ⟨_, Lib.hid rfl⟩
        rw [← HM.out] at HOne HLn
        have hMb : M.length ≤ 9 := by rw [HLn.out]; omega
        have HF := Lib.hid (show L ++ M = l ++ ones (ns.take (k + 1)) by rw [ones_snoc hlt, HZ.out, HLe.out, HM.out, ← List.append_assoc]; rfl)
        have HPk := Lib.hid (show ∀ i, i < k + 1 → 0 ≤ ns.getD i 0 by
          intro i hi
          by_cases h : i < k
          · exact HP.out i h
          · rw [show i = k by omega, List.getD_eq_getElem?_getD, List.getElem?_eq_getElem hlt, HZ.out]; simp)
        clear hneg hzb hn8
        go_wp2_with (first
          | (go_at_call 47; refine (HOne.out _).mono ?_; rintro e w2 ⟨v, rfl, hown2, hb2⟩; obtain ⟨A5, c5, rfl, hc5⟩ := hown2.shape; have HR5 := Lib.hid hown2.row; have HO2 := Lib.hid (HO.out.ext hb2); have HB2 := Lib.hid (Ext.trans' HE.out hb2); have hs2 := HB2.out.size; clear hown2 hb2 hc5)
          | (at_builtin; go_must (refine wpList_append_bytes bt22 rfl (.tmp 22) (.tmp 27) rfl HO2.out rfl rfl rfl HR5.out (by omega) hs2 ?_); intro A3 c3 w3 hown3 hg3 hbl3; have hb3 := Lib.hid (HO2.out.below hg3 HB2.out hs2 (Nat.le_refl _)); have HO3 := Lib.hid hown3; clear hown3 hg3 hbl3))
        go_roundw
        case rel => exact ⟨k + 1, by omega, by go_num, A3, c3, L ++ M, by rw [List.length_append], by rw [List.length_append]; omega, by rw [List.length_append]; exact HO3.out, HF.out, HPk.out, hb3.out⟩
        case measure => simp [intOf]; omega
    · have HF := Lib.hid (put_some (l := l) (ns := ns) (fun j hj => HP.out j (by omega)))
      have hLF : L = l ++ ones ns := by rw [HLe.out, List.take_of_length_le (by omega)]
      have HLF := Lib.hid hLF
      clear hLF
      go_wp2
      go_ret2
      refine ⟨HE.out, ?_⟩
      rw [HF.out]
      exact ⟨_, rfl, by rw [← HLF.out]; exact HO.out⟩

end Go.Proofs.Ytpalnlcjhpkkpaa
