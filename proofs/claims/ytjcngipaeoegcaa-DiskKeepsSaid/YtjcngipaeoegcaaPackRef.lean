/-
  What the document's functions on numbers as bytes return.
-/
import Derived.Test.YtjcngipaeoegcaaPack
namespace Go.Proofs.Ytjcngipaeoegcaa
open Go.RowKit

theorem digits_any (f : Nat) : ∀ (n : Nat) (w : World), n < 256 ^ f → n ≤ 9223372036854775807 → Calls Try.prog 59 #[.int .i64 (n : Int)] w (RetOwn w (Pack.be (Pack.need n) n)) := by
  induction f with
  | zero =>
    intro n w h _
    obtain rfl : n = 0 := by simp at h; exact h
    go_enter Try.func59, Try.ntmps59
    go_wp2_with fail
    go_ret
    exact ⟨_, rfl, Own.nil _ _, Below.refl _ _⟩
  | succ f ih =>
    intro n w h hn
    by_cases h0 : n = 0
    · subst h0
      clear ih h
      go_enter Try.func59, Try.ntmps59
      go_wp2_with fail
      go_ret
      exact ⟨_, rfl, Own.nil _ _, Below.refl _ _⟩
    · have hne : ((n : Int) == 0) = false := by simp; omega
      have hq : n / 256 < 256 ^ f := by rw [Nat.div_lt_iff_lt_mul (by omega)]; rwa [Nat.pow_succ] at h
      have IH := Lib.hid (ih (n / 256) w hq (by omega))
      have HS := Lib.hid (Pack.need_step n h0 (by omega))
      have h8 := Pack.need_le8 (n / 256) (by omega)
      obtain ⟨L, HL⟩ : ∃ L, Hid (L = Pack.be (Pack.need (n / 256)) (n / 256)) := ⟨_, Lib.hid rfl⟩
      have hL : L.length ≤ 8 := by rw [HL.out, Pack.be_length]; exact h8
      rw [← HL.out] at IH
      have HF := Lib.hid (show Pack.be (Pack.need n) n = L ++ [UInt8.ofNat n] by rw [HS.out, HL.out]; rfl)
      obtain ⟨q, Hq⟩ : ∃ q : Nat, Hid (q = n / 256) := ⟨_, Lib.hid rfl⟩
      have hd : (n : Int) / 256 = (q : Int) := by rw [Hq.out]; omega
      rw [← Hq.out] at IH
      clear ih h hq h8 h0
      go_enter Try.func59, Try.ntmps59
      go_wp2_with fail
      refine IH.out.mono ?_
      intro e w1 ⟨v, he, hown, hb⟩
      subst he
      obtain ⟨A3, c3, hv, hc3⟩ := hown.shape
      subst hv
      have HO := Lib.hid hown
      have hsz := hb.size
      have HB := Lib.hid hb
      clear hown hb hc3
      go_wp2_with (at_builtin; go_must (refine wpList_append_bytes (m := 1) (l2 := [UInt8.ofNat n]) bt22 rfl (.tmp 7) (.tmp 11) rfl (HO.out.ext (Ext.a1 _ _)) rfl rfl rfl (Row.byte _ _ _ rfl) (by simp; omega) (by simp; omega) ?_); intro A7 c7 w7 hown7 hg7 hbl7; have hb7 := Lib.hid ((HO.out.ext (Ext.a1 _ _)).below hg7 (HB.out.alloc hsz _) (by simp; omega) (Nat.le_refl _)); have HO7 := Lib.hid hown7; clear hown7 hg7 hbl7)
      go_ret
      exact ⟨_, rfl, by rw [HF.out]; exact HO7.out, hb7.out⟩

theorem one_any (n : Nat) (w : World) (hn : n ≤ 9223372036854775807) : Calls Try.prog 45 #[.int .i64 (n : Int)] w (RetOwn w (Pack.one n)) := by
  have h8 := Pack.need_le8 n (by omega)
  have HD := Lib.hid (digits_any 8 n w (by omega) hn)
  obtain ⟨L, HL⟩ : ∃ L, Hid (L = Pack.be (Pack.need n) n) := ⟨_, Lib.hid rfl⟩
  have HLn := Lib.hid (show L.length = Pack.need n by rw [HL.out, Pack.be_length])
  have hL : L.length ≤ 8 := by rw [HLn.out]; exact h8
  rw [← HL.out] at HD
  clear h8
  go_enter Try.func45, Try.ntmps45
  go_wp2_with fail
  refine HD.out.mono ?_
  intro e w1 ⟨v, he, hown, hb⟩
  subst he
  obtain ⟨A3, c3, hv, hc3⟩ := hown.shape
  subst hv
  have HO := Lib.hid hown.row
  have hsz := hb.size
  have HB := Lib.hid hb
  clear hown hb hc3
  have HN := Lib.hid (Own.new w1 w.heap.size hsz [UInt8.ofNat L.length] 1 rfl (by simp) #[.int .u8 (L.length : Int)] (by rw [List.map_singleton, b8_of, show (L.length : Int) % 256 = L.length by omega]))
  go_wp2_with (at_builtin; go_must (refine wpList_append_bytes bt22 rfl (.tmp 9) (.tmp 10) rfl HN.out rfl rfl rfl (HO.out.ext (Ext.a1 _ _)) (by simp; omega) (by simp; omega) ?_); intro A7 c7 w7 hown7 hg7 hbl7; have hb7 := Lib.hid (HN.out.below hg7 (HB.out.alloc hsz _) (by simp; omega) (Nat.le_refl _)); have HO7 := Lib.hid hown7; clear hown7 hg7 hbl7)
  go_ret
  exact ⟨_, rfl, by rw [show Pack.one n = [UInt8.ofNat L.length] ++ L by rw [HLn.out, HL.out]; rfl]; exact HO7.out, hb7.out⟩

/-- A text behind bytes, the document's. -/
theorem refText_any (A A2 : Option Addr) (c c2 : Nat) (l t : List UInt8) (w : World) (hr : Row w A (l.map B8)) (hl : l.length ≤ 1000000000) (hr2 : Row w A2 (t.map B8)) (ht : t.length ≤ 1000000000) :
    Calls Try.prog 41 #[.slice A l.length c, .slice A2 t.length c2] w (RetOwn w (Pack.text l t)) := by
  have HR := Lib.hid hr
  have HR2 := Lib.hid hr2
  have h8 := Pack.need_le8 t.length (by omega)
  have HOn := Lib.hid (fun w => one_any t.length w (by omega))
  have HLn := Lib.hid (Pack.one_length t.length)
  obtain ⟨M, HM⟩ : ∃ M, Hid (M = Pack.one t.length) := ⟨_, Lib.hid rfl⟩
  rw [← HM.out] at HLn HOn
  have hM : M.length ≤ 9 := by rw [HLn.out]; omega
  clear hr hr2 h8
  go_enter Try.func41, Try.ntmps41
  go_wp2_with (first
    | (at_builtin; refine wpList_append_bytes bt22 rfl (.tmp 5) (.tmp 6) rfl (Own.new w w.heap.size (Nat.le_refl _) [] 0 rfl (by simp) #[] rfl) rfl rfl rfl (HR.out.ext (Ext.a1 _ _)) (by simp; omega) (by simp) ?_; intro A4 c4 w4 hown4 hg4 hbl4; simp only [List.length_nil, Nat.zero_add, List.nil_append] at hown4 hg4; have hb4 := Lib.hid ((Own.new w w.heap.size (Nat.le_refl _) [] 0 rfl (by simp) #[] rfl).below hg4 (Ext.a1 w _) (by simp) (Nat.le_refl _)); have HO4 := Lib.hid hown4; clear hown4 hg4 hbl4)
    | (go_at_call 45; refine (HOn.out _).mono ?_; rintro e w5 ⟨v, rfl, hown5, hb5⟩; obtain ⟨A5, c5, rfl, hc5⟩ := hown5.shape; have HO5 := Lib.hid hown5.row; have HP5 := Lib.hid (HO4.out.ext hb5); have HB5 := Lib.hid (Ext.trans' hb4.out hb5); have hs5 := (Ext.trans' hb4.out hb5).size; clear hown5 hb5 hc5)
    | (at_builtin; refine wpList_append_bytes bt22 rfl (.tmp 7) (.tmp 10) rfl HP5.out rfl rfl rfl HO5.out (by omega) hs5 ?_; intro A6 c6 w6 hown6 hg6 hbl6; have hb6 := Lib.hid (HP5.out.below hg6 HB5.out hs5 (Nat.le_refl _)); have HO6 := Lib.hid hown6; clear hown6 hg6 hbl6)
    | (at_builtin; refine wpList_append_bytes bt22 rfl (.tmp 11) (.tmp 12) rfl HO6.out rfl rfl rfl (HR2.out.ext hb6.out) (by simp; omega) hb6.out.size ?_; intro A7 c7 w7 hown7 hg7 hbl7; have hb7 := Lib.hid (HO6.out.below hg7 hb6.out hb6.out.size (Nat.le_refl _)); have HO7 := Lib.hid hown7; clear hown7 hg7 hbl7))
  go_ret
  exact ⟨_, rfl, by unfold Pack.text; rw [← HM.out]; rw [List.length_append] at HO7; exact HO7.out, hb7.out⟩

end Go.Proofs.Ytjcngipaeoegcaa
