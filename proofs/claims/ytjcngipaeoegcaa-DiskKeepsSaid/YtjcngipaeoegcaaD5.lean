/-
  Disks: heads.
-/
import Derived.Test.YtjcngipaeoegcaaD4
import Derived.Test.YtjcngipaeoegcaaDMath
namespace Go.Proofs.Ytjcngipaeoegcaa
open Go.RowKit

theorem head_put (g : Nat) (n : Nat) : Pack.put [] [(g : Int), (n : Int)] = some (Pack.one g ++ Pack.one n) := by
  unfold Pack.put
  rw [if_neg (by simp)]
  simp

set_option maxHeartbeats 2000000 in
set_option maxRecDepth 100000 in
theorem head_any (A : Option Addr) (c g : Nat) (rs : List (List UInt8)) (w : World) (hg : g ≤ 9223372036854775807) (hs : (Disk.texts rs).length ≤ 100000000) (h1 : Ls w A rs) :
    Calls Try.prog 29 #[.int .i64 (g : Int), .slice A rs.length c] w (RetOwn w (Disk.head g rs)) := by
  have H1 := Lib.hid h1
  have hn := Disk.texts_count rs
  have HS := Lib.hid (fun k => Nat.le_trans (Disk.texts_take rs k) hs)
  have HM := Lib.hid (fun r (h : r ∈ rs) => Nat.le_trans (Disk.texts_mem h) hs)
  have hp8 := Pack.need_le8 g (by omega)
  have hp9 := Pack.need_le8 rs.length (by omega)
  obtain ⟨P, HP⟩ : ∃ P, Hid (P = Pack.one g ++ Pack.one rs.length) := ⟨_, Lib.hid rfl⟩
  have HPl := Lib.hid (show P.length ≤ 18 by rw [HP.out, List.length_append, Pack.one_length, Pack.one_length]; omega)
  have HT := Lib.hid (show P ++ Disk.texts rs = Disk.head g rs by rw [HP.out]; rfl)
  rw [← HT.out]
  clear h1 hp8 hp9
  go_enter Try.func29, Try.ntmps29
  go_wp2_with fail
  have hput := put_any none (some ⟨w.heap.size, 0, none⟩) 0 2 [] [(g : Int), (rs.length : Int)] (w.alloc (.cells #[.int .i64 (g : Int), .int .i64 (rs.length : Int)] 3)) (Row.nil _ _) (by simp) (Row.newM w #[.int .i64 (g : Int), .int .i64 (rs.length : Int)] 3 (0, 0)) (by simp) (by intro n hn; simp at hn; omega)
  rw [head_put, ← HP.out] at hput
  refine hput.mono ?_
  clear hput
  intro e w1 ⟨hb1, v, he, hown⟩
  subst he
  obtain ⟨X, k, hv, hk⟩ := hown.shape
  subst hv
  have HO := Lib.hid (hown.mono (B' := w.heap.size) (by simp))
  have HE := Lib.hid ((Ext.a1 w _).trans' hb1)
  clear hown hb1 hk
  go_wp2_with fail
  go_loopw [5, 19] (fun b i wr => ∃ k : Nat, k ≤ rs.length ∧ i = .int .i64 (k : Int) ∧ ∃ X cx L, b = .slice X L.length cx ∧ Own wr w.heap.size (.slice X L.length cx) L ∧ L = P ++ Disk.texts (rs.take k) ∧ Ext w wr) (fun _ i _ => rs.length - (intOf i).toNat)
  case atStart => exact ⟨0, Nat.zero_le _, rfl, X, k, P, rfl, HO.out, by simp [Disk.texts], HE.out⟩
  case round =>
    obtain ⟨k, hk, rfl, X, cx, L, rfl, hown, hL, hE⟩ := hrel
    have HO := Lib.hid hown
    have HE := Lib.hid hE
    have HL := Lib.hid hL
    have hsz := hE.size
    have hLl : L.length ≤ 200000000 := by rw [hL, List.length_append]; have := HS.out k; have := HPl.out; omega
    clear hown hE hL
    by_cases hlt : k < rs.length
    · obtain ⟨ad, u, rfl, hc, A2, c2, hu, hc2, hr2⟩ := (H1.out.ext HE.out).at_ hlt
      subst hu
      obtain ⟨r, Hr⟩ : ∃ r, Hid (r = rs[k]) := ⟨_, Lib.hid rfl⟩
      rw [← Hr.out] at hr2 hc hc2
      have HR := Lib.hid hr2
      have hrl : r.length ≤ 100000000 := by rw [Hr.out]; exact HM.out _ (List.getElem_mem hlt)
      have HSn := Lib.hid (show Pack.text L r = P ++ Disk.texts (rs.take (k + 1)) by rw [List.take_succ_eq_append_getElem hlt, Disk.texts_snoc, ← List.append_assoc, ← HL.out, ← Hr.out, Disk.text_eq])
      obtain ⟨Y, HY⟩ : ∃ Y, Hid (Y = Pack.text L r) := ⟨_, Lib.hid rfl⟩
      have HC := Lib.hid (text_any X A2 cx c2 L r wr HO.out.row (by omega) hr2 (by omega))
      rw [← HY.out] at HSn HC
      have hki : (k : Int) < (rs.length : Int) := by omega
      clear hr2
      go_wp2_with fail
      refine HC.out.mono ?_
      intro e w3 ⟨v, he, hown, hb3⟩
      subst he
      obtain ⟨X3, k3, hv, hk3⟩ := hown.shape
      subst hv
      have HO3 := Lib.hid (hown.mono hsz)
      have HE3 := Lib.hid (HE.out.trans' hb3)
      clear hown hb3 hk3
      go_wp2_with fail
      go_roundw
      case rel => exact ⟨k + 1, by omega, by go_num, X3, k3, Y, rfl, HO3.out, HSn.out, HE3.out⟩
      case measure => simp [intOf]; omega
    · obtain rfl : k = rs.length := by omega
      go_wp2_with fail
      go_ret
      have h := HL.out
      rw [List.take_length] at h
      rw [← h]
      exact ⟨_, rfl, HO.out, HE.out⟩

set_option maxHeartbeats 2000000 in
set_option maxRecDepth 100000 in
theorem refHead_any (A : Option Addr) (c g : Nat) (rs : List (List UInt8)) (w : World) (hg : g ≤ 9223372036854775807) (hs : (Disk.texts rs).length ≤ 100000000) (h1 : Ls w A rs) :
    Calls Try.prog 30 #[.int .i64 (g : Int), .slice A rs.length c] w (RetOwn w (Disk.head g rs)) := by
  have H1 := Lib.hid h1
  have hn := Disk.texts_count rs
  have HS := Lib.hid (fun k => Nat.le_trans (Disk.texts_take rs k) hs)
  have HM := Lib.hid (fun r (h : r ∈ rs) => Nat.le_trans (Disk.texts_mem h) hs)
  have hp8 := Pack.need_le8 g (by omega)
  have hp9 := Pack.need_le8 rs.length (by omega)
  have HC1 := Lib.hid (fun w => one_any g w hg)
  have HC2 := Lib.hid (fun w => one_any rs.length w (by omega))
  obtain ⟨P1, HP1⟩ : ∃ P1, Hid (P1 = Pack.one g) := ⟨_, Lib.hid rfl⟩
  obtain ⟨P2, HP2⟩ : ∃ P2, Hid (P2 = Pack.one rs.length) := ⟨_, Lib.hid rfl⟩
  have HL1 := Lib.hid (show P1.length ≤ 9 by rw [HP1.out, Pack.one_length]; omega)
  have HL2 := Lib.hid (show P2.length ≤ 9 by rw [HP2.out, Pack.one_length]; omega)
  rw [← HP1.out] at HC1
  rw [← HP2.out] at HC2
  have HT := Lib.hid (show (P1 ++ P2) ++ Disk.texts rs = Disk.head g rs by rw [HP1.out, HP2.out]; rfl)
  rw [← HT.out]
  clear h1 hp8 hp9
  go_enter Try.func30, Try.ntmps30
  go_wp2_with fail
  refine (HC1.out w).mono ?_
  intro e w1 ⟨v, he, hown, hb1⟩
  subst he
  obtain ⟨X1, k1, hv, hk⟩ := hown.shape
  subst hv
  have HO1 := Lib.hid hown
  have HE1 := Lib.hid hb1
  clear hown hb1 hk
  go_wp2_with fail
  refine (HC2.out w1).mono ?_
  intro e w2 ⟨v, he, hown, hb2⟩
  subst he
  obtain ⟨X2, k2, hv, hk⟩ := hown.shape
  subst hv
  have HO2 := Lib.hid (HO1.out.ext hb2)
  have HR2 := Lib.hid hown.row
  have HE2 := Lib.hid (HE1.out.trans' hb2)
  have hz := HE2.out.size
  clear hown hb2 hk
  go_wp2_with (at_builtin; go_must (refine wpList_append_bytes_keep (l := P1) (l2 := P2) (m := P2.length) rt22 rfl (.tmp 8) (.tmp 11) rfl HO2.out rfl rfl rfl HR2.out (by have := HL1.out; have := HL2.out; omega) hz ?_); intro A5 c5 w5 hown5 _ hg5; have hb5 := HO2.out.below hg5 HE2.out hz (Nat.le_refl _); have HO5 := Lib.hid hown5; have HB5 := Lib.hid hb5; clear hown5 hg5 hb5)
  go_loopw [5, 6] (fun b i wr => ∃ k : Nat, k ≤ rs.length ∧ i = .int .i64 (k : Int) ∧ ∃ X cx L, b = .slice X L.length cx ∧ Own wr w.heap.size (.slice X L.length cx) L ∧ L = P1 ++ P2 ++ Disk.texts (rs.take k) ∧ Ext w wr) (fun _ i _ => rs.length - (intOf i).toNat)
  case atStart => exact ⟨0, Nat.zero_le _, rfl, A5, c5, P1 ++ P2, by simp, by simpa using HO5.out, by simp [Disk.texts], HB5.out⟩
  case round =>
    obtain ⟨k, hk, rfl, X, cx, L, rfl, hown, hL, hE⟩ := hrel
    have HO := Lib.hid hown
    have HE := Lib.hid hE
    have HL := Lib.hid hL
    have hsz := hE.size
    have hLl : L.length ≤ 200000000 := by rw [hL, List.length_append, List.length_append]; have := HS.out k; have := HL1.out; have := HL2.out; omega
    clear hown hE hL
    by_cases hlt : k < rs.length
    · obtain ⟨ad, u, rfl, hc, A2, c2, hu, hc2, hr2⟩ := (H1.out.ext HE.out).at_ hlt
      subst hu
      obtain ⟨r, Hr⟩ : ∃ r, Hid (r = rs[k]) := ⟨_, Lib.hid rfl⟩
      rw [← Hr.out] at hr2 hc hc2
      have hrl : r.length ≤ 100000000 := by rw [Hr.out]; exact HM.out _ (List.getElem_mem hlt)
      have HSn := Lib.hid (show Pack.text L r = P1 ++ P2 ++ Disk.texts (rs.take (k + 1)) by rw [List.take_succ_eq_append_getElem hlt, Disk.texts_snoc, ← List.append_assoc, ← HL.out, ← Hr.out, Disk.text_eq])
      obtain ⟨Y, HY⟩ : ∃ Y, Hid (Y = Pack.text L r) := ⟨_, Lib.hid rfl⟩
      have HC := Lib.hid (refText_any X A2 cx c2 L r wr HO.out.row (by omega) hr2 (by omega))
      rw [← HY.out] at HSn HC
      have hki : (k : Int) < (rs.length : Int) := by omega
      clear hr2
      go_wp2_with fail
      refine HC.out.mono ?_
      intro e w3 ⟨v, he, hown, hb3⟩
      subst he
      obtain ⟨X3, k3, hv, hk3⟩ := hown.shape
      subst hv
      have HO3 := Lib.hid (hown.mono hsz)
      have HE3 := Lib.hid (HE.out.trans' hb3)
      clear hown hb3 hk3
      go_wp2_with fail
      go_roundw
      case rel => exact ⟨k + 1, by omega, by go_num, X3, k3, Y, rfl, HO3.out, HSn.out, HE3.out⟩
      case measure => simp [intOf]; omega
    · obtain rfl : k = rs.length := by omega
      go_wp2_with fail
      go_ret
      have h := HL.out
      rw [List.take_length] at h
      rw [← h]
      exact ⟨_, rfl, HO.out, HE.out⟩

end Go.Proofs.Ytjcngipaeoegcaa
