/-
  The walk of PackBack.
-/
import Derived.Test.YtpalnlcjhpkkpaaPackAll
import Derived.Test.YtpalnlcjhpkkpaaPackCuts
namespace Go.Proofs.Ytpalnlcjhpkkpaa
open Go.RowKit

theorem ones_le : ∀ ns : List Int, (∀ n ∈ ns, n ≤ 9223372036854775807) → (ones ns).length ≤ 9 * ns.length := by
  intro ns
  induction ns with
  | nil => intro _; simp [ones]
  | cons n ns ih =>
    intro h
    have h1 := ih fun m hm => h m (List.mem_cons_of_mem _ hm)
    have h2 := h n List.mem_cons_self
    have h3 := Pack.need_le8 n.toNat (by omega)
    have e : ones (n :: ns) = Pack.one n.toNat ++ ones ns := rfl
    rw [e, List.length_append, Pack.one_length, List.length_cons]
    omega
theorem ones_drop {ns : List Int} {j : Nat} (h : j < ns.length) : ones (ns.drop j) = Pack.one (ns[j]).toNat ++ ones (ns.drop (j + 1)) := by
  rw [List.drop_eq_getElem_cons h]
  rfl
theorem put_inv {ns : List Int} {L : List UInt8} (h : Pack.put [] ns = some L) : L = ones ns ∧ ∀ j (hj : j < ns.length), 0 ≤ ns[j] := by
  unfold Pack.put at h
  split at h
  · cases h
  · rename_i hn
    injection h with h
    refine ⟨h.symm, fun j hj => ?_⟩
    apply Classical.byContradiction
    intro hneg
    exact hn (List.any_eq_true.2 ⟨ns[j], List.getElem_mem hj, by simpa using hneg⟩)

set_option maxRecDepth 100000 in
theorem packBack_long (A1 A2 A3 : Option Addr) (n1 n2 n3 c1 c2 c3 : Nat) (w : World) (h : 100 < n1 ∨ 1000 < n2 ∨ 1000 < n3) :
    Calls Try.prog 9 #[.slice A1 n1 c1, .slice A2 n2 c2, .slice A3 n3 c3] w fun e w' => e = .returned (.bool true) ∧ Ext w w' := by
  by_cases h1 : 100 < n1
  · clear h
    go_enter Try.func9, Try.ntmps9
    go_wp2_with (go_at_call 23; refine (awake5_any _).mono ?_; rintro e w1 ⟨rfl, hb1⟩)
    go_ret
    exact ⟨rfl, hb1⟩
  · by_cases h2 : 1000 < n2
    · clear h
      go_enter Try.func9, Try.ntmps9
      go_wp2_with (go_at_call 23; refine (awake5_any _).mono ?_; rintro e w1 ⟨rfl, hb1⟩)
      go_ret
      exact ⟨rfl, hb1⟩
    · have h3 : 1000 < n3 := by omega
      clear h
      go_enter Try.func9, Try.ntmps9
      go_wp2_with (go_at_call 23; refine (awake5_any _).mono ?_; rintro e w1 ⟨rfl, hb1⟩)
      go_ret
      exact ⟨rfl, hb1⟩

set_option maxHeartbeats 4000000 in
set_option maxRecDepth 100000 in
theorem packBack_any (A1 A2 A3 : Option Addr) (c1 c2 c3 : Nat) (ns : List Int) (t r : List UInt8) (w0 : World) (h1 : ns.length ≤ 100) (h2 : t.length ≤ 1000) (h3 : r.length ≤ 1000)
    (hr1 : Row w0 A1 (ns.map I64)) (hr2 : Row w0 A2 (t.map B8)) (hr3 : Row w0 A3 (r.map B8)) (hw : ∀ n ∈ ns, n ≤ 9223372036854775807) :
    Calls Try.prog 9 #[.slice A1 ns.length c1, .slice A2 t.length c2, .slice A3 r.length c3] w0 fun e w' => e = .returned (.bool true) ∧ Ext w0 w' := by
  have R1 := Lib.hid hr1
  have R2 := Lib.hid hr2
  have R3 := Lib.hid hr3
  have hob := ones_le ns hw
  have HW := Lib.hid hw
  have h8 := Pack.need_le8 t.length (by omega)
  have hXt := Pack.takeText_text t r (by omega)
  have hol := Pack.one_length t.length
  obtain ⟨OT, HOT⟩ : ∃ OT, Hid (OT = Pack.one t.length) := ⟨_, Lib.hid rfl⟩
  rw [← HOT.out] at hXt hol
  obtain ⟨nt, Hnt⟩ : ∃ nt, Hid (nt = Pack.need t.length) := ⟨_, Lib.hid rfl⟩
  rw [← Hnt.out] at hol h8
  have HXT := Lib.hid hXt
  clear hr1 hr2 hr3 hw hXt
  cases hp : Pack.put [] ns with
  | none =>
    have HP := Lib.hid hp
    clear hp hol hob h8
    go_enter Try.func9, Try.ntmps9
    go_wp2_with fail
    refine (awake5_any _).mono ?_
    intro e w1 ⟨he, hb1⟩
    subst he
    have B1 := Lib.hid hb1
    clear hb1
    go_wp2_with fail
    refine (put_any none A1 0 c1 [] ns w1 (Row.nil _ _) (by simp) (R1.out.ext B1.out) (by omega) HW.out).mono ?_
    intro e w2 ⟨hb2, h2⟩
    rw [HP.out] at h2
    simp only at h2
    subst h2
    have B2 := Lib.hid (B1.out.trans' hb2)
    clear hb2
    go_wp2_with fail
    go_ret
    exact ⟨rfl, B2.out⟩
  | some L =>
    obtain ⟨hL, hpos⟩ := put_inv hp
    have HP := Lib.hid hp
    have HL := Lib.hid hL
    have HPos := Lib.hid hpos
    have hLb : L.length ≤ 900 := by rw [hL]; omega
    clear hp hL hpos hob
    go_enter Try.func9, Try.ntmps9
    go_wp2_with fail
    refine (awake5_any _).mono ?_
    intro e w1 ⟨he, hb1⟩
    subst he
    have B1 := Lib.hid hb1
    clear hb1
    go_wp2_with fail
    refine (put_any none A1 0 c1 [] ns w1 (Row.nil _ _) (by simp) (R1.out.ext B1.out) (by omega) HW.out).mono ?_
    intro e w2 ⟨hb2, h2⟩
    rw [HP.out] at h2
    obtain ⟨v, he, hown⟩ := h2
    subst he
    obtain ⟨A7, c7, hv, hc7⟩ := hown.shape
    subst hv
    have P7 := Lib.hid hown.row
    have B2 := Lib.hid (B1.out.trans' hb2)
    clear hown hb2 hc7
    go_wp2_with fail
    refine (text_any A7 A2 c7 c2 L t w2 P7.out (by omega) (R2.out.ext B2.out) (by omega)).mono ?_
    intro e w3 ⟨v, he, hown, hb3⟩
    subst he
    obtain ⟨A8, c8, hv, hc8⟩ := hown.shape
    subst hv
    have B3 := Lib.hid (B2.out.trans' hb3)
    have hTe : Pack.text L t = L ++ OT ++ t := by unfold Pack.text; rw [HOT.out]
    rw [hTe] at hown hc8 ⊢
    obtain ⟨V, HV⟩ : ∃ V, Hid (V = L ++ OT ++ t) := ⟨_, Lib.hid rfl⟩
    rw [← HV.out] at hown hc8 ⊢
    have hVb : V.length ≤ 5000 := by rw [HV.out]; simp; omega
    have O8 := Lib.hid (hown.mono (B' := w0.heap.size) B2.out.size)
    have hsz := B3.out.size
    clear hown hb3 hc8 hTe
    go_wp2_with (at_builtin; go_must (refine wpList_append_bytes bt22 rfl (.tmp 48) (.tmp 49) rfl O8.out rfl rfl rfl (R3.out.ext B3.out) (by omega) hsz ?_); intro A9 c9 w9 hown9 hg9 hbl9; have B9 := Lib.hid (O8.out.below hg9 B3.out hsz (Nat.le_refl _)); have O9 := Lib.hid hown9; clear hown9 hg9 hbl9)
    obtain ⟨Y, HY⟩ : ∃ Y, Hid (Y = OT ++ (t ++ r)) := ⟨_, Lib.hid rfl⟩
    have hYb : Y.length ≤ 5000 := by rw [HY.out]; simp; omega
    have HVR := Lib.hid (show V ++ r = ones (ns.drop 0) ++ Y by rw [HV.out, HY.out, HL.out]; simp)
    have O9' : (V ++ r).length ≤ c9 := by
      obtain ⟨A', c', e, hc'⟩ := O9.out.shape
      injection e with _ _ e
      rw [e]; exact hc'
    have HVl := Lib.hid (show V.length + r.length = (V ++ r).length by simp)
    have hVRb : (V ++ r).length ≤ 10000 := by simp; omega
    rw [HVl.out]
    have P9 := Lib.hid O9.out.row
    clear O8 O9 P7 hsz
    obtain ⟨X0, HX0⟩ : ∃ X0, Hid (X0 = V ++ r) := ⟨_, Lib.hid rfl⟩
    rw [← HX0.out] at HVR P9 O9' hVRb ⊢
    rw [← HY.out] at HXT
    clear B1 B2 B3 hVb HVl
    go_loopw [8, 10, 11] (fun b k i wr => ∃ j : Nat, j ≤ ns.length ∧ k = .int .i64 j ∧ i = .int .i64 j ∧ ∃ A c X, b = .slice A X.length c ∧ X.length ≤ c ∧ X.length ≤ 10000 ∧ X = ones (ns.drop j) ++ Y ∧ Row wr A (X.map B8) ∧ Ext w0 wr) (fun _ _ i _ => ns.length - (intOf i).toNat)
    case atStart => exact ⟨0, Nat.zero_le _, rfl, rfl, A9, c9, X0, rfl, O9', hVRb, HVR.out, P9.out, B9.out⟩
    case round =>
      obtain ⟨j, hj, rfl, rfl, A, c, X, rfl, hXc, hXb, hX, hrow, hext⟩ := hrel
      have HX := Lib.hid hX
      have HRow := Lib.hid hrow
      have HE := Lib.hid hext
      clear hX hrow hext
      by_cases hlt : j < ns.length
      · obtain ⟨ad, z, rfl, hz, hcell0⟩ := int_at R1.out hlt
        have hz0 := HPos.out j hlt
        have hz1 := HW.out _ (List.getElem_mem hlt)
        rw [hz] at hz0 hz1
        obtain ⟨m, rfl⟩ : ∃ m : Nat, z = (m : Int) := ⟨z.toNat, by omega⟩
        have hm : m ≤ 9223372036854775807 := by omega
        have hcell1 := HE.out.cellAt hcell0
        have HC1 := Lib.hid hcell1
        have hn8 := Pack.need_le8 m (by omega)
        obtain ⟨X1, HX1⟩ : ∃ X1, Hid (X1 = ones (ns.drop (j + 1)) ++ Y) := ⟨_, Lib.hid rfl⟩
        have hXX : X = Pack.one m ++ X1 := by rw [HX.out, HX1.out, ones_drop hlt, hz, Int.toNat_natCast, List.append_assoc]
        have HXl := Lib.hid (show X.length = Pack.need m + 1 + X1.length by rw [hXX, List.length_append, Pack.one_length])
        have HTk := Lib.hid (show Pack.take X = some (m, X1) by rw [hXX]; exact Pack.take_one m X1 (by omega))
        clear hcell0 hcell1 hz0 hz1 hz hXX
        go_wp2_with fail
        refine (take_any A c X _ hXc (by omega) HRow.out).mono ?_
        intro e w4 ⟨hb4, h4⟩
        rw [HTk.out] at h4
        obtain ⟨v, he, A4, c4, hv, hc4, hr4⟩ := h4
        subst hv
        subst he
        have P4 := Lib.hid hr4
        have E4 := Lib.hid (HE.out.trans' hb4)
        have hcell := hb4.cellAt HC1.out
        clear hr4 hb4
        have hsz : (X.length : Int) - (X1.length : Int) = (Pack.need m : Int) + 1 := by rw [HXl.out]; omega
        have hX1b : X1.length ≤ 10000 := by have := HXl.out; omega
        obtain ⟨q, Hq⟩ : ∃ q, Hid (q = Pack.need m) := ⟨_, Lib.hid rfl⟩
        rw [← Hq.out] at hsz hn8
        have hS := fun w => size_any m w hm
        rw [← Hq.out] at hS
        have HS := Lib.hid hS
        clear hS
        go_wp2_with (go_at_call 30; refine (HS.out _).mono ?_; rintro e w5 ⟨rfl, rfl⟩)
        go_roundw
        case rel => exact ⟨j + 1, by omega, by go_num, by go_num, A4, c4, X1, rfl, hc4, hX1b, HX1.out, P4.out, E4.out⟩
        case measure => simp [intOf]; omega
      · have hj2 : j = ns.length := by omega
        have HXY := Lib.hid (show X = Y by rw [HX.out, hj2, List.drop_of_length_le (Nat.le_refl _)]; rfl)
        have HXt := Lib.hid (show Pack.takeText X = some (t, r) by rw [HXY.out]; exact HXT.out)
        subst hj2
        go_wp2_with fail
        refine (takeText_any A c X _ hXc (by omega) HRow.out).mono ?_
        intro e w4 ⟨hb4, h4⟩
        rw [HXt.out] at h4
        obtain ⟨v1, v2, he, ⟨A4, c4, hv4, hc4, hr4⟩, ⟨A5, c5, hv5, hc5, hr5⟩⟩ := h4
        subst hv4
        subst hv5
        subst he
        have E4 := Lib.hid (HE.out.trans' hb4)
        have t1 := text_at (n := t.length) (c := c4) hr4 rfl
        have t2 := text_at (n := r.length) (c := c5) hr5 rfl
        have t3 := text_at (n := t.length) (c := c2) (R2.out.ext E4.out) rfl
        have t4 := text_at (n := r.length) (c := c3) (R3.out.ext E4.out) rfl
        unfold Str at t1 t2 t3 t4
        clear hb4 hr4 hr5 hc4 hc5
        go_wp2_with fail
        go_ret
        exact ⟨rfl, E4.out⟩

end Go.Proofs.Ytpalnlcjhpkkpaa
