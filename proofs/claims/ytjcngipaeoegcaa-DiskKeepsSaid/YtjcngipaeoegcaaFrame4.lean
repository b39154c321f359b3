/-
  Frames: Take.
-/
import Derived.Test.YtjcngipaeoegcaaFrame3
namespace Go.Proofs.Ytjcngipaeoegcaa
open Go.RowKit

namespace Frame
def take (b : List UInt8) : Option (List UInt8 × List UInt8) :=
  match Pack.takeText b with
  | none => none
  | some (p, r) => if 100000 < p.length ∨ r.length < 4 then none
    else if sealed (b.take (b.length - r.length)) == b.take (b.length - r.length + 4) then some (p, r.drop 4) else none
end Frame

def RetFTake (w : World) (r : Option (List UInt8 × List UInt8)) (e : Ending) (w' : World) : Prop :=
  Ext w w' ∧ match r with
  | some (t, s) => ∃ v1 v2, e = .returned (.tuple #[v1, v2, .int .i64 0]) ∧ Bs w' v1 t ∧ Bs w' v2 s
  | none => e = .returned (.tuple #[.slice none 0 0, .slice none 0 0, .int .i64 60])
theorem RetFTake.no {w w' : World} {r : Option (List UInt8 × List UInt8)} {e : Ending} (h : r = none) (hb : Ext w w') (he : e = .returned (.tuple #[.slice none 0 0, .slice none 0 0, .int .i64 60])) : RetFTake w r e w' := by
  subst h
  exact ⟨hb, he⟩

/-- Both are the call's own. -/
def RetFTakeO (w : World) (r : Option (List UInt8 × List UInt8)) (e : Ending) (w' : World) : Prop :=
  Ext w w' ∧ match r with
  | some (t, s) => ∃ v1 v2, e = .returned (.tuple #[v1, v2, .int .i64 0]) ∧ Own w' w.heap.size v1 t ∧ Own w' w.heap.size v2 s
  | none => e = .returned (.tuple #[.slice none 0 0, .slice none 0 0, .int .i64 60])
theorem RetFTakeO.no {w w' : World} {r : Option (List UInt8 × List UInt8)} {e : Ending} (h : r = none) (hb : Ext w w') (he : e = .returned (.tuple #[.slice none 0 0, .slice none 0 0, .int .i64 60])) : RetFTakeO w r e w' := by
  subst h
  exact ⟨hb, he⟩
theorem RetFTakeO.ret {w w' : World} {r : Option (List UInt8 × List UInt8)} {e : Ending} (h : RetFTakeO w r e w') : RetFTake w r e w' := by
  obtain ⟨hb, h⟩ := h
  refine ⟨hb, ?_⟩
  cases r with
  | none => exact h
  | some ts =>
    obtain ⟨v1, v2, he, h1, h2⟩ := h
    exact ⟨v1, v2, he, h1.bs, h2.bs⟩

set_option maxHeartbeats 2000000 in
set_option maxRecDepth 100000 in
theorem ftakeO_any (A : Option Addr) (c : Nat) (b : List UInt8) (w : World) (hlc : b.length ≤ c) (hb : b.length ≤ 100000000) (hr : Row w A (b.map B8)) :
    Calls Try.prog 50 #[.slice A b.length c] w (RetFTakeO w (Frame.take b)) := by
  have HR := Lib.hid hr
  have HT := Lib.hid (takeText_any A c b w hlc (by omega) hr)
  have HTO := Lib.hid (takeTextO_any A c b w hlc (by omega) hr)
  clear hr
  cases ht : Pack.takeText b with
  | none =>
    have HF := Lib.hid (show Frame.take b = none by unfold Frame.take; rw [ht])
    rw [ht] at HT
    clear ht
    go_enter Try.func50, Try.ntmps50
    go_wp2_with fail
    refine HT.out.mono ?_
    intro e w1 ⟨hb1, he⟩
    simp only at he
    subst he
    go_wp2_with fail
    go_ret3
    exact RetFTakeO.no HF.out hb1 rfl
  | some pr =>
    obtain ⟨p, r⟩ := pr
    have hown := (Pack.takeText_own _ _ _ ht).1
    have hlb : r.length ≤ b.length ∧ p.length ≤ b.length := by
      have := congrArg List.length hown
      rw [List.length_append, List.length_append] at this
      omega
    by_cases hbad : 100000 < p.length ∨ r.length < 4
    · have HF := Lib.hid (show Frame.take b = none by unfold Frame.take; rw [ht]; simp only; rw [if_pos hbad])
      rw [ht] at HT
      clear ht hown
      go_enter Try.func50, Try.ntmps50
      go_wp2_with fail
      refine HT.out.mono ?_
      intro e w1 ⟨hb1, v1, v2, he, ⟨A6, c6, hv1, hc6, hr6⟩, ⟨A7, c7, hv2, hc7, hr7⟩⟩
      subst hv1
      subst hv2
      subst he
      clear hr6 hr7
      by_cases hb2 : 100000 < p.length
      · clear hbad
        go_wp2_with fail
        go_ret3
        exact RetFTakeO.no HF.out hb1 rfl
      · have hb3 : r.length < 4 := by omega
        clear hbad
        go_wp2_with fail
        go_ret3
        exact RetFTakeO.no HF.out hb1 rfl
    · obtain ⟨m, Hm⟩ : ∃ m, Hid (m = b.length - r.length) := ⟨_, Lib.hid rfl⟩
      have hF0 : Frame.take b = if Frame.sealed (b.take m) == b.take (m + 4) then some (p, r.drop 4) else none := by
        unfold Frame.take
        rw [ht]
        simp only
        rw [if_neg hbad, ← Hm.out]
      have HF := Lib.hid hF0
      have hmb : m + r.length = b.length := by rw [Hm.out]; omega
      have hr4 : 4 ≤ r.length := by omega
      have hp5 : ¬ 100000 < p.length := by omega
      have hr5 : ¬ r.length < 4 := by omega
      rw [ht] at HTO
      obtain ⟨KK, HKK⟩ : ∃ KK, Hid (KK = b.take m) := ⟨_, Lib.hid rfl⟩
      obtain ⟨S, HS⟩ : ∃ S, Hid (S = Frame.sealed KK) := ⟨_, Lib.hid rfl⟩
      obtain ⟨X, HX⟩ : ∃ X, Hid (X = b.take (m + 4)) := ⟨_, Lib.hid rfl⟩
      rw [← HKK.out, ← HX.out, ← HS.out] at HF
      have HKl := Lib.hid (show KK.length = m by rw [HKK.out, List.length_take]; omega)
      have HXl := Lib.hid (show X.length = m + 4 by rw [HX.out, List.length_take]; omega)
      have HSl := Lib.hid (show S.length = m + 4 by rw [HS.out, Frame.sealed_length, HKl.out])
      have hsub : (b.length : Int) - (r.length : Int) = (m : Int) := by omega
      have hsub4 : (m : Int) + 4 - 4 = (m : Int) := by omega
      have hmc : m ≤ c := by omega
      have hmc4 : m + 4 ≤ c := by omega
      have hmi : (m : Int) ≤ (c : Int) := by omega
      have hmi4 : (m : Int) + 4 ≤ (c : Int) := by omega
      have hm0 : (0 : Int) ≤ (m : Int) := by omega
      have hm40 : (0 : Int) ≤ (m : Int) + 4 := by omega
      have hwm : IntKind.i64.wrap (m : Int) = (m : Int) := by
        have h : wrap64 (m : Int) = (m : Int) := by unfold wrap64; omega
        rw [← h]
        unfold wrap64 IntKind.wrap
        simp [IntKind.bits, IntKind.signed]
        omega
      clear ht hown hbad hF0
      go_enter Try.func50, Try.ntmps50
      go_wp2_with fail
      refine HTO.out.mono ?_
      intro e wa ⟨hb1, v1, v2, he, hr6, ⟨A7, c7, hv2, hc7, hr7⟩⟩
      obtain ⟨A6, c6, hv1, hc6⟩ := hr6.shape
      subst hv1
      subst hv2
      subst he
      have E1x := Lib.hid hb1
      have P6 := Lib.hid hr6
      have P7 := Lib.hid hr7
      have hB := hb1.size
      have Q1 := Lib.hid (HR.out.ext hb1)
      clear hb1 hr6 hr7 HT HTO
      obtain ⟨tb, Htb⟩ : ∃ tb, Hid ((S == X) = tb) := ⟨_, Lib.hid rfl⟩
      rw [Htb.out] at HF
      obtain ⟨B0, hB0⟩ : ∃ B0, B0 = wa.heap.size := ⟨_, rfl⟩
      have hB' : B0 ≤ wa.heap.size := by rw [hB0]; exact Nat.le_refl _
      go_wp2_with fail
      apply wp_region_inv (B0) 10 (hB') (by kernel_rfl) (by kernel_rfl) (by kernel_rfl)
        [Is (.slice A b.length c), Is (.int .i64 ((m : Int) + 4)), Is (.int .i64 (m : Int)), Is (.slice A m c), fun w v => ∃ A c, v = .slice A m c ∧ Own w B0 (.slice A m c) KK, fun w v => ∃ A c, v = .slice A (m + 4) c ∧ Row w A (S.map B8), Is (.slice A b.length c), Is (.int .i64 ((m : Int) + 4)), Is (.slice A (m + 4) c), Is (.bool tb), Is (.bool (!tb))] (fun _ => True) (fun _ => false)
      case mono => exact ⟨Is.st _, Is.st _, Is.st _, Is.st _, Say.st_of (by intro w w' v hE hp; first | (obtain ⟨a1, hp1, hp2⟩ := hp; exact ⟨a1, hp1, hp2.ext hE⟩) | (obtain ⟨a1, a2, hp1, hp2⟩ := hp; exact ⟨a1, a2, hp1, hp2.ext hE⟩) | (obtain ⟨a1, a2, hp1, hp2, hp3⟩ := hp; exact ⟨a1, a2, hp1, hp2.ext hE, hp3.ext hE⟩)), Say.st_of (by intro w w' v hE hp; first | (obtain ⟨a1, hp1, hp2⟩ := hp; exact ⟨a1, hp1, hp2.ext hE⟩) | (obtain ⟨a1, a2, hp1, hp2⟩ := hp; exact ⟨a1, a2, hp1, hp2.ext hE⟩) | (obtain ⟨a1, a2, hp1, hp2, hp3⟩ := hp; exact ⟨a1, a2, hp1, hp2.ext hE, hp3.ext hE⟩)), Is.st _, Is.st _, Is.st _, Is.st _, Is.st _, True.intro⟩
      case monoS => exact fun _ _ _ h => h
      case startS => exact True.intro
      case hF => intro u; simp only [fill, Nat.reduceAdd, List.setIfInBounds_toArray, List.set_cons_succ, List.set_cons_zero]; exact rfl
      case steps =>
        refine StepsAt.cons ?_ ?_
        · intro u w1 K hE hS hU hd hK hW
          go_simp
          exact hK _ _ (Below.refl _ _) rfl
        refine StepsAt.cons ?_ ?_
        · intro u w1 K hE hS hU hd hK hW
          go_simp
          exact hK _ _ (Below.refl _ _) rfl
        refine StepsAt.cons ?_ ?_
        · intro u w1 K hE hS hU hd hK hW
          have d1 : u 1 = (.int .i64 ((m : Int) + 4)) := hd 1 rfl
          simp only [d1] at hK
          go_simp
          exact hK _ _ (Below.refl _ _) rfl
        refine StepsAt.cons ?_ ?_
        · intro u w1 K hE hS hU hd hK hW
          have d0 : u 0 = (.slice A b.length c) := hd 0 rfl
          have d2 : u 2 = (.int .i64 (m : Int)) := hd 2 rfl
          simp only [d0, d2] at hK
          go_simp
          exact hK _ _ (Below.refl _ _) rfl
        refine StepsAt.cons ?_ ?_
        · intro u w1 K hE hS hU hd hK hW
          have d3 : u 3 = (.slice A m c) := hd 3 rfl
          simp only [d3] at hK
          go_simp
          have hC := clone_any A c KK w1 (by rw [HKK.out, List.map_take]; exact (HR.out.ext (Ext.trans' E1x.out (show Ext wa w1 by rw [hB0] at hE; exact hE))).take m) (by rw [HKl.out]; omega)
          rw [HKl.out] at hC
          refine hC.mono ?_
          intro e w2 ⟨v, he, hown, hb2⟩
          subst he
          obtain ⟨A', c', hv, hc'⟩ := hown.shape
          subst hv
          rw [HKl.out] at hown ⊢
          exact hK _ _ hb2 ⟨A', c', rfl, hown.mono (Nat.le_trans hB' hE.size)⟩
        refine StepsAt.cons ?_ ?_
        · intro u w1 K hE hS hU hd hK hW
          obtain ⟨A4, c4, d4, h4_1⟩ : ∃ A4 c4, u 4 = .slice A4 m c4 ∧ Own w1 B0 (.slice A4 m c4) KK := hd 4 rfl
          simp only [d4] at hW
          go_simp
          have hC := seal_any A4 c4 KK w1 B0 (by rw [HKl.out]; exact h4_1) (Nat.le_trans hB' hE.size) (by rw [HKl.out]; omega)
          rw [HKl.out] at hC
          refine hC.mono ?_
          intro e w2 ⟨v, he, hown, hb2⟩
          subst he
          rw [← HS.out] at hown
          obtain ⟨A', c', hv, hc'⟩ := hown.shape
          subst hv
          rw [HSl.out] at hown ⊢
          exact hW _ _ hb2 ⟨fun _ _ h => h, fun _ _ h => h, fun _ _ h => h, fun _ _ h => h, fun hk => absurd hk (by decide), fun hk => absurd hk (by decide), fun _ _ h => h, fun _ _ h => h, fun _ _ h => h, fun _ _ h => h, fun _ _ h => h, True.intro⟩ (fun hk => absurd hk (by decide)) ⟨A', c', rfl, hown.row⟩
        refine StepsAt.cons ?_ ?_
        · intro u w1 K hE hS hU hd hK hW
          go_simp
          exact hK _ _ (Below.refl _ _) rfl
        refine StepsAt.cons ?_ ?_
        · intro u w1 K hE hS hU hd hK hW
          go_simp
          exact hK _ _ (Below.refl _ _) rfl
        refine StepsAt.cons ?_ ?_
        · intro u w1 K hE hS hU hd hK hW
          have d6 : u 6 = (.slice A b.length c) := hd 6 rfl
          have d7 : u 7 = (.int .i64 ((m : Int) + 4)) := hd 7 rfl
          simp only [d6, d7] at hK
          go_simp
          exact hK _ _ (Below.refl _ _) rfl
        refine StepsAt.cons ?_ ?_
        · intro u w1 K hE hS hU hd hK hW
          obtain ⟨A5, c5, d5, h5_1⟩ : ∃ A5 c5, u 5 = .slice A5 (m + 4) c5 ∧ Row w1 A5 (S.map B8) := hd 5 rfl
          have d8 : u 8 = (.slice A (m + 4) c) := hd 8 rfl
          simp only [d5, d8] at hK
          go_simp
          have hC := equal_any A5 A c5 c S X w1 h5_1 (by rw [HX.out, List.map_take]; exact (HR.out.ext (Ext.trans' E1x.out (show Ext wa w1 by rw [hB0] at hE; exact hE))).take (m + 4))
          rw [HSl.out, HXl.out, Htb.out] at hC
          refine hC.mono ?_
          rintro e w2 ⟨rfl, hb2⟩
          exact hK _ _ hb2 rfl
        refine StepsAt.cons ?_ ?_
        · intro u w1 K hE hS hU hd hK hW
          have d9 : u 9 = (.bool tb) := hd 9 rfl
          simp only [d9] at hK
          go_simp
          exact hK _ _ (Below.refl _ _) rfl
        exact StepsAt.nil
      case fin =>
        intro u w9 hE9 hP
        have d10 : u 10 = (.bool (!tb)) := hP 10 (by decide) (by decide)
        simp only [d10]
        have HX9 := Lib.hid (show Ext wa w9 by rw [hB0] at hE9; exact hE9)
        have HW9 := Lib.hid (E1x.out.trans' HX9.out)
        clear hE9 hB
        cases tb with
        | false =>
          go_wp2_with fail
          go_ret3
          exact RetFTakeO.no (by rw [HF.out]; rfl) HW9.out rfl
        | true =>
          have hcut := fun w => run_cut A7 r.length c7 4 hr4 4 rfl w
          have hrow := (P7.out.ext HX9.out).cut (k := 4) (cap := c7) (by rw [List.length_map]; exact hc7)
          obtain ⟨A8, HA8⟩ : ∃ A8, Hid (A8 = if c7 = 4 then A7 else A7.map (·.add 4)) := ⟨_, Lib.hid rfl⟩
          rw [← HA8.out] at hcut hrow
          rw [← List.map_drop] at hrow
          obtain ⟨R4, HR4⟩ : ∃ R4, Hid (R4 = r.drop 4) := ⟨_, Lib.hid rfl⟩
          rw [← HR4.out] at hrow HF
          have HRl := Lib.hid (show R4.length = r.length - 4 by rw [HR4.out, List.length_drop])
          have HRow := Lib.hid hrow
          clear hrow
          go_wp2_with fail
          have hC := clone_any A8 (c7 - 4) R4 w9 HRow.out (by rw [HRl.out]; omega)
          rw [HRl.out] at hC
          refine hC.mono ?_
          intro e w10 ⟨v, he, hown, hb10⟩
          subst he
          obtain ⟨A9, c9, hv, hc9⟩ := hown.shape
          subst hv
          have HO := Lib.hid hown
          have H10 := Lib.hid (HW9.out.trans' hb10)
          have P10 := Lib.hid ((P6.out.ext HX9.out).ext hb10)
          clear hown hb10 hC
          go_wp2_with fail
          go_ret3
          refine ⟨H10.out, ?_⟩
          rw [HF.out]
          exact ⟨_, _, rfl, P10.out, HO.out.mono HW9.out.size⟩

theorem ftake_any (A : Option Addr) (c : Nat) (b : List UInt8) (w : World) (hlc : b.length ≤ c) (hb : b.length ≤ 100000000) (hr : Row w A (b.map B8)) :
    Calls Try.prog 50 #[.slice A b.length c] w (RetFTake w (Frame.take b)) :=
  (ftakeO_any A c b w hlc hb hr).mono fun _ _ h => h.ret

end Go.Proofs.Ytjcngipaeoegcaa
