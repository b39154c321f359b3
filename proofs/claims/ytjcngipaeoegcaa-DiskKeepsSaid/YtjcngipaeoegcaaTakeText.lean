/-
  What taking a text returns.
-/
import Derived.Test.YtjcngipaeoegcaaTakeRef
namespace Go.Proofs.Ytjcngipaeoegcaa
open Go.RowKit

theorem head_iff (m : Nat) (r : List UInt8) (h8 : m ≤ 8) (hl : m ≤ r.length) : (Pack.val (r.take m) < 9223372036854775808 ∧ Pack.need (Pack.val (r.take m)) = m) ↔ ¬ badHead m (r.getD 0 0).toNat := by
  have hlen : (r.take m).length = m := by rw [List.length_take]; omega
  have h1 := Pack.val_eight (r.take m) (by omega)
  have h2 := Pack.val_need (r.take m) (by omega)
  rw [hlen] at h1 h2
  rw [h1, h2]
  by_cases hm : m = 0
  · subst hm
    simp [badHead]
  · have hg : (r.take m).getD 0 0 = r.getD 0 0 := by rw [List.getD_eq_getElem?_getD, List.getD_eq_getElem?_getD, List.getElem?_take, if_pos (by omega)]
    rw [hg]
    have hz : r.getD 0 0 ≠ 0 ↔ (r.getD 0 0).toNat ≠ 0 := by
      constructor
      · intro h e
        exact h (UInt8.toNat_inj.1 (by rw [e]; rfl))
      · intro h e
        exact h (by rw [e]; rfl)
    rw [hz]
    unfold badHead
    omega

theorem refTake_any (A : Option Addr) (c : Nat) (l : List UInt8) (w : World) (hlc : l.length ≤ c) (hl : l.length ≤ 1000000000) (hr : Row w A (l.map B8)) :
    Calls Try.prog 63 #[.slice A l.length c] w (RetTake w (Pack.take l)) := by
  cases l with
  | nil => exact refTake_nil A c w
  | cons m r =>
    by_cases h : 8 < m.toNat ∨ r.length < m.toNat
    · have := refTake_bad A c (r.length + 1) m r w rfl hr h
      rwa [show Pack.take (m :: r) = none by simp only [Pack.take]; rw [if_pos h]]
    · have hi := head_iff m.toNat r (by omega) (by omega)
      by_cases hb : badHead m.toNat (r.getD 0 0).toNat
      · have := refTake_head A c (r.length + 1) m r w rfl hr (by omega) (by omega) hb
        rwa [show Pack.take (m :: r) = none by simp only [Pack.take]; rw [if_neg h, if_neg (fun e => hi.1 e hb)]]
      · have := refTake_good A c (r.length + 1) m r w rfl hlc hl hr (by omega) (by omega) hb
        rwa [show Pack.take (m :: r) = some (Pack.val (r.take m.toNat), r.drop m.toNat) by simp only [Pack.take]; rw [if_neg h, if_pos (hi.2 hb)]]

/-- What taking a text hands back. -/
def RetText (w : World) (r : Option (List UInt8 × List UInt8)) (e : Ending) (w' : World) : Prop :=
  Ext w w' ∧ match r with
  | some (t, s) => ∃ v1 v2, e = .returned (.tuple #[v1, v2, .int .i64 0]) ∧ Bs w' v1 t ∧ Bs w' v2 s
  | none => e = .returned (.tuple #[.slice none 0 0, .slice none 0 0, .int .i64 50])
theorem RetText.no {w w' : World} {r : Option (List UInt8 × List UInt8)} {e : Ending} (h : r = none) (hb : Ext w w') (he : e = .returned (.tuple #[.slice none 0 0, .slice none 0 0, .int .i64 50])) : RetText w r e w' := by
  subst h
  exact ⟨hb, he⟩
/-- The text is the call's own. -/
def RetTextO (w : World) (r : Option (List UInt8 × List UInt8)) (e : Ending) (w' : World) : Prop :=
  Ext w w' ∧ match r with
  | some (t, s) => ∃ v1 v2, e = .returned (.tuple #[v1, v2, .int .i64 0]) ∧ Own w' w.heap.size v1 t ∧ Bs w' v2 s
  | none => e = .returned (.tuple #[.slice none 0 0, .slice none 0 0, .int .i64 50])
theorem RetTextO.no {w w' : World} {r : Option (List UInt8 × List UInt8)} {e : Ending} (h : r = none) (hb : Ext w w') (he : e = .returned (.tuple #[.slice none 0 0, .slice none 0 0, .int .i64 50])) : RetTextO w r e w' := by
  subst h
  exact ⟨hb, he⟩
theorem RetTextO.ret {w w' : World} {r : Option (List UInt8 × List UInt8)} {e : Ending} (h : RetTextO w r e w') : RetText w r e w' := by
  obtain ⟨hb, h⟩ := h
  refine ⟨hb, ?_⟩
  cases r with
  | none => exact h
  | some ts =>
    obtain ⟨v1, v2, he, h1, h2⟩ := h
    exact ⟨v1, v2, he, h1.bs, h2⟩
theorem take_bound (l : List UInt8) (n : Nat) (r : List UInt8) (h : Pack.take l = some (n, r)) : r.length ≤ l.length ∧ n < 9223372036854775808 := by
  obtain ⟨h1, h2⟩ := Pack.take_own l n r h
  refine ⟨?_, h2⟩
  rw [h1, List.length_append]
  omega

set_option maxHeartbeats 1000000 in
theorem takeTextO_any (A : Option Addr) (c : Nat) (l : List UInt8) (w : World) (hlc : l.length ≤ c) (hl : l.length ≤ 1000000000) (hr : Row w A (l.map B8)) :
    Calls Try.prog 52 #[.slice A l.length c] w (RetTextO w (Pack.takeText l)) := by
  have HT := Lib.hid (take_any A c l w hlc hl hr)
  clear hr
  cases ht : Pack.take l with
  | none =>
    have HF := Lib.hid (show Pack.takeText l = none by unfold Pack.takeText; rw [ht])
    rw [ht] at HT
    clear ht
    go_enter Try.func52, Try.ntmps52
    go_wp2_with fail
    refine HT.out.mono ?_
    intro e w1 ⟨hb1, he⟩
    simp only at he
    subst he
    go_wp2
    go_ret3
    exact RetTextO.no HF.out hb1 rfl
  | some p =>
    obtain ⟨n, r⟩ := p
    obtain ⟨hrl, hn⟩ := take_bound l n r ht
    rw [ht] at HT
    by_cases hlt : r.length < n
    · have HF := Lib.hid (show Pack.takeText l = none by unfold Pack.takeText; rw [ht]; simp only; rw [if_pos hlt])
      clear ht
      go_enter Try.func52, Try.ntmps52
      go_wp2_with fail
      refine HT.out.mono ?_
      intro e w1 ⟨hb1, v, he, hv⟩
      obtain ⟨A1, c1, hv1, hc1, hr1⟩ := hv
      subst hv1
      subst he
      go_wp2
      go_ret3
      exact RetTextO.no HF.out hb1 rfl
    · have HF := Lib.hid (show Pack.takeText l = some (r.take n, r.drop n) by unfold Pack.takeText; rw [ht]; simp only; rw [if_neg hlt])
      clear ht
      have hnr : (n : Int) ≤ (r.length : Int) := by omega
      go_enter Try.func52, Try.ntmps52
      go_wp2_with fail
      refine HT.out.mono ?_
      intro e w1 ⟨hb1, v, he, hv⟩
      obtain ⟨A1, c1, hv1, hc1, hr1⟩ := hv
      subst hv1
      subst he
      have hnc : (n : Int) ≤ (c1 : Int) := by omega
      have R1 := Lib.hid (hr1.take n)
      rw [← List.map_take] at R1
      have H2 := Lib.hid (hr1.cut (k := n) (cap := c1) (by simpa using hc1))
      have hcut := run_cut A1 r.length c1 n (by omega) (n : Int) rfl
      obtain ⟨A2, HA2⟩ : ∃ A2, Hid (A2 = if c1 = n then A1 else Option.map (fun z => z.add n) A1) := ⟨_, Lib.hid rfl⟩
      rw [← HA2.out] at hcut H2
      rw [← List.map_drop] at H2
      have HDn := Lib.hid (show (r.drop n).length = r.length - n by simp)
      have HTn := Lib.hid (show (r.take n).length = n by rw [List.length_take]; omega)
      obtain ⟨T, HTe⟩ : ∃ T, Hid (T = r.take n) := ⟨_, Lib.hid rfl⟩
      rw [← HTe.out] at R1 HTn HF
      obtain ⟨B0, HB0⟩ : ∃ B0, Hid (B0 = w.heap.size) := ⟨_, Lib.hid rfl⟩
      have HB1 := Lib.hid hb1
      have HC := Lib.hid (show r.length - n ≤ c1 - n by omega)
      clear hb1 hr1
      go_wp2
      apply wp_region_inv _ 7 (Nat.le_refl _) (by kernel_rfl) (by kernel_rfl) (by kernel_rfl)
        [Is (.slice A1 r.length c1), Is (.int .i64 (n : Int)), Is (.slice A1 n c1), fun w v => ∃ A c, v = .slice A n c ∧ Own w B0 (.slice A n c) T, Is (.slice A1 r.length c1), Is (.int .i64 (n : Int)), Is (.slice A2 (r.length - n) (c1 - n)), fun w v => ∃ A c, v = .slice A n c ∧ Own w B0 (.slice A n c) T, Is (.slice A2 (r.length - n) (c1 - n)), Is (.int .i64 0)] (fun _ => True) (fun _ => false)
      case mono => exact ⟨Is.st _, Is.st _, Is.st _, Say.st_of (by intro w w' v hE hp; first | (obtain ⟨a1, hp1, hp2⟩ := hp; exact ⟨a1, hp1, hp2.ext hE⟩) | (obtain ⟨a1, a2, hp1, hp2⟩ := hp; exact ⟨a1, a2, hp1, hp2.ext hE⟩) | (obtain ⟨a1, a2, hp1, hp2, hp3⟩ := hp; exact ⟨a1, a2, hp1, hp2.ext hE, hp3.ext hE⟩)), Is.st _, Is.st _, Is.st _, Say.st_of (by intro w w' v hE hp; first | (obtain ⟨a1, hp1, hp2⟩ := hp; exact ⟨a1, hp1, hp2.ext hE⟩) | (obtain ⟨a1, a2, hp1, hp2⟩ := hp; exact ⟨a1, a2, hp1, hp2.ext hE⟩) | (obtain ⟨a1, a2, hp1, hp2, hp3⟩ := hp; exact ⟨a1, a2, hp1, hp2.ext hE, hp3.ext hE⟩)), Is.st _, Is.st _, True.intro⟩
      case monoS => exact fun _ _ _ h => h
      case startS => exact True.intro
      case hF => intro u; simp only [fill, Nat.reduceAdd, List.setIfInBounds_toArray, List.set_cons_succ, List.set_cons_zero]; exact rfl
      case steps =>
        refine StepsAt.cons ?_ ?_
        · intro u w1 K hE hS hU hd hK hW
          go_simp
          exact hK _ _ (Below.refl _ _) rfl
        refine StepsAt.cons ?_ ?_
        · intro u w1 K hE hS hU hd hK hW
          go_simp
          exact hK _ _ (Below.refl _ _) rfl
        refine StepsAt.cons ?_ ?_
        · intro u w1 K hE hS hU hd hK hW
          have d0 : u 0 = (.slice A1 r.length c1) := hd 0 rfl
          have d1 : u 1 = (.int .i64 (n : Int)) := hd 1 rfl
          simp only [d0, d1] at hK
          go_simp
          exact hK _ _ (Below.refl _ _) rfl
        refine StepsAt.cons ?_ ?_
        · intro u w1 K hE hS hU hd hK hW
          have d2 : u 2 = (.slice A1 n c1) := hd 2 rfl
          simp only [d2] at hK
          go_simp
          have hcl := clone_any A1 c1 T w1 (R1.out.ext hE) (by rw [HTn.out]; omega)
          rw [HTn.out] at hcl
          refine hcl.mono ?_
          rintro e w2 ⟨v, rfl, hown, hb⟩
          obtain ⟨A', c', hv, hc'⟩ := hown.shape
          subst hv
          rw [HTn.out] at hown ⊢
          exact hK _ _ hb ⟨A', c', rfl, hown.mono (by rw [HB0.out]; exact Nat.le_trans HB1.out.size hE.size)⟩
        refine StepsAt.cons ?_ ?_
        · intro u w1 K hE hS hU hd hK hW
          go_simp
          exact hK _ _ (Below.refl _ _) rfl
        refine StepsAt.cons ?_ ?_
        · intro u w1 K hE hS hU hd hK hW
          go_simp
          exact hK _ _ (Below.refl _ _) rfl
        refine StepsAt.cons ?_ ?_
        · intro u w1 K hE hS hU hd hK hW
          have d4 : u 4 = (.slice A1 r.length c1) := hd 4 rfl
          have d5 : u 5 = (.int .i64 (n : Int)) := hd 5 rfl
          simp only [d4, d5] at hK
          go_simp
          exact hK _ _ (Below.refl _ _) rfl
        refine StepsAt.cons ?_ ?_
        · intro u w1 K hE hS hU hd hK hW
          obtain ⟨A3, c3, d3, h3_1⟩ : ∃ A3 c3, u 3 = .slice A3 n c3 ∧ Own w1 B0 (.slice A3 n c3) T := hd 3 rfl
          simp only [d3] at hK
          go_simp
          exact hK _ _ (Below.refl _ _) ⟨_, _, rfl, h3_1⟩
        refine StepsAt.cons ?_ ?_
        · intro u w1 K hE hS hU hd hK hW
          have d6 : u 6 = (.slice A2 (r.length - n) (c1 - n)) := hd 6 rfl
          simp only [d6] at hK
          go_simp
          exact hK _ _ (Below.refl _ _) rfl
        refine StepsAt.cons ?_ ?_
        · intro u w1 K hE hS hU hd hK hW
          go_simp
          exact hK _ _ (Below.refl _ _) rfl
        exact StepsAt.nil
      case fin =>
        intro u w9 hE9 hP
        obtain ⟨A7, c7, d7, h7_1⟩ : ∃ A7 c7, u 7 = .slice A7 n c7 ∧ Own w9 B0 (.slice A7 n c7) T := hP 7 (by decide) (by decide)
        have d8 : u 8 = (.slice A2 (r.length - n) (c1 - n)) := hP 8 (by decide) (by decide)
        have d9 : u 9 = (.int .i64 0) := hP 9 (by decide) (by decide)
        simp only [d7, d8, d9]
        go_wp2
        go_ret3
        refine ⟨HB1.out.trans' hE9, ?_⟩
        rw [HF.out]
        exact ⟨_, _, rfl, by rw [← HB0.out]; exact h7_1, ⟨A2, c1 - n, by rw [HDn.out]; rfl, by rw [HDn.out]; exact HC.out, H2.out.ext hE9⟩⟩

theorem takeText_any (A : Option Addr) (c : Nat) (l : List UInt8) (w : World) (hlc : l.length ≤ c) (hl : l.length ≤ 1000000000) (hr : Row w A (l.map B8)) :
    Calls Try.prog 52 #[.slice A l.length c] w (RetText w (Pack.takeText l)) :=
  (takeTextO_any A c l w hlc hl hr).mono fun _ _ h => h.ret

set_option maxHeartbeats 1000000 in
theorem refTakeText_any (A : Option Addr) (c : Nat) (l : List UInt8) (w : World) (hlc : l.length ≤ c) (hl : l.length ≤ 1000000000) (hr : Row w A (l.map B8)) :
    Calls Try.prog 64 #[.slice A l.length c] w (RetText w (Pack.takeText l)) := by
  have HT := Lib.hid (refTake_any A c l w hlc hl hr)
  clear hr
  cases ht : Pack.take l with
  | none =>
    have HF := Lib.hid (show Pack.takeText l = none by unfold Pack.takeText; rw [ht])
    rw [ht] at HT
    clear ht
    go_enter Try.func64, Try.ntmps64
    go_wp2_with fail
    refine HT.out.mono ?_
    intro e w1 ⟨hb1, he⟩
    simp only at he
    subst he
    go_wp2
    go_ret3
    exact RetText.no HF.out hb1 rfl
  | some p =>
    obtain ⟨n, r⟩ := p
    obtain ⟨hrl, hn⟩ := take_bound l n r ht
    rw [ht] at HT
    by_cases hlt : r.length < n
    · have HF := Lib.hid (show Pack.takeText l = none by unfold Pack.takeText; rw [ht]; simp only; rw [if_pos hlt])
      clear ht
      go_enter Try.func64, Try.ntmps64
      go_wp2_with fail
      refine HT.out.mono ?_
      intro e w1 ⟨hb1, v, he, hv⟩
      obtain ⟨A1, c1, hv1, hc1, hr1⟩ := hv
      subst hv1
      subst he
      go_wp2
      go_ret3
      exact RetText.no HF.out hb1 rfl
    · have HF := Lib.hid (show Pack.takeText l = some (r.take n, r.drop n) by unfold Pack.takeText; rw [ht]; simp only; rw [if_neg hlt])
      clear ht
      have hnr : (n : Int) ≤ (r.length : Int) := by omega
      go_enter Try.func64, Try.ntmps64
      go_wp2_with fail
      refine HT.out.mono ?_
      intro e w1 ⟨hb1, v, he, hv⟩
      obtain ⟨A1, c1, hv1, hc1, hr1⟩ := hv
      subst hv1
      subst he
      have hnc : (n : Int) ≤ (c1 : Int) := by omega
      have R1 := Lib.hid (hr1.take n)
      rw [← List.map_take] at R1
      have H2 := Lib.hid (hr1.cut (k := n) (cap := c1) (by simpa using hc1))
      have hcut := run_cut A1 r.length c1 n (by omega) (n : Int) rfl
      obtain ⟨A2, HA2⟩ : ∃ A2, Hid (A2 = if c1 = n then A1 else Option.map (fun z => z.add n) A1) := ⟨_, Lib.hid rfl⟩
      rw [← HA2.out] at hcut H2
      rw [← List.map_drop] at H2
      have HDn := Lib.hid (show (r.drop n).length = r.length - n by simp)
      have HTn := Lib.hid (show (r.take n).length = n by rw [List.length_take]; omega)
      obtain ⟨T, HTe⟩ : ∃ T, Hid (T = r.take n) := ⟨_, Lib.hid rfl⟩
      rw [← HTe.out] at R1 HTn HF
      have HB1 := Lib.hid hb1
      have HC := Lib.hid (show r.length - n ≤ c1 - n by omega)
      have HC2 := Lib.hid (show n ≤ c1 by omega)
      clear hb1 hr1
      go_wp2
      apply wp_region_inv _ 6 (Nat.le_refl _) (by kernel_rfl) (by kernel_rfl) (by kernel_rfl)
        [Is (.slice A1 r.length c1), Is (.int .i64 (n : Int)), Is (.slice A1 n c1), Is (.slice A1 r.length c1), Is (.int .i64 (n : Int)), Is (.slice A2 (r.length - n) (c1 - n)), Is (.slice A1 n c1), Is (.slice A2 (r.length - n) (c1 - n)), Is (.int .i64 0)] (fun _ => True) (fun _ => false)
      case mono => exact ⟨Is.st _, Is.st _, Is.st _, Is.st _, Is.st _, Is.st _, Is.st _, Is.st _, Is.st _, True.intro⟩
      case monoS => exact fun _ _ _ h => h
      case startS => exact True.intro
      case hF => intro u; simp only [fill, Nat.reduceAdd, List.setIfInBounds_toArray, List.set_cons_succ, List.set_cons_zero]; exact rfl
      case steps =>
        refine StepsAt.cons ?_ ?_
        · intro u w1 K hE hS hU hd hK hW
          go_simp
          exact hK _ _ (Below.refl _ _) rfl
        refine StepsAt.cons ?_ ?_
        · intro u w1 K hE hS hU hd hK hW
          go_simp
          exact hK _ _ (Below.refl _ _) rfl
        refine StepsAt.cons ?_ ?_
        · intro u w1 K hE hS hU hd hK hW
          have d0 : u 0 = (.slice A1 r.length c1) := hd 0 rfl
          have d1 : u 1 = (.int .i64 (n : Int)) := hd 1 rfl
          simp only [d0, d1] at hK
          go_simp
          exact hK _ _ (Below.refl _ _) rfl
        refine StepsAt.cons ?_ ?_
        · intro u w1 K hE hS hU hd hK hW
          go_simp
          exact hK _ _ (Below.refl _ _) rfl
        refine StepsAt.cons ?_ ?_
        · intro u w1 K hE hS hU hd hK hW
          go_simp
          exact hK _ _ (Below.refl _ _) rfl
        refine StepsAt.cons ?_ ?_
        · intro u w1 K hE hS hU hd hK hW
          have d3 : u 3 = (.slice A1 r.length c1) := hd 3 rfl
          have d4 : u 4 = (.int .i64 (n : Int)) := hd 4 rfl
          simp only [d3, d4] at hK
          go_simp
          exact hK _ _ (Below.refl _ _) rfl
        refine StepsAt.cons ?_ ?_
        · intro u w1 K hE hS hU hd hK hW
          have d2 : u 2 = (.slice A1 n c1) := hd 2 rfl
          simp only [d2] at hK
          go_simp
          exact hK _ _ (Below.refl _ _) rfl
        refine StepsAt.cons ?_ ?_
        · intro u w1 K hE hS hU hd hK hW
          have d5 : u 5 = (.slice A2 (r.length - n) (c1 - n)) := hd 5 rfl
          simp only [d5] at hK
          go_simp
          exact hK _ _ (Below.refl _ _) rfl
        refine StepsAt.cons ?_ ?_
        · intro u w1 K hE hS hU hd hK hW
          go_simp
          exact hK _ _ (Below.refl _ _) rfl
        exact StepsAt.nil
      case fin =>
        intro u w9 hE9 hP
        have d6 : u 6 = (.slice A1 n c1) := hP 6 (by decide) (by decide)
        have d7 : u 7 = (.slice A2 (r.length - n) (c1 - n)) := hP 7 (by decide) (by decide)
        have d8 : u 8 = (.int .i64 0) := hP 8 (by decide) (by decide)
        simp only [d6, d7, d8]
        go_wp2
        go_ret3
        refine ⟨HB1.out.trans' hE9, ?_⟩
        rw [HF.out]
        exact ⟨_, _, rfl, ⟨A1, c1, by rw [HTn.out]; rfl, by rw [HTn.out]; exact HC2.out, R1.out.ext hE9⟩, ⟨A2, c1 - n, by rw [HDn.out]; rfl, by rw [HDn.out]; exact HC.out, H2.out.ext hE9⟩⟩

end Go.Proofs.Ytjcngipaeoegcaa
