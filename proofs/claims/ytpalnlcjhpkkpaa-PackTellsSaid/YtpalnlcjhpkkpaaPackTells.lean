/-
  The walk of PackTells.
-/
import Derived.Test.YtpalnlcjhpkkpaaAwake5
namespace Go.Proofs.Ytpalnlcjhpkkpaa
open Go.RowKit

/-- What came in as a slice of integers, as a list. -/
theorem int64s_of_ints {w : World} {a : Option Addr} {len cap : Nat} {zs : List Int} (h : (a = none ∧ len = 0 ∧ cap = 0 ∧ zs = []) ∨
    ∃ x, a = some x ∧ len ≤ cap ∧ cap ≤ maxLen ∧ zs.length = cap ∧ (∀ i, i < zs.length → w.cell? (x.add i) = some (.int .i64 (zs.getD i 0))) ∧ ∀ n ∈ zs, (Lit.int .i64 n).wf = true) :
    ∃ ns : List Int, ns.length = len ∧ len ≤ cap ∧ Row w a (ns.map I64) ∧ ∀ n ∈ ns, n ≤ 9223372036854775807 := by
  rcases h with ⟨rfl, rfl, rfl, rfl⟩ | ⟨x, rfl, hl, hm, hz, hcell, hwz⟩
  · exact ⟨[], rfl, Nat.le_refl _, Row.nil _ _, by simp⟩
  · refine ⟨zs.take len, by simp; omega, hl, fun _ => ⟨x, rfl, fun j u hu => ?_⟩, fun n hn => (int_of_i64 (hwz n (List.mem_of_mem_take hn))).2⟩
    have hj : j < len := by
      rcases Nat.lt_or_ge j len with h1 | h1
      · exact h1
      · rw [List.getElem?_eq_none (by simp; omega)] at hu; cases hu
    have hjz : j < zs.length := by omega
    rw [hcell j hjz, ← hu]
    simp only [List.getElem?_map, List.getElem?_take, hj, if_true, List.getElem?_eq_getElem hjz, Option.map_some, I64]
    rw [List.getD_eq_getElem?_getD, List.getElem?_eq_getElem hjz, Option.getD_some]

def codeOf {α : Type} (r : Option α) : Int := match r with | some _ => 0 | none => 50
def putBytes (r : Option (List UInt8)) : List UInt8 := match r with | some l => l | none => []
def takeNum (r : Option (Nat × List UInt8)) : Nat := match r with | some (n, _) => n | none => 0
def takeRest (r : Option (Nat × List UInt8)) : List UInt8 := match r with | some (_, l) => l | none => []
def textHead (r : Option (List UInt8 × List UInt8)) : List UInt8 := match r with | some (t, _) => t | none => []
def textRest (r : Option (List UInt8 × List UInt8)) : List UInt8 := match r with | some (_, l) => l | none => []
theorem RetPut.all {w w' : World} {r : Option (List UInt8)} {e : Ending} (h : RetPut w r e w') : ∃ A c, e = .returned (.tuple #[.slice A (putBytes r).length c, .int .i64 (codeOf r)]) ∧ Row w' A ((putBytes r).map B8) ∧ Ext w w' ∧ (putBytes r).length ≤ c := by
  obtain ⟨hb, h⟩ := h
  cases r with
  | none => exact ⟨none, 0, h, Row.nil _ _, hb, Nat.le_refl _⟩
  | some l =>
    obtain ⟨v, he, hown⟩ := h
    obtain ⟨A, c, hv, hc⟩ := hown.shape
    subst hv
    exact ⟨A, c, he, hown.row, hb, hc⟩
theorem RetTake.all {w w' : World} {r : Option (Nat × List UInt8)} {e : Ending} (h : RetTake w r e w') : ∃ A c, e = .returned (.tuple #[.int .i64 (takeNum r : Int), .slice A (takeRest r).length c, .int .i64 (codeOf r)]) ∧ Row w' A ((takeRest r).map B8) ∧ Ext w w' ∧ (takeRest r).length ≤ c := by
  obtain ⟨hb, h⟩ := h
  cases r with
  | none => exact ⟨none, 0, h, Row.nil _ _, hb, Nat.le_refl _⟩
  | some p =>
    obtain ⟨v, he, A, c, hv, hc, hr⟩ := h
    subst hv
    exact ⟨A, c, he, hr, hb, hc⟩
theorem RetText.all {w w' : World} {r : Option (List UInt8 × List UInt8)} {e : Ending} (h : RetText w r e w') : ∃ A c A2 c2, e = .returned (.tuple #[.slice A (textHead r).length c, .slice A2 (textRest r).length c2, .int .i64 (codeOf r)]) ∧ Row w' A ((textHead r).map B8) ∧ Row w' A2 ((textRest r).map B8) ∧ Ext w w' ∧ (textHead r).length ≤ c ∧ (textRest r).length ≤ c2 := by
  obtain ⟨hb, h⟩ := h
  cases r with
  | none => exact ⟨none, 0, none, 0, h, Row.nil _ _, Row.nil _ _, hb, Nat.le_refl _, Nat.le_refl _⟩
  | some p =>
    obtain ⟨v1, v2, he, ⟨A, c, hv1, hc, hr⟩, ⟨A2, c2, hv2, hc2, hr2⟩⟩ := h
    subst hv1
    subst hv2
    exact ⟨A, c, A2, c2, he, hr, hr2, hb, hc, hc2⟩

theorem size_both (z : Int) (hz : z ≤ 9223372036854775807) : ∃ s : Int, (∀ w, Calls Try.prog 30 #[.int .i64 z] w fun e w' => e = .returned (.int .i64 s) ∧ Ext w w') ∧ ∀ w, Calls Try.prog 31 #[.int .i64 z] w fun e w' => e = .returned (.int .i64 s) ∧ Ext w w' := by
  by_cases h : z < 0
  · exact ⟨0, fun w => (size_neg z w h).mono (by rintro e w' ⟨rfl, rfl⟩; exact ⟨rfl, Below.refl _ _⟩), fun w => refSize_neg z w h⟩
  · obtain ⟨n, rfl⟩ : ∃ n : Nat, z = (n : Int) := ⟨z.toNat, by omega⟩
    exact ⟨(Pack.need n : Int) + 1, fun w => (size_any n w (by omega)).mono (by rintro e w' ⟨rfl, rfl⟩; exact ⟨rfl, Below.refl _ _⟩), fun w => refSize_any n w (by omega)⟩

set_option maxRecDepth 100000 in
theorem packTells_long (A1 A2 A3 : Option Addr) (n1 n2 n3 c1 c2 c3 : Nat) (w : World) (h : 1000 < n1 ∨ 1000 < n2 ∨ 1000 < n3) :
    Calls Try.prog 8 #[.slice A1 n1 c1, .slice A2 n2 c2, .slice A3 n3 c3] w fun e w' => e = .returned (.bool true) ∧ Ext w w' := by
  by_cases h1 : 1000 < n1
  · clear h
    go_enter Try.func8, Try.ntmps8
    go_wp2_with (go_at_call 23; refine (awake5_any _).mono ?_; rintro e w1 ⟨rfl, hb1⟩)
    go_ret
    exact ⟨rfl, hb1⟩
  · by_cases h2 : 1000 < n2
    · clear h
      go_enter Try.func8, Try.ntmps8
      go_wp2_with (go_at_call 23; refine (awake5_any _).mono ?_; rintro e w1 ⟨rfl, hb1⟩)
      go_ret
      exact ⟨rfl, hb1⟩
    · have h3 : 1000 < n3 := by omega
      clear h
      go_enter Try.func8, Try.ntmps8
      go_wp2_with (go_at_call 23; refine (awake5_any _).mono ?_; rintro e w1 ⟨rfl, hb1⟩)
      go_ret
      exact ⟨rfl, hb1⟩

/-- Where the last region begins: what it is told. -/
theorem beq_str (q : List UInt8) : ((⟨q.toArray⟩ : ByteArray).toList == (⟨q.toArray⟩ : ByteArray).toList) = true := beq_self_eq_true _

set_option maxHeartbeats 4000000 in
set_option maxRecDepth 100000 in
theorem packTells_any (A1 A2 A3 : Option Addr) (c1 c2 c3 : Nat) (l : List UInt8) (ns : List Int) (t : List UInt8) (w0 : World) (h1 : l.length ≤ 1000) (h2 : ns.length ≤ 1000) (h3 : t.length ≤ 1000) (hlc : l.length ≤ c1)
    (hr1 : Row w0 A1 (l.map B8)) (hr2 : Row w0 A2 (ns.map I64)) (hr3 : Row w0 A3 (t.map B8)) (hw : ∀ n ∈ ns, n ≤ 9223372036854775807) :
    Calls Try.prog 8 #[.slice A1 l.length c1, .slice A2 ns.length c2, .slice A3 t.length c3] w0 fun e w' => e = .returned (.bool true) ∧ Ext w0 w' := by
  have R1 := Lib.hid hr1
  have R2 := Lib.hid hr2
  have R3 := Lib.hid hr3
  have HW := Lib.hid hw
  clear hr1 hr2 hr3 hw
  go_enter Try.func8, Try.ntmps8
  go_wp2_with fail
  refine (awake5_any _).mono ?_
  intro e w1 ⟨he, hb1⟩
  subst he
  have B1 := Lib.hid hb1
  clear hb1
  obtain ⟨rp, Hp⟩ : ∃ rp, Hid (rp = Pack.put l ns) := ⟨_, Lib.hid rfl⟩
  obtain ⟨rt, Ht⟩ : ∃ rt, Hid (rt = Pack.take l) := ⟨_, Lib.hid rfl⟩
  obtain ⟨rx, Hx⟩ : ∃ rx, Hid (rx = Pack.takeText l) := ⟨_, Lib.hid rfl⟩
  obtain ⟨Q1, HQ1⟩ : ∃ Q1, Hid (Q1 = putBytes rp) := ⟨_, Lib.hid rfl⟩
  obtain ⟨E1, HE1⟩ : ∃ E1, Hid (E1 = codeOf rp) := ⟨_, Lib.hid rfl⟩
  obtain ⟨N2, HN2⟩ : ∃ N2, Hid (N2 = takeNum rt) := ⟨_, Lib.hid rfl⟩
  obtain ⟨Q2, HQ2⟩ : ∃ Q2, Hid (Q2 = takeRest rt) := ⟨_, Lib.hid rfl⟩
  obtain ⟨E2, HE2⟩ : ∃ E2, Hid (E2 = codeOf rt) := ⟨_, Lib.hid rfl⟩
  obtain ⟨Q3, HQ3⟩ : ∃ Q3, Hid (Q3 = textHead rx) := ⟨_, Lib.hid rfl⟩
  obtain ⟨Q4, HQ4⟩ : ∃ Q4, Hid (Q4 = textRest rx) := ⟨_, Lib.hid rfl⟩
  obtain ⟨E3, HE3⟩ : ∃ E3, Hid (E3 = codeOf rx) := ⟨_, Lib.hid rfl⟩
  go_wp2_with fail
  refine (put_any A1 A2 c1 c2 l ns w1 (R1.out.ext B1.out) (by omega) (R2.out.ext B1.out) (by omega) HW.out).mono ?_
  intro e w2 hret
  rw [← Hp.out] at hret
  obtain ⟨D8, e8, he, hr8, hb2, hf8⟩ := hret.all
  subst he
  rw [← HQ1.out] at hr8 hf8
  rw [← HQ1.out, ← HE1.out]
  have P8 := Lib.hid hr8
  have F8 := Lib.hid hf8
  have B2 := Lib.hid (B1.out.trans' hb2)
  clear hret hb2 hr8 hf8
  go_wp2_with fail
  refine (refPut_any A1 A2 c1 c2 l ns w2 (R1.out.ext B2.out) (by omega) (R2.out.ext B2.out) (by omega) HW.out).mono ?_
  intro e w3 hret
  rw [← Hp.out] at hret
  obtain ⟨D10, e10, he, hr10, hb3, hf10⟩ := hret.all
  subst he
  rw [← HQ1.out] at hr10 hf10
  rw [← HQ1.out, ← HE1.out]
  have P10 := Lib.hid hr10
  have F10 := Lib.hid hf10
  have X3 := Lib.hid hb3
  have B3 := Lib.hid (B2.out.trans' hb3)
  clear hret hb3 hr10 hf10
  go_wp2_with fail
  refine (take_any A1 c1 l w3 hlc (by omega) (R1.out.ext B3.out)).mono ?_
  intro e w4 hret
  rw [← Ht.out] at hret
  obtain ⟨D13, e13, he, hr13, hb4, hf13⟩ := hret.all
  subst he
  rw [← HQ2.out] at hr13 hf13
  rw [← HQ2.out, ← HE2.out, ← HN2.out]
  have P13 := Lib.hid hr13
  have F13 := Lib.hid hf13
  have X4 := Lib.hid hb4
  have B4 := Lib.hid (B3.out.trans' hb4)
  clear hret hb4 hr13 hf13
  go_wp2_with fail
  refine (refTake_any A1 c1 l w4 hlc (by omega) (R1.out.ext B4.out)).mono ?_
  intro e w5 hret
  rw [← Ht.out] at hret
  obtain ⟨D16, e16, he, hr16, hb5, hf16⟩ := hret.all
  subst he
  rw [← HQ2.out] at hr16 hf16
  rw [← HQ2.out, ← HE2.out, ← HN2.out]
  have P16 := Lib.hid hr16
  have F16 := Lib.hid hf16
  have X5 := Lib.hid hb5
  have B5 := Lib.hid (B4.out.trans' hb5)
  clear hret hb5 hr16 hf16
  go_wp2_with fail
  refine (takeText_any A1 c1 l w5 hlc (by omega) (R1.out.ext B5.out)).mono ?_
  intro e w6 hret
  rw [← Hx.out] at hret
  obtain ⟨D18, e18, D19, e19, he, hr18, hr19, hb6, hf18, hf19⟩ := hret.all
  subst he
  rw [← HQ3.out] at hr18 hf18
  rw [← HQ4.out] at hr19 hf19
  rw [← HQ3.out, ← HQ4.out, ← HE3.out]
  have P18 := Lib.hid hr18
  have P19 := Lib.hid hr19
  have F18 := Lib.hid hf18
  have F19 := Lib.hid hf19
  have X6 := Lib.hid hb6
  have B6 := Lib.hid (B5.out.trans' hb6)
  clear hret hb6 hr18 hr19 hf18 hf19
  go_wp2_with fail
  refine (refTakeText_any A1 c1 l w6 hlc (by omega) (R1.out.ext B6.out)).mono ?_
  intro e w7 hret
  rw [← Hx.out] at hret
  obtain ⟨D21, e21, D22, e22, he, hr21, hr22, hb7, hf21, hf22⟩ := hret.all
  subst he
  rw [← HQ3.out] at hr21 hf21
  rw [← HQ4.out] at hr22 hf22
  rw [← HQ3.out, ← HQ4.out, ← HE3.out]
  have P21 := Lib.hid hr21
  have P22 := Lib.hid hr22
  have F21 := Lib.hid hf21
  have F22 := Lib.hid hf22
  have B7 := Lib.hid (B6.out.trans' hb7)
  have Y6 := hb7
  have Y5 := X6.out.trans' Y6
  have Y4 := X5.out.trans' Y5
  have Y3 := X4.out.trans' Y4
  have Y2 := X3.out.trans' Y3
  have Z8 := Lib.hid (P8.out.ext Y2)
  have Z10 := Lib.hid (P10.out.ext Y3)
  have Z13 := Lib.hid (P13.out.ext Y4)
  have Z16 := Lib.hid (P16.out.ext Y5)
  have Z18 := Lib.hid (P18.out.ext Y6)
  have Z19 := Lib.hid (P19.out.ext Y6)
  have S1 := Lib.hid (R1.out.ext B7.out)
  have S2 := Lib.hid (R2.out.ext B7.out)
  have S3 := Lib.hid (R3.out.ext B7.out)
  clear hret hb7 hr21 hr22 hf21 hf22 Y2 Y3 Y4 Y5 Y6 P8 P10 P13 P16 P18 P19 X3 X4 X5 X6 R1 R2 R3 B1 B2 B3 B4 B5 B6
  obtain ⟨T, HT⟩ : ∃ T, Hid (T = Pack.text l t) := ⟨_, Lib.hid rfl⟩
  obtain ⟨L1, HL1⟩ : ∃ L1, Hid (L1 = l.length) := ⟨_, Lib.hid rfl⟩
  by_cases hn : ns.length = 0
  · have hn0 : ((ns.length : Int) == 0) = true := by rw [hn]; rfl
    clear hn
    go_wp2_with fail
    apply wp_region_inv _ 14 (Nat.le_refl _) (by kernel_rfl) (by kernel_rfl) (by kernel_rfl)
      [Is (.slice A2 ns.length c2), Is (.int .i64 (ns.length : Int)), Is (.bool true), Is (.bool true), Any, Any, Any, Any, Any, Any, Any, Any, Any, Is (.bool true), Is (.bool true)] (fun _ => True) (fun _ => false)
    case mono => exact ⟨Is.st _, Is.st _, Is.st _, Is.st _, Any.st, Any.st, Any.st, Any.st, Any.st, Any.st, Any.st, Any.st, Any.st, Is.st _, Is.st _, True.intro⟩
    case monoS => exact fun _ _ _ h => h
    case startS => exact True.intro
    case hF => intro u; simp only [fill, Nat.reduceAdd, List.setIfInBounds_toArray, List.set_cons_succ, List.set_cons_zero]; exact rfl
    case steps =>
      refine StepsAt.cons ?_ ?_
      · intro u w1 K hE hS hU hd hK hW
        go_simp
        exact hK _ _ (Below.refl _ _) rfl
      refine StepsAt.cons ?_ ?_
      · intro u w1 K hE hS hU hd hK hW
        have d0 : u 0 = (.slice A2 ns.length c2) := hd 0 rfl
        simp only [d0] at hK
        go_simp
        exact hK _ _ (Below.refl _ _) rfl
      refine StepsAt.cons ?_ ?_
      · intro u w1 K hE hS hU hd hK hW
        have d1 : u 1 = (.int .i64 (ns.length : Int)) := hd 1 rfl
        simp only [d1] at hK
        go_simp
        exact hK _ _ (Below.refl _ _) rfl
      refine StepsAt.cons ?_ ?_
      · intro u w1 K hE hS hU hd hK hW
        have d2 : u 2 = (.bool true) := hd 2 rfl
        simp only [d2] at hK
        go_simp
        exact hK _ _ (Below.refl _ _) rfl
      refine StepsAt.cons ?_ ?_
      · intro u w1 K hE hS hU hd hK hW
        have d3 : u 3 = (.bool true) := hd 3 rfl
        simp only [d3] at hK
        go_simp
        exact hK _ _ (Below.refl _ _) True.intro
      refine StepsAt.cons ?_ ?_
      · intro u w1 K hE hS hU hd hK hW
        have d3 : u 3 = (.bool true) := hd 3 rfl
        simp only [d3] at hK
        go_simp
        exact hK _ _ (Below.refl _ _) True.intro
      refine StepsAt.cons ?_ ?_
      · intro u w1 K hE hS hU hd hK hW
        have d3 : u 3 = (.bool true) := hd 3 rfl
        simp only [d3] at hK
        go_simp
        exact hK _ _ (Below.refl _ _) True.intro
      refine StepsAt.cons ?_ ?_
      · intro u w1 K hE hS hU hd hK hW
        have d3 : u 3 = (.bool true) := hd 3 rfl
        simp only [d3] at hK
        go_simp
        exact hK _ _ (Below.refl _ _) True.intro
      refine StepsAt.cons ?_ ?_
      · intro u w1 K hE hS hU hd hK hW
        have d3 : u 3 = (.bool true) := hd 3 rfl
        simp only [d3] at hK
        go_simp
        exact hK _ _ (Below.refl _ _) True.intro
      refine StepsAt.cons ?_ ?_
      · intro u w1 K hE hS hU hd hK hW
        have d3 : u 3 = (.bool true) := hd 3 rfl
        simp only [d3] at hK
        go_simp
        exact hK _ _ (Below.refl _ _) True.intro
      refine StepsAt.cons ?_ ?_
      · intro u w1 K hE hS hU hd hK hW
        have d3 : u 3 = (.bool true) := hd 3 rfl
        simp only [d3] at hK
        go_simp
        exact hK _ _ (Below.refl _ _) True.intro
      refine StepsAt.cons ?_ ?_
      · intro u w1 K hE hS hU hd hK hW
        have d3 : u 3 = (.bool true) := hd 3 rfl
        simp only [d3] at hK
        go_simp
        exact hK _ _ (Below.refl _ _) True.intro
      refine StepsAt.cons ?_ ?_
      · intro u w1 K hE hS hU hd hK hW
        have d3 : u 3 = (.bool true) := hd 3 rfl
        simp only [d3] at hK
        go_simp
        exact hK _ _ (Below.refl _ _) True.intro
      refine StepsAt.cons ?_ ?_
      · intro u w1 K hE hS hU hd hK hW
        have d3 : u 3 = (.bool true) := hd 3 rfl
        simp only [d3] at hK
        go_simp
        exact hK _ _ (Below.refl _ _) rfl
      refine StepsAt.cons ?_ ?_
      · intro u w1 K hE hS hU hd hK hW
        have d13 : u 13 = (.bool true) := hd 13 rfl
        simp only [d13] at hK
        go_simp
        exact hK _ _ (Below.refl _ _) rfl
      exact StepsAt.nil
    case fin =>
      intro u w9 hE9 hP
      have d14 : u 14 = (.bool true) := hP 14 (by decide) (by decide)
      simp only [d14]
      have HE0 := Lib.hid hE9
      clear hE9
      go_wp2_with fail
      apply wp_region_inv _ 63 (Nat.le_refl _) (by kernel_rfl) (by kernel_rfl) (by kernel_rfl)
        [Is (.bool true), Is (.bool true), Is (.bool true), Is (.bool true), Is (.bool true), IsBs Q1, Is (Str Q1), IsBs Q1, Is (Str Q1), Is (.bool true), Is (.bool true), Is (.bool true), Is (.int .i64 E1), Is (.int .i64 E1), Is (.bool true), Is (.bool true), Is (.bool true), Is (.int .i64 (N2 : Int)), Is (.int .i64 (N2 : Int)), Is (.bool true), Is (.bool true), Is (.bool true), IsBs Q2, Is (Str Q2), IsBs Q2, Is (Str Q2), Is (.bool true), Is (.bool true), Is (.bool true), Is (.int .i64 E2), Is (.int .i64 E2), Is (.bool true), Is (.bool true), Is (.bool true), IsBs Q3, Is (Str Q3), IsBs Q3, Is (Str Q3), Is (.bool true), Is (.bool true), Is (.bool true), IsBs Q4, Is (Str Q4), IsBs Q4, Is (Str Q4), Is (.bool true), Is (.bool true), Is (.bool true), Is (.int .i64 E3), Is (.int .i64 E3), Is (.bool true), Is (.bool true), Is (.bool true), Is (.slice A1 l.length c1), Is (.slice A3 t.length c3), IsBs T, Is (Str T), Is (.slice A1 l.length c1), Is (.slice A3 t.length c3), IsBs T, Is (Str T), Is (.bool true), Is (.bool true), Is (.bool true)] (fun _ => True) (fun _ => false)
      case mono => exact ⟨Is.st _, Is.st _, Is.st _, Is.st _, Is.st _, IsBs.st _, Is.st _, IsBs.st _, Is.st _, Is.st _, Is.st _, Is.st _, Is.st _, Is.st _, Is.st _, Is.st _, Is.st _, Is.st _, Is.st _, Is.st _, Is.st _, Is.st _, IsBs.st _, Is.st _, IsBs.st _, Is.st _, Is.st _, Is.st _, Is.st _, Is.st _, Is.st _, Is.st _, Is.st _, Is.st _, IsBs.st _, Is.st _, IsBs.st _, Is.st _, Is.st _, Is.st _, Is.st _, IsBs.st _, Is.st _, IsBs.st _, Is.st _, Is.st _, Is.st _, Is.st _, Is.st _, Is.st _, Is.st _, Is.st _, Is.st _, Is.st _, Is.st _, IsBs.st _, Is.st _, Is.st _, Is.st _, IsBs.st _, Is.st _, Is.st _, Is.st _, Is.st _, True.intro⟩
      case monoS => exact fun _ _ _ h => h
      case startS => exact True.intro
      case hF => intro u; simp only [fill, Nat.reduceAdd, List.setIfInBounds_toArray, List.set_cons_succ, List.set_cons_zero]; exact rfl
      case steps =>
        refine StepsAt.cons ?_ ?_
        · intro u w1 K hE hS hU hd hK hW
          go_simp
          exact hK _ _ (Below.refl _ _) rfl
        refine StepsAt.cons ?_ ?_
        · intro u w1 K hE hS hU hd hK hW
          have d0 : u 0 = (.bool true) := hd 0 rfl
          simp only [d0] at hK
          go_simp
          exact hK _ _ (Below.refl _ _) rfl
        refine StepsAt.cons ?_ ?_
        · intro u w1 K hE hS hU hd hK hW
          have d1 : u 1 = (.bool true) := hd 1 rfl
          simp only [d1] at hK
          go_simp
          exact hK _ _ (Below.refl _ _) rfl
        refine StepsAt.cons ?_ ?_
        · intro u w1 K hE hS hU hd hK hW
          have d1 : u 1 = (.bool true) := hd 1 rfl
          have d2 : u 2 = (.bool true) := hd 2 rfl
          simp only [d1, d2] at hK
          go_simp
          exact hK _ _ (Below.refl _ _) rfl
        refine StepsAt.cons ?_ ?_
        · intro u w1 K hE hS hU hd hK hW
          have d3 : u 3 = (.bool true) := hd 3 rfl
          simp only [d3] at hK
          go_simp
          exact hK _ _ (Below.refl _ _) rfl
        refine StepsAt.cons ?_ ?_
        · intro u w1 K hE hS hU hd hK hW
          have d4 : u 4 = (.bool true) := hd 4 rfl
          simp only [d4] at hK
          go_simp
          exact hK _ _ (Below.refl _ _) ⟨_, _, rfl, F8.out, Z8.out.ext (Ext.trans' HE0.out hE)⟩
        refine StepsAt.cons ?_ ?_
        · intro u w1 K hE hS hU hd hK hW
          have d4 : u 4 = (.bool true) := hd 4 rfl
          obtain ⟨A5, c5, d5, hc5, hr5⟩ : Bs w1 (u 5) Q1 := hd 5 rfl
          simp only [d4, d5] at hK
          have ht := run_text (P := Try.prog) (c := c5) Try.underlying22 Try.underlying5 Try.underlying9 hr5
          go_simp
          exact hK _ _ (Below.refl _ _) rfl
        refine StepsAt.cons ?_ ?_
        · intro u w1 K hE hS hU hd hK hW
          have d4 : u 4 = (.bool true) := hd 4 rfl
          simp only [d4] at hK
          go_simp
          exact hK _ _ (Below.refl _ _) ⟨_, _, rfl, F10.out, Z10.out.ext (Ext.trans' HE0.out hE)⟩
        refine StepsAt.cons ?_ ?_
        · intro u w1 K hE hS hU hd hK hW
          have d4 : u 4 = (.bool true) := hd 4 rfl
          obtain ⟨A7, c7, d7, hc7, hr7⟩ : Bs w1 (u 7) Q1 := hd 7 rfl
          simp only [d4, d7] at hK
          have ht := run_text (P := Try.prog) (c := c7) Try.underlying22 Try.underlying5 Try.underlying9 hr7
          go_simp
          exact hK _ _ (Below.refl _ _) rfl
        refine StepsAt.cons ?_ ?_
        · intro u w1 K hE hS hU hd hK hW
          have d4 : u 4 = (.bool true) := hd 4 rfl
          have d6 : u 6 = (Str Q1) := hd 6 rfl
          have d8 : u 8 = (Str Q1) := hd 8 rfl
          simp only [d4, d6, d8] at hK
          go_simp
          exact hK _ _ (Below.refl _ _) (congrArg Value.bool (beq_self_eq_true _))
        refine StepsAt.cons ?_ ?_
        · intro u w1 K hE hS hU hd hK hW
          have d4 : u 4 = (.bool true) := hd 4 rfl
          have d9 : u 9 = (.bool true) := hd 9 rfl
          simp only [d4, d9] at hK
          go_simp
          exact hK _ _ (Below.refl _ _) rfl
        refine StepsAt.cons ?_ ?_
        · intro u w1 K hE hS hU hd hK hW
          have d10 : u 10 = (.bool true) := hd 10 rfl
          simp only [d10] at hK
          go_simp
          exact hK _ _ (Below.refl _ _) rfl
        refine StepsAt.cons ?_ ?_
        · intro u w1 K hE hS hU hd hK hW
          have d11 : u 11 = (.bool true) := hd 11 rfl
          simp only [d11] at hK
          go_simp
          exact hK _ _ (Below.refl _ _) rfl
        refine StepsAt.cons ?_ ?_
        · intro u w1 K hE hS hU hd hK hW
          have d11 : u 11 = (.bool true) := hd 11 rfl
          simp only [d11] at hK
          go_simp
          exact hK _ _ (Below.refl _ _) rfl
        refine StepsAt.cons ?_ ?_
        · intro u w1 K hE hS hU hd hK hW
          have d11 : u 11 = (.bool true) := hd 11 rfl
          have d12 : u 12 = (.int .i64 E1) := hd 12 rfl
          have d13 : u 13 = (.int .i64 E1) := hd 13 rfl
          simp only [d11, d12, d13] at hK
          go_simp
          exact hK _ _ (Below.refl _ _) rfl
        refine StepsAt.cons ?_ ?_
        · intro u w1 K hE hS hU hd hK hW
          have d11 : u 11 = (.bool true) := hd 11 rfl
          have d14 : u 14 = (.bool true) := hd 14 rfl
          simp only [d11, d14] at hK
          go_simp
          exact hK _ _ (Below.refl _ _) rfl
        refine StepsAt.cons ?_ ?_
        · intro u w1 K hE hS hU hd hK hW
          have d15 : u 15 = (.bool true) := hd 15 rfl
          simp only [d15] at hK
          go_simp
          exact hK _ _ (Below.refl _ _) rfl
        refine StepsAt.cons ?_ ?_
        · intro u w1 K hE hS hU hd hK hW
          have d16 : u 16 = (.bool true) := hd 16 rfl
          simp only [d16] at hK
          go_simp
          exact hK _ _ (Below.refl _ _) rfl
        refine StepsAt.cons ?_ ?_
        · intro u w1 K hE hS hU hd hK hW
          have d16 : u 16 = (.bool true) := hd 16 rfl
          simp only [d16] at hK
          go_simp
          exact hK _ _ (Below.refl _ _) rfl
        refine StepsAt.cons ?_ ?_
        · intro u w1 K hE hS hU hd hK hW
          have d16 : u 16 = (.bool true) := hd 16 rfl
          have d17 : u 17 = (.int .i64 (N2 : Int)) := hd 17 rfl
          have d18 : u 18 = (.int .i64 (N2 : Int)) := hd 18 rfl
          simp only [d16, d17, d18] at hK
          go_simp
          exact hK _ _ (Below.refl _ _) rfl
        refine StepsAt.cons ?_ ?_
        · intro u w1 K hE hS hU hd hK hW
          have d16 : u 16 = (.bool true) := hd 16 rfl
          have d19 : u 19 = (.bool true) := hd 19 rfl
          simp only [d16, d19] at hK
          go_simp
          exact hK _ _ (Below.refl _ _) rfl
        refine StepsAt.cons ?_ ?_
        · intro u w1 K hE hS hU hd hK hW
          have d20 : u 20 = (.bool true) := hd 20 rfl
          simp only [d20] at hK
          go_simp
          exact hK _ _ (Below.refl _ _) rfl
        refine StepsAt.cons ?_ ?_
        · intro u w1 K hE hS hU hd hK hW
          have d21 : u 21 = (.bool true) := hd 21 rfl
          simp only [d21] at hK
          go_simp
          exact hK _ _ (Below.refl _ _) ⟨_, _, rfl, F13.out, Z13.out.ext (Ext.trans' HE0.out hE)⟩
        refine StepsAt.cons ?_ ?_
        · intro u w1 K hE hS hU hd hK hW
          have d21 : u 21 = (.bool true) := hd 21 rfl
          obtain ⟨A22, c22, d22, hc22, hr22⟩ : Bs w1 (u 22) Q2 := hd 22 rfl
          simp only [d21, d22] at hK
          have ht := run_text (P := Try.prog) (c := c22) Try.underlying22 Try.underlying5 Try.underlying9 hr22
          go_simp
          exact hK _ _ (Below.refl _ _) rfl
        refine StepsAt.cons ?_ ?_
        · intro u w1 K hE hS hU hd hK hW
          have d21 : u 21 = (.bool true) := hd 21 rfl
          simp only [d21] at hK
          go_simp
          exact hK _ _ (Below.refl _ _) ⟨_, _, rfl, F16.out, Z16.out.ext (Ext.trans' HE0.out hE)⟩
        refine StepsAt.cons ?_ ?_
        · intro u w1 K hE hS hU hd hK hW
          have d21 : u 21 = (.bool true) := hd 21 rfl
          obtain ⟨A24, c24, d24, hc24, hr24⟩ : Bs w1 (u 24) Q2 := hd 24 rfl
          simp only [d21, d24] at hK
          have ht := run_text (P := Try.prog) (c := c24) Try.underlying22 Try.underlying5 Try.underlying9 hr24
          go_simp
          exact hK _ _ (Below.refl _ _) rfl
        refine StepsAt.cons ?_ ?_
        · intro u w1 K hE hS hU hd hK hW
          have d21 : u 21 = (.bool true) := hd 21 rfl
          have d23 : u 23 = (Str Q2) := hd 23 rfl
          have d25 : u 25 = (Str Q2) := hd 25 rfl
          simp only [d21, d23, d25] at hK
          go_simp
          exact hK _ _ (Below.refl _ _) (congrArg Value.bool (beq_self_eq_true _))
        refine StepsAt.cons ?_ ?_
        · intro u w1 K hE hS hU hd hK hW
          have d21 : u 21 = (.bool true) := hd 21 rfl
          have d26 : u 26 = (.bool true) := hd 26 rfl
          simp only [d21, d26] at hK
          go_simp
          exact hK _ _ (Below.refl _ _) rfl
        refine StepsAt.cons ?_ ?_
        · intro u w1 K hE hS hU hd hK hW
          have d27 : u 27 = (.bool true) := hd 27 rfl
          simp only [d27] at hK
          go_simp
          exact hK _ _ (Below.refl _ _) rfl
        refine StepsAt.cons ?_ ?_
        · intro u w1 K hE hS hU hd hK hW
          have d28 : u 28 = (.bool true) := hd 28 rfl
          simp only [d28] at hK
          go_simp
          exact hK _ _ (Below.refl _ _) rfl
        refine StepsAt.cons ?_ ?_
        · intro u w1 K hE hS hU hd hK hW
          have d28 : u 28 = (.bool true) := hd 28 rfl
          simp only [d28] at hK
          go_simp
          exact hK _ _ (Below.refl _ _) rfl
        refine StepsAt.cons ?_ ?_
        · intro u w1 K hE hS hU hd hK hW
          have d28 : u 28 = (.bool true) := hd 28 rfl
          have d29 : u 29 = (.int .i64 E2) := hd 29 rfl
          have d30 : u 30 = (.int .i64 E2) := hd 30 rfl
          simp only [d28, d29, d30] at hK
          go_simp
          exact hK _ _ (Below.refl _ _) rfl
        refine StepsAt.cons ?_ ?_
        · intro u w1 K hE hS hU hd hK hW
          have d28 : u 28 = (.bool true) := hd 28 rfl
          have d31 : u 31 = (.bool true) := hd 31 rfl
          simp only [d28, d31] at hK
          go_simp
          exact hK _ _ (Below.refl _ _) rfl
        refine StepsAt.cons ?_ ?_
        · intro u w1 K hE hS hU hd hK hW
          have d32 : u 32 = (.bool true) := hd 32 rfl
          simp only [d32] at hK
          go_simp
          exact hK _ _ (Below.refl _ _) rfl
        refine StepsAt.cons ?_ ?_
        · intro u w1 K hE hS hU hd hK hW
          have d33 : u 33 = (.bool true) := hd 33 rfl
          simp only [d33] at hK
          go_simp
          exact hK _ _ (Below.refl _ _) ⟨_, _, rfl, F18.out, Z18.out.ext (Ext.trans' HE0.out hE)⟩
        refine StepsAt.cons ?_ ?_
        · intro u w1 K hE hS hU hd hK hW
          have d33 : u 33 = (.bool true) := hd 33 rfl
          obtain ⟨A34, c34, d34, hc34, hr34⟩ : Bs w1 (u 34) Q3 := hd 34 rfl
          simp only [d33, d34] at hK
          have ht := run_text (P := Try.prog) (c := c34) Try.underlying22 Try.underlying5 Try.underlying9 hr34
          go_simp
          exact hK _ _ (Below.refl _ _) rfl
        refine StepsAt.cons ?_ ?_
        · intro u w1 K hE hS hU hd hK hW
          have d33 : u 33 = (.bool true) := hd 33 rfl
          simp only [d33] at hK
          go_simp
          exact hK _ _ (Below.refl _ _) ⟨_, _, rfl, F21.out, P21.out.ext (Ext.trans' HE0.out hE)⟩
        refine StepsAt.cons ?_ ?_
        · intro u w1 K hE hS hU hd hK hW
          have d33 : u 33 = (.bool true) := hd 33 rfl
          obtain ⟨A36, c36, d36, hc36, hr36⟩ : Bs w1 (u 36) Q3 := hd 36 rfl
          simp only [d33, d36] at hK
          have ht := run_text (P := Try.prog) (c := c36) Try.underlying22 Try.underlying5 Try.underlying9 hr36
          go_simp
          exact hK _ _ (Below.refl _ _) rfl
        refine StepsAt.cons ?_ ?_
        · intro u w1 K hE hS hU hd hK hW
          have d33 : u 33 = (.bool true) := hd 33 rfl
          have d35 : u 35 = (Str Q3) := hd 35 rfl
          have d37 : u 37 = (Str Q3) := hd 37 rfl
          simp only [d33, d35, d37] at hK
          go_simp
          exact hK _ _ (Below.refl _ _) (congrArg Value.bool (beq_self_eq_true _))
        refine StepsAt.cons ?_ ?_
        · intro u w1 K hE hS hU hd hK hW
          have d33 : u 33 = (.bool true) := hd 33 rfl
          have d38 : u 38 = (.bool true) := hd 38 rfl
          simp only [d33, d38] at hK
          go_simp
          exact hK _ _ (Below.refl _ _) rfl
        refine StepsAt.cons ?_ ?_
        · intro u w1 K hE hS hU hd hK hW
          have d39 : u 39 = (.bool true) := hd 39 rfl
          simp only [d39] at hK
          go_simp
          exact hK _ _ (Below.refl _ _) rfl
        refine StepsAt.cons ?_ ?_
        · intro u w1 K hE hS hU hd hK hW
          have d40 : u 40 = (.bool true) := hd 40 rfl
          simp only [d40] at hK
          go_simp
          exact hK _ _ (Below.refl _ _) ⟨_, _, rfl, F19.out, Z19.out.ext (Ext.trans' HE0.out hE)⟩
        refine StepsAt.cons ?_ ?_
        · intro u w1 K hE hS hU hd hK hW
          have d40 : u 40 = (.bool true) := hd 40 rfl
          obtain ⟨A41, c41, d41, hc41, hr41⟩ : Bs w1 (u 41) Q4 := hd 41 rfl
          simp only [d40, d41] at hK
          have ht := run_text (P := Try.prog) (c := c41) Try.underlying22 Try.underlying5 Try.underlying9 hr41
          go_simp
          exact hK _ _ (Below.refl _ _) rfl
        refine StepsAt.cons ?_ ?_
        · intro u w1 K hE hS hU hd hK hW
          have d40 : u 40 = (.bool true) := hd 40 rfl
          simp only [d40] at hK
          go_simp
          exact hK _ _ (Below.refl _ _) ⟨_, _, rfl, F22.out, P22.out.ext (Ext.trans' HE0.out hE)⟩
        refine StepsAt.cons ?_ ?_
        · intro u w1 K hE hS hU hd hK hW
          have d40 : u 40 = (.bool true) := hd 40 rfl
          obtain ⟨A43, c43, d43, hc43, hr43⟩ : Bs w1 (u 43) Q4 := hd 43 rfl
          simp only [d40, d43] at hK
          have ht := run_text (P := Try.prog) (c := c43) Try.underlying22 Try.underlying5 Try.underlying9 hr43
          go_simp
          exact hK _ _ (Below.refl _ _) rfl
        refine StepsAt.cons ?_ ?_
        · intro u w1 K hE hS hU hd hK hW
          have d40 : u 40 = (.bool true) := hd 40 rfl
          have d42 : u 42 = (Str Q4) := hd 42 rfl
          have d44 : u 44 = (Str Q4) := hd 44 rfl
          simp only [d40, d42, d44] at hK
          go_simp
          exact hK _ _ (Below.refl _ _) (congrArg Value.bool (beq_self_eq_true _))
        refine StepsAt.cons ?_ ?_
        · intro u w1 K hE hS hU hd hK hW
          have d40 : u 40 = (.bool true) := hd 40 rfl
          have d45 : u 45 = (.bool true) := hd 45 rfl
          simp only [d40, d45] at hK
          go_simp
          exact hK _ _ (Below.refl _ _) rfl
        refine StepsAt.cons ?_ ?_
        · intro u w1 K hE hS hU hd hK hW
          have d46 : u 46 = (.bool true) := hd 46 rfl
          simp only [d46] at hK
          go_simp
          exact hK _ _ (Below.refl _ _) rfl
        refine StepsAt.cons ?_ ?_
        · intro u w1 K hE hS hU hd hK hW
          have d47 : u 47 = (.bool true) := hd 47 rfl
          simp only [d47] at hK
          go_simp
          exact hK _ _ (Below.refl _ _) rfl
        refine StepsAt.cons ?_ ?_
        · intro u w1 K hE hS hU hd hK hW
          have d47 : u 47 = (.bool true) := hd 47 rfl
          simp only [d47] at hK
          go_simp
          exact hK _ _ (Below.refl _ _) rfl
        refine StepsAt.cons ?_ ?_
        · intro u w1 K hE hS hU hd hK hW
          have d47 : u 47 = (.bool true) := hd 47 rfl
          have d48 : u 48 = (.int .i64 E3) := hd 48 rfl
          have d49 : u 49 = (.int .i64 E3) := hd 49 rfl
          simp only [d47, d48, d49] at hK
          go_simp
          exact hK _ _ (Below.refl _ _) rfl
        refine StepsAt.cons ?_ ?_
        · intro u w1 K hE hS hU hd hK hW
          have d47 : u 47 = (.bool true) := hd 47 rfl
          have d50 : u 50 = (.bool true) := hd 50 rfl
          simp only [d47, d50] at hK
          go_simp
          exact hK _ _ (Below.refl _ _) rfl
        refine StepsAt.cons ?_ ?_
        · intro u w1 K hE hS hU hd hK hW
          have d51 : u 51 = (.bool true) := hd 51 rfl
          simp only [d51] at hK
          go_simp
          exact hK _ _ (Below.refl _ _) rfl
        refine StepsAt.cons ?_ ?_
        · intro u w1 K hE hS hU hd hK hW
          have d52 : u 52 = (.bool true) := hd 52 rfl
          simp only [d52] at hK
          go_simp
          exact hK _ _ (Below.refl _ _) rfl
        refine StepsAt.cons ?_ ?_
        · intro u w1 K hE hS hU hd hK hW
          have d52 : u 52 = (.bool true) := hd 52 rfl
          simp only [d52] at hK
          go_simp
          exact hK _ _ (Below.refl _ _) rfl
        refine StepsAt.cons ?_ ?_
        · intro u w1 K hE hS hU hd hK hW
          have d52 : u 52 = (.bool true) := hd 52 rfl
          have d53 : u 53 = (.slice A1 l.length c1) := hd 53 rfl
          have d54 : u 54 = (.slice A3 t.length c3) := hd 54 rfl
          simp only [d52, d53, d54] at hK
          go_simp
          refine (text_any A1 A3 c1 c3 l t w1 (S1.out.ext (Ext.trans' HE0.out hE)) (by omega) (S3.out.ext (Ext.trans' HE0.out hE)) (by omega)).mono ?_
          rw [← HT.out]
          rintro e w2 ⟨v, rfl, hv, hb⟩
          exact hK _ _ hb hv.bs
        refine StepsAt.cons ?_ ?_
        · intro u w1 K hE hS hU hd hK hW
          have d52 : u 52 = (.bool true) := hd 52 rfl
          obtain ⟨A55, c55, d55, hc55, hr55⟩ : Bs w1 (u 55) T := hd 55 rfl
          simp only [d52, d55] at hK
          have ht := run_text (P := Try.prog) (c := c55) Try.underlying22 Try.underlying5 Try.underlying9 hr55
          go_simp
          exact hK _ _ (Below.refl _ _) rfl
        refine StepsAt.cons ?_ ?_
        · intro u w1 K hE hS hU hd hK hW
          have d52 : u 52 = (.bool true) := hd 52 rfl
          simp only [d52] at hK
          go_simp
          exact hK _ _ (Below.refl _ _) rfl
        refine StepsAt.cons ?_ ?_
        · intro u w1 K hE hS hU hd hK hW
          have d52 : u 52 = (.bool true) := hd 52 rfl
          simp only [d52] at hK
          go_simp
          exact hK _ _ (Below.refl _ _) rfl
        refine StepsAt.cons ?_ ?_
        · intro u w1 K hE hS hU hd hK hW
          have d52 : u 52 = (.bool true) := hd 52 rfl
          have d57 : u 57 = (.slice A1 l.length c1) := hd 57 rfl
          have d58 : u 58 = (.slice A3 t.length c3) := hd 58 rfl
          simp only [d52, d57, d58] at hK
          go_simp
          refine (refText_any A1 A3 c1 c3 l t w1 (S1.out.ext (Ext.trans' HE0.out hE)) (by omega) (S3.out.ext (Ext.trans' HE0.out hE)) (by omega)).mono ?_
          rw [← HT.out]
          rintro e w2 ⟨v, rfl, hv, hb⟩
          exact hK _ _ hb hv.bs
        refine StepsAt.cons ?_ ?_
        · intro u w1 K hE hS hU hd hK hW
          have d52 : u 52 = (.bool true) := hd 52 rfl
          obtain ⟨A59, c59, d59, hc59, hr59⟩ : Bs w1 (u 59) T := hd 59 rfl
          simp only [d52, d59] at hK
          have ht := run_text (P := Try.prog) (c := c59) Try.underlying22 Try.underlying5 Try.underlying9 hr59
          go_simp
          exact hK _ _ (Below.refl _ _) rfl
        refine StepsAt.cons ?_ ?_
        · intro u w1 K hE hS hU hd hK hW
          have d52 : u 52 = (.bool true) := hd 52 rfl
          have d56 : u 56 = (Str T) := hd 56 rfl
          have d60 : u 60 = (Str T) := hd 60 rfl
          simp only [d52, d56, d60] at hK
          go_simp
          exact hK _ _ (Below.refl _ _) (congrArg Value.bool (beq_self_eq_true _))
        refine StepsAt.cons ?_ ?_
        · intro u w1 K hE hS hU hd hK hW
          have d52 : u 52 = (.bool true) := hd 52 rfl
          have d61 : u 61 = (.bool true) := hd 61 rfl
          simp only [d52, d61] at hK
          go_simp
          exact hK _ _ (Below.refl _ _) rfl
        refine StepsAt.cons ?_ ?_
        · intro u w1 K hE hS hU hd hK hW
          have d62 : u 62 = (.bool true) := hd 62 rfl
          simp only [d62] at hK
          go_simp
          exact hK _ _ (Below.refl _ _) rfl
        exact StepsAt.nil
      case fin =>
        intro u w9 hE9 hP
        have d63 : u 63 = (.bool true) := hP 63 (by decide) (by decide)
        simp only [d63]
        go_wp2
        go_ret
        exact ⟨rfl, Ext.trans' B7.out (Ext.trans' HE0.out hE9)⟩
  · obtain ⟨ad, z, hA, hz, hcell⟩ := int_at S2.out (k := 0) (by omega)
    subst hA
    rw [add0] at hcell
    have hzb : z ≤ 9223372036854775807 := by rw [← hz]; exact HW.out _ (List.getElem_mem _)
    obtain ⟨s, hs1, hs2⟩ := size_both z hzb
    have HZ1 := Lib.hid hs1
    have HZ2 := Lib.hid hs2
    have HC := Lib.hid hcell
    clear hs1 hs2 hcell hz hzb
    have hn0 : ((ns.length : Int) == 0) = false := by rw [beq_eq_false_iff_ne]; omega
    have hpos : 0 < ns.length := by omega
    have hpos2 : (0 : Int) < (ns.length : Int) := by omega
    clear hn
    go_wp2_with fail
    apply wp_region_inv _ 14 (Nat.le_refl _) (by kernel_rfl) (by kernel_rfl) (by kernel_rfl)
      [Is (.slice (some ad) ns.length c2), Is (.int .i64 (ns.length : Int)), Is (.bool false), Is (.bool false), Is (.slice (some ad) ns.length c2), Is (.pointer (some ad)), Is (.int .i64 z), Is (.int .i64 s), Is (.slice (some ad) ns.length c2), Is (.pointer (some ad)), Is (.int .i64 z), Is (.int .i64 s), Is (.bool true), Is (.bool true), Is (.bool true)] (fun _ => True) (fun _ => false)
    case mono => exact ⟨Is.st _, Is.st _, Is.st _, Is.st _, Is.st _, Is.st _, Is.st _, Is.st _, Is.st _, Is.st _, Is.st _, Is.st _, Is.st _, Is.st _, Is.st _, True.intro⟩
    case monoS => exact fun _ _ _ h => h
    case startS => exact True.intro
    case hF => intro u; simp only [fill, Nat.reduceAdd, List.setIfInBounds_toArray, List.set_cons_succ, List.set_cons_zero]; exact rfl
    case steps =>
      refine StepsAt.cons ?_ ?_
      · intro u w1 K hE hS hU hd hK hW
        go_simp
        exact hK _ _ (Below.refl _ _) rfl
      refine StepsAt.cons ?_ ?_
      · intro u w1 K hE hS hU hd hK hW
        have d0 : u 0 = (.slice (some ad) ns.length c2) := hd 0 rfl
        simp only [d0] at hK
        go_simp
        exact hK _ _ (Below.refl _ _) rfl
      refine StepsAt.cons ?_ ?_
      · intro u w1 K hE hS hU hd hK hW
        have d1 : u 1 = (.int .i64 (ns.length : Int)) := hd 1 rfl
        simp only [d1] at hK
        go_simp
        exact hK _ _ (Below.refl _ _) rfl
      refine StepsAt.cons ?_ ?_
      · intro u w1 K hE hS hU hd hK hW
        have d2 : u 2 = (.bool false) := hd 2 rfl
        simp only [d2] at hK
        go_simp
        exact hK _ _ (Below.refl _ _) rfl
      refine StepsAt.cons ?_ ?_
      · intro u w1 K hE hS hU hd hK hW
        have d3 : u 3 = (.bool false) := hd 3 rfl
        simp only [d3] at hK
        go_simp
        exact hK _ _ (Below.refl _ _) rfl
      refine StepsAt.cons ?_ ?_
      · intro u w1 K hE hS hU hd hK hW
        have d3 : u 3 = (.bool false) := hd 3 rfl
        have d4 : u 4 = (.slice (some ad) ns.length c2) := hd 4 rfl
        simp only [d3, d4] at hK
        go_simp
        exact hK _ _ (Below.refl _ _) rfl
      refine StepsAt.cons ?_ ?_
      · intro u w1 K hE hS hU hd hK hW
        have d3 : u 3 = (.bool false) := hd 3 rfl
        have d5 : u 5 = (.pointer (some ad)) := hd 5 rfl
        simp only [d3, d5] at hK
        have q := Ext.cellAt hE HC.out
        go_simp
        exact hK _ _ (Below.refl _ _) rfl
      refine StepsAt.cons ?_ ?_
      · intro u w1 K hE hS hU hd hK hW
        have d3 : u 3 = (.bool false) := hd 3 rfl
        have d6 : u 6 = (.int .i64 z) := hd 6 rfl
        simp only [d3, d6] at hK
        go_simp
        refine (HZ1.out w1).mono ?_
        rintro e w2 ⟨rfl, hb⟩
        exact hK _ _ hb rfl
      refine StepsAt.cons ?_ ?_
      · intro u w1 K hE hS hU hd hK hW
        have d3 : u 3 = (.bool false) := hd 3 rfl
        simp only [d3] at hK
        go_simp
        exact hK _ _ (Below.refl _ _) rfl
      refine StepsAt.cons ?_ ?_
      · intro u w1 K hE hS hU hd hK hW
        have d3 : u 3 = (.bool false) := hd 3 rfl
        have d8 : u 8 = (.slice (some ad) ns.length c2) := hd 8 rfl
        simp only [d3, d8] at hK
        go_simp
        exact hK _ _ (Below.refl _ _) rfl
      refine StepsAt.cons ?_ ?_
      · intro u w1 K hE hS hU hd hK hW
        have d3 : u 3 = (.bool false) := hd 3 rfl
        have d9 : u 9 = (.pointer (some ad)) := hd 9 rfl
        simp only [d3, d9] at hK
        have q := Ext.cellAt hE HC.out
        go_simp
        exact hK _ _ (Below.refl _ _) rfl
      refine StepsAt.cons ?_ ?_
      · intro u w1 K hE hS hU hd hK hW
        have d3 : u 3 = (.bool false) := hd 3 rfl
        have d10 : u 10 = (.int .i64 z) := hd 10 rfl
        simp only [d3, d10] at hK
        go_simp
        refine (HZ2.out w1).mono ?_
        rintro e w2 ⟨rfl, hb⟩
        exact hK _ _ hb rfl
      refine StepsAt.cons ?_ ?_
      · intro u w1 K hE hS hU hd hK hW
        have d3 : u 3 = (.bool false) := hd 3 rfl
        have d7 : u 7 = (.int .i64 s) := hd 7 rfl
        have d11 : u 11 = (.int .i64 s) := hd 11 rfl
        simp only [d3, d7, d11] at hK
        go_simp
        exact hK _ _ (Below.refl _ _) rfl
      refine StepsAt.cons ?_ ?_
      · intro u w1 K hE hS hU hd hK hW
        have d3 : u 3 = (.bool false) := hd 3 rfl
        have d12 : u 12 = (.bool true) := hd 12 rfl
        simp only [d3, d12] at hK
        go_simp
        exact hK _ _ (Below.refl _ _) rfl
      refine StepsAt.cons ?_ ?_
      · intro u w1 K hE hS hU hd hK hW
        have d13 : u 13 = (.bool true) := hd 13 rfl
        simp only [d13] at hK
        go_simp
        exact hK _ _ (Below.refl _ _) rfl
      exact StepsAt.nil
    case fin =>
      intro u w9 hE9 hP
      have d14 : u 14 = (.bool true) := hP 14 (by decide) (by decide)
      simp only [d14]
      have HE0 := Lib.hid hE9
      clear hE9
      go_wp2_with fail
      apply wp_region_inv _ 63 (Nat.le_refl _) (by kernel_rfl) (by kernel_rfl) (by kernel_rfl)
        [Is (.bool true), Is (.bool true), Is (.bool true), Is (.bool true), Is (.bool true), IsBs Q1, Is (Str Q1), IsBs Q1, Is (Str Q1), Is (.bool true), Is (.bool true), Is (.bool true), Is (.int .i64 E1), Is (.int .i64 E1), Is (.bool true), Is (.bool true), Is (.bool true), Is (.int .i64 (N2 : Int)), Is (.int .i64 (N2 : Int)), Is (.bool true), Is (.bool true), Is (.bool true), IsBs Q2, Is (Str Q2), IsBs Q2, Is (Str Q2), Is (.bool true), Is (.bool true), Is (.bool true), Is (.int .i64 E2), Is (.int .i64 E2), Is (.bool true), Is (.bool true), Is (.bool true), IsBs Q3, Is (Str Q3), IsBs Q3, Is (Str Q3), Is (.bool true), Is (.bool true), Is (.bool true), IsBs Q4, Is (Str Q4), IsBs Q4, Is (Str Q4), Is (.bool true), Is (.bool true), Is (.bool true), Is (.int .i64 E3), Is (.int .i64 E3), Is (.bool true), Is (.bool true), Is (.bool true), Is (.slice A1 l.length c1), Is (.slice A3 t.length c3), IsBs T, Is (Str T), Is (.slice A1 l.length c1), Is (.slice A3 t.length c3), IsBs T, Is (Str T), Is (.bool true), Is (.bool true), Is (.bool true)] (fun _ => True) (fun _ => false)
      case mono => exact ⟨Is.st _, Is.st _, Is.st _, Is.st _, Is.st _, IsBs.st _, Is.st _, IsBs.st _, Is.st _, Is.st _, Is.st _, Is.st _, Is.st _, Is.st _, Is.st _, Is.st _, Is.st _, Is.st _, Is.st _, Is.st _, Is.st _, Is.st _, IsBs.st _, Is.st _, IsBs.st _, Is.st _, Is.st _, Is.st _, Is.st _, Is.st _, Is.st _, Is.st _, Is.st _, Is.st _, IsBs.st _, Is.st _, IsBs.st _, Is.st _, Is.st _, Is.st _, Is.st _, IsBs.st _, Is.st _, IsBs.st _, Is.st _, Is.st _, Is.st _, Is.st _, Is.st _, Is.st _, Is.st _, Is.st _, Is.st _, Is.st _, Is.st _, IsBs.st _, Is.st _, Is.st _, Is.st _, IsBs.st _, Is.st _, Is.st _, Is.st _, Is.st _, True.intro⟩
      case monoS => exact fun _ _ _ h => h
      case startS => exact True.intro
      case hF => intro u; simp only [fill, Nat.reduceAdd, List.setIfInBounds_toArray, List.set_cons_succ, List.set_cons_zero]; exact rfl
      case steps =>
        refine StepsAt.cons ?_ ?_
        · intro u w1 K hE hS hU hd hK hW
          go_simp
          exact hK _ _ (Below.refl _ _) rfl
        refine StepsAt.cons ?_ ?_
        · intro u w1 K hE hS hU hd hK hW
          have d0 : u 0 = (.bool true) := hd 0 rfl
          simp only [d0] at hK
          go_simp
          exact hK _ _ (Below.refl _ _) rfl
        refine StepsAt.cons ?_ ?_
        · intro u w1 K hE hS hU hd hK hW
          have d1 : u 1 = (.bool true) := hd 1 rfl
          simp only [d1] at hK
          go_simp
          exact hK _ _ (Below.refl _ _) rfl
        refine StepsAt.cons ?_ ?_
        · intro u w1 K hE hS hU hd hK hW
          have d1 : u 1 = (.bool true) := hd 1 rfl
          have d2 : u 2 = (.bool true) := hd 2 rfl
          simp only [d1, d2] at hK
          go_simp
          exact hK _ _ (Below.refl _ _) rfl
        refine StepsAt.cons ?_ ?_
        · intro u w1 K hE hS hU hd hK hW
          have d3 : u 3 = (.bool true) := hd 3 rfl
          simp only [d3] at hK
          go_simp
          exact hK _ _ (Below.refl _ _) rfl
        refine StepsAt.cons ?_ ?_
        · intro u w1 K hE hS hU hd hK hW
          have d4 : u 4 = (.bool true) := hd 4 rfl
          simp only [d4] at hK
          go_simp
          exact hK _ _ (Below.refl _ _) ⟨_, _, rfl, F8.out, Z8.out.ext (Ext.trans' HE0.out hE)⟩
        refine StepsAt.cons ?_ ?_
        · intro u w1 K hE hS hU hd hK hW
          have d4 : u 4 = (.bool true) := hd 4 rfl
          obtain ⟨A5, c5, d5, hc5, hr5⟩ : Bs w1 (u 5) Q1 := hd 5 rfl
          simp only [d4, d5] at hK
          have ht := run_text (P := Try.prog) (c := c5) Try.underlying22 Try.underlying5 Try.underlying9 hr5
          go_simp
          exact hK _ _ (Below.refl _ _) rfl
        refine StepsAt.cons ?_ ?_
        · intro u w1 K hE hS hU hd hK hW
          have d4 : u 4 = (.bool true) := hd 4 rfl
          simp only [d4] at hK
          go_simp
          exact hK _ _ (Below.refl _ _) ⟨_, _, rfl, F10.out, Z10.out.ext (Ext.trans' HE0.out hE)⟩
        refine StepsAt.cons ?_ ?_
        · intro u w1 K hE hS hU hd hK hW
          have d4 : u 4 = (.bool true) := hd 4 rfl
          obtain ⟨A7, c7, d7, hc7, hr7⟩ : Bs w1 (u 7) Q1 := hd 7 rfl
          simp only [d4, d7] at hK
          have ht := run_text (P := Try.prog) (c := c7) Try.underlying22 Try.underlying5 Try.underlying9 hr7
          go_simp
          exact hK _ _ (Below.refl _ _) rfl
        refine StepsAt.cons ?_ ?_
        · intro u w1 K hE hS hU hd hK hW
          have d4 : u 4 = (.bool true) := hd 4 rfl
          have d6 : u 6 = (Str Q1) := hd 6 rfl
          have d8 : u 8 = (Str Q1) := hd 8 rfl
          simp only [d4, d6, d8] at hK
          go_simp
          exact hK _ _ (Below.refl _ _) (congrArg Value.bool (beq_self_eq_true _))
        refine StepsAt.cons ?_ ?_
        · intro u w1 K hE hS hU hd hK hW
          have d4 : u 4 = (.bool true) := hd 4 rfl
          have d9 : u 9 = (.bool true) := hd 9 rfl
          simp only [d4, d9] at hK
          go_simp
          exact hK _ _ (Below.refl _ _) rfl
        refine StepsAt.cons ?_ ?_
        · intro u w1 K hE hS hU hd hK hW
          have d10 : u 10 = (.bool true) := hd 10 rfl
          simp only [d10] at hK
          go_simp
          exact hK _ _ (Below.refl _ _) rfl
        refine StepsAt.cons ?_ ?_
        · intro u w1 K hE hS hU hd hK hW
          have d11 : u 11 = (.bool true) := hd 11 rfl
          simp only [d11] at hK
          go_simp
          exact hK _ _ (Below.refl _ _) rfl
        refine StepsAt.cons ?_ ?_
        · intro u w1 K hE hS hU hd hK hW
          have d11 : u 11 = (.bool true) := hd 11 rfl
          simp only [d11] at hK
          go_simp
          exact hK _ _ (Below.refl _ _) rfl
        refine StepsAt.cons ?_ ?_
        · intro u w1 K hE hS hU hd hK hW
          have d11 : u 11 = (.bool true) := hd 11 rfl
          have d12 : u 12 = (.int .i64 E1) := hd 12 rfl
          have d13 : u 13 = (.int .i64 E1) := hd 13 rfl
          simp only [d11, d12, d13] at hK
          go_simp
          exact hK _ _ (Below.refl _ _) rfl
        refine StepsAt.cons ?_ ?_
        · intro u w1 K hE hS hU hd hK hW
          have d11 : u 11 = (.bool true) := hd 11 rfl
          have d14 : u 14 = (.bool true) := hd 14 rfl
          simp only [d11, d14] at hK
          go_simp
          exact hK _ _ (Below.refl _ _) rfl
        refine StepsAt.cons ?_ ?_
        · intro u w1 K hE hS hU hd hK hW
          have d15 : u 15 = (.bool true) := hd 15 rfl
          simp only [d15] at hK
          go_simp
          exact hK _ _ (Below.refl _ _) rfl
        refine StepsAt.cons ?_ ?_
        · intro u w1 K hE hS hU hd hK hW
          have d16 : u 16 = (.bool true) := hd 16 rfl
          simp only [d16] at hK
          go_simp
          exact hK _ _ (Below.refl _ _) rfl
        refine StepsAt.cons ?_ ?_
        · intro u w1 K hE hS hU hd hK hW
          have d16 : u 16 = (.bool true) := hd 16 rfl
          simp only [d16] at hK
          go_simp
          exact hK _ _ (Below.refl _ _) rfl
        refine StepsAt.cons ?_ ?_
        · intro u w1 K hE hS hU hd hK hW
          have d16 : u 16 = (.bool true) := hd 16 rfl
          have d17 : u 17 = (.int .i64 (N2 : Int)) := hd 17 rfl
          have d18 : u 18 = (.int .i64 (N2 : Int)) := hd 18 rfl
          simp only [d16, d17, d18] at hK
          go_simp
          exact hK _ _ (Below.refl _ _) rfl
        refine StepsAt.cons ?_ ?_
        · intro u w1 K hE hS hU hd hK hW
          have d16 : u 16 = (.bool true) := hd 16 rfl
          have d19 : u 19 = (.bool true) := hd 19 rfl
          simp only [d16, d19] at hK
          go_simp
          exact hK _ _ (Below.refl _ _) rfl
        refine StepsAt.cons ?_ ?_
        · intro u w1 K hE hS hU hd hK hW
          have d20 : u 20 = (.bool true) := hd 20 rfl
          simp only [d20] at hK
          go_simp
          exact hK _ _ (Below.refl _ _) rfl
        refine StepsAt.cons ?_ ?_
        · intro u w1 K hE hS hU hd hK hW
          have d21 : u 21 = (.bool true) := hd 21 rfl
          simp only [d21] at hK
          go_simp
          exact hK _ _ (Below.refl _ _) ⟨_, _, rfl, F13.out, Z13.out.ext (Ext.trans' HE0.out hE)⟩
        refine StepsAt.cons ?_ ?_
        · intro u w1 K hE hS hU hd hK hW
          have d21 : u 21 = (.bool true) := hd 21 rfl
          obtain ⟨A22, c22, d22, hc22, hr22⟩ : Bs w1 (u 22) Q2 := hd 22 rfl
          simp only [d21, d22] at hK
          have ht := run_text (P := Try.prog) (c := c22) Try.underlying22 Try.underlying5 Try.underlying9 hr22
          go_simp
          exact hK _ _ (Below.refl _ _) rfl
        refine StepsAt.cons ?_ ?_
        · intro u w1 K hE hS hU hd hK hW
          have d21 : u 21 = (.bool true) := hd 21 rfl
          simp only [d21] at hK
          go_simp
          exact hK _ _ (Below.refl _ _) ⟨_, _, rfl, F16.out, Z16.out.ext (Ext.trans' HE0.out hE)⟩
        refine StepsAt.cons ?_ ?_
        · intro u w1 K hE hS hU hd hK hW
          have d21 : u 21 = (.bool true) := hd 21 rfl
          obtain ⟨A24, c24, d24, hc24, hr24⟩ : Bs w1 (u 24) Q2 := hd 24 rfl
          simp only [d21, d24] at hK
          have ht := run_text (P := Try.prog) (c := c24) Try.underlying22 Try.underlying5 Try.underlying9 hr24
          go_simp
          exact hK _ _ (Below.refl _ _) rfl
        refine StepsAt.cons ?_ ?_
        · intro u w1 K hE hS hU hd hK hW
          have d21 : u 21 = (.bool true) := hd 21 rfl
          have d23 : u 23 = (Str Q2) := hd 23 rfl
          have d25 : u 25 = (Str Q2) := hd 25 rfl
          simp only [d21, d23, d25] at hK
          go_simp
          exact hK _ _ (Below.refl _ _) (congrArg Value.bool (beq_self_eq_true _))
        refine StepsAt.cons ?_ ?_
        · intro u w1 K hE hS hU hd hK hW
          have d21 : u 21 = (.bool true) := hd 21 rfl
          have d26 : u 26 = (.bool true) := hd 26 rfl
          simp only [d21, d26] at hK
          go_simp
          exact hK _ _ (Below.refl _ _) rfl
        refine StepsAt.cons ?_ ?_
        · intro u w1 K hE hS hU hd hK hW
          have d27 : u 27 = (.bool true) := hd 27 rfl
          simp only [d27] at hK
          go_simp
          exact hK _ _ (Below.refl _ _) rfl
        refine StepsAt.cons ?_ ?_
        · intro u w1 K hE hS hU hd hK hW
          have d28 : u 28 = (.bool true) := hd 28 rfl
          simp only [d28] at hK
          go_simp
          exact hK _ _ (Below.refl _ _) rfl
        refine StepsAt.cons ?_ ?_
        · intro u w1 K hE hS hU hd hK hW
          have d28 : u 28 = (.bool true) := hd 28 rfl
          simp only [d28] at hK
          go_simp
          exact hK _ _ (Below.refl _ _) rfl
        refine StepsAt.cons ?_ ?_
        · intro u w1 K hE hS hU hd hK hW
          have d28 : u 28 = (.bool true) := hd 28 rfl
          have d29 : u 29 = (.int .i64 E2) := hd 29 rfl
          have d30 : u 30 = (.int .i64 E2) := hd 30 rfl
          simp only [d28, d29, d30] at hK
          go_simp
          exact hK _ _ (Below.refl _ _) rfl
        refine StepsAt.cons ?_ ?_
        · intro u w1 K hE hS hU hd hK hW
          have d28 : u 28 = (.bool true) := hd 28 rfl
          have d31 : u 31 = (.bool true) := hd 31 rfl
          simp only [d28, d31] at hK
          go_simp
          exact hK _ _ (Below.refl _ _) rfl
        refine StepsAt.cons ?_ ?_
        · intro u w1 K hE hS hU hd hK hW
          have d32 : u 32 = (.bool true) := hd 32 rfl
          simp only [d32] at hK
          go_simp
          exact hK _ _ (Below.refl _ _) rfl
        refine StepsAt.cons ?_ ?_
        · intro u w1 K hE hS hU hd hK hW
          have d33 : u 33 = (.bool true) := hd 33 rfl
          simp only [d33] at hK
          go_simp
          exact hK _ _ (Below.refl _ _) ⟨_, _, rfl, F18.out, Z18.out.ext (Ext.trans' HE0.out hE)⟩
        refine StepsAt.cons ?_ ?_
        · intro u w1 K hE hS hU hd hK hW
          have d33 : u 33 = (.bool true) := hd 33 rfl
          obtain ⟨A34, c34, d34, hc34, hr34⟩ : Bs w1 (u 34) Q3 := hd 34 rfl
          simp only [d33, d34] at hK
          have ht := run_text (P := Try.prog) (c := c34) Try.underlying22 Try.underlying5 Try.underlying9 hr34
          go_simp
          exact hK _ _ (Below.refl _ _) rfl
        refine StepsAt.cons ?_ ?_
        · intro u w1 K hE hS hU hd hK hW
          have d33 : u 33 = (.bool true) := hd 33 rfl
          simp only [d33] at hK
          go_simp
          exact hK _ _ (Below.refl _ _) ⟨_, _, rfl, F21.out, P21.out.ext (Ext.trans' HE0.out hE)⟩
        refine StepsAt.cons ?_ ?_
        · intro u w1 K hE hS hU hd hK hW
          have d33 : u 33 = (.bool true) := hd 33 rfl
          obtain ⟨A36, c36, d36, hc36, hr36⟩ : Bs w1 (u 36) Q3 := hd 36 rfl
          simp only [d33, d36] at hK
          have ht := run_text (P := Try.prog) (c := c36) Try.underlying22 Try.underlying5 Try.underlying9 hr36
          go_simp
          exact hK _ _ (Below.refl _ _) rfl
        refine StepsAt.cons ?_ ?_
        · intro u w1 K hE hS hU hd hK hW
          have d33 : u 33 = (.bool true) := hd 33 rfl
          have d35 : u 35 = (Str Q3) := hd 35 rfl
          have d37 : u 37 = (Str Q3) := hd 37 rfl
          simp only [d33, d35, d37] at hK
          go_simp
          exact hK _ _ (Below.refl _ _) (congrArg Value.bool (beq_self_eq_true _))
        refine StepsAt.cons ?_ ?_
        · intro u w1 K hE hS hU hd hK hW
          have d33 : u 33 = (.bool true) := hd 33 rfl
          have d38 : u 38 = (.bool true) := hd 38 rfl
          simp only [d33, d38] at hK
          go_simp
          exact hK _ _ (Below.refl _ _) rfl
        refine StepsAt.cons ?_ ?_
        · intro u w1 K hE hS hU hd hK hW
          have d39 : u 39 = (.bool true) := hd 39 rfl
          simp only [d39] at hK
          go_simp
          exact hK _ _ (Below.refl _ _) rfl
        refine StepsAt.cons ?_ ?_
        · intro u w1 K hE hS hU hd hK hW
          have d40 : u 40 = (.bool true) := hd 40 rfl
          simp only [d40] at hK
          go_simp
          exact hK _ _ (Below.refl _ _) ⟨_, _, rfl, F19.out, Z19.out.ext (Ext.trans' HE0.out hE)⟩
        refine StepsAt.cons ?_ ?_
        · intro u w1 K hE hS hU hd hK hW
          have d40 : u 40 = (.bool true) := hd 40 rfl
          obtain ⟨A41, c41, d41, hc41, hr41⟩ : Bs w1 (u 41) Q4 := hd 41 rfl
          simp only [d40, d41] at hK
          have ht := run_text (P := Try.prog) (c := c41) Try.underlying22 Try.underlying5 Try.underlying9 hr41
          go_simp
          exact hK _ _ (Below.refl _ _) rfl
        refine StepsAt.cons ?_ ?_
        · intro u w1 K hE hS hU hd hK hW
          have d40 : u 40 = (.bool true) := hd 40 rfl
          simp only [d40] at hK
          go_simp
          exact hK _ _ (Below.refl _ _) ⟨_, _, rfl, F22.out, P22.out.ext (Ext.trans' HE0.out hE)⟩
        refine StepsAt.cons ?_ ?_
        · intro u w1 K hE hS hU hd hK hW
          have d40 : u 40 = (.bool true) := hd 40 rfl
          obtain ⟨A43, c43, d43, hc43, hr43⟩ : Bs w1 (u 43) Q4 := hd 43 rfl
          simp only [d40, d43] at hK
          have ht := run_text (P := Try.prog) (c := c43) Try.underlying22 Try.underlying5 Try.underlying9 hr43
          go_simp
          exact hK _ _ (Below.refl _ _) rfl
        refine StepsAt.cons ?_ ?_
        · intro u w1 K hE hS hU hd hK hW
          have d40 : u 40 = (.bool true) := hd 40 rfl
          have d42 : u 42 = (Str Q4) := hd 42 rfl
          have d44 : u 44 = (Str Q4) := hd 44 rfl
          simp only [d40, d42, d44] at hK
          go_simp
          exact hK _ _ (Below.refl _ _) (congrArg Value.bool (beq_self_eq_true _))
        refine StepsAt.cons ?_ ?_
        · intro u w1 K hE hS hU hd hK hW
          have d40 : u 40 = (.bool true) := hd 40 rfl
          have d45 : u 45 = (.bool true) := hd 45 rfl
          simp only [d40, d45] at hK
          go_simp
          exact hK _ _ (Below.refl _ _) rfl
        refine StepsAt.cons ?_ ?_
        · intro u w1 K hE hS hU hd hK hW
          have d46 : u 46 = (.bool true) := hd 46 rfl
          simp only [d46] at hK
          go_simp
          exact hK _ _ (Below.refl _ _) rfl
        refine StepsAt.cons ?_ ?_
        · intro u w1 K hE hS hU hd hK hW
          have d47 : u 47 = (.bool true) := hd 47 rfl
          simp only [d47] at hK
          go_simp
          exact hK _ _ (Below.refl _ _) rfl
        refine StepsAt.cons ?_ ?_
        · intro u w1 K hE hS hU hd hK hW
          have d47 : u 47 = (.bool true) := hd 47 rfl
          simp only [d47] at hK
          go_simp
          exact hK _ _ (Below.refl _ _) rfl
        refine StepsAt.cons ?_ ?_
        · intro u w1 K hE hS hU hd hK hW
          have d47 : u 47 = (.bool true) := hd 47 rfl
          have d48 : u 48 = (.int .i64 E3) := hd 48 rfl
          have d49 : u 49 = (.int .i64 E3) := hd 49 rfl
          simp only [d47, d48, d49] at hK
          go_simp
          exact hK _ _ (Below.refl _ _) rfl
        refine StepsAt.cons ?_ ?_
        · intro u w1 K hE hS hU hd hK hW
          have d47 : u 47 = (.bool true) := hd 47 rfl
          have d50 : u 50 = (.bool true) := hd 50 rfl
          simp only [d47, d50] at hK
          go_simp
          exact hK _ _ (Below.refl _ _) rfl
        refine StepsAt.cons ?_ ?_
        · intro u w1 K hE hS hU hd hK hW
          have d51 : u 51 = (.bool true) := hd 51 rfl
          simp only [d51] at hK
          go_simp
          exact hK _ _ (Below.refl _ _) rfl
        refine StepsAt.cons ?_ ?_
        · intro u w1 K hE hS hU hd hK hW
          have d52 : u 52 = (.bool true) := hd 52 rfl
          simp only [d52] at hK
          go_simp
          exact hK _ _ (Below.refl _ _) rfl
        refine StepsAt.cons ?_ ?_
        · intro u w1 K hE hS hU hd hK hW
          have d52 : u 52 = (.bool true) := hd 52 rfl
          simp only [d52] at hK
          go_simp
          exact hK _ _ (Below.refl _ _) rfl
        refine StepsAt.cons ?_ ?_
        · intro u w1 K hE hS hU hd hK hW
          have d52 : u 52 = (.bool true) := hd 52 rfl
          have d53 : u 53 = (.slice A1 l.length c1) := hd 53 rfl
          have d54 : u 54 = (.slice A3 t.length c3) := hd 54 rfl
          simp only [d52, d53, d54] at hK
          go_simp
          refine (text_any A1 A3 c1 c3 l t w1 (S1.out.ext (Ext.trans' HE0.out hE)) (by omega) (S3.out.ext (Ext.trans' HE0.out hE)) (by omega)).mono ?_
          rw [← HT.out]
          rintro e w2 ⟨v, rfl, hv, hb⟩
          exact hK _ _ hb hv.bs
        refine StepsAt.cons ?_ ?_
        · intro u w1 K hE hS hU hd hK hW
          have d52 : u 52 = (.bool true) := hd 52 rfl
          obtain ⟨A55, c55, d55, hc55, hr55⟩ : Bs w1 (u 55) T := hd 55 rfl
          simp only [d52, d55] at hK
          have ht := run_text (P := Try.prog) (c := c55) Try.underlying22 Try.underlying5 Try.underlying9 hr55
          go_simp
          exact hK _ _ (Below.refl _ _) rfl
        refine StepsAt.cons ?_ ?_
        · intro u w1 K hE hS hU hd hK hW
          have d52 : u 52 = (.bool true) := hd 52 rfl
          simp only [d52] at hK
          go_simp
          exact hK _ _ (Below.refl _ _) rfl
        refine StepsAt.cons ?_ ?_
        · intro u w1 K hE hS hU hd hK hW
          have d52 : u 52 = (.bool true) := hd 52 rfl
          simp only [d52] at hK
          go_simp
          exact hK _ _ (Below.refl _ _) rfl
        refine StepsAt.cons ?_ ?_
        · intro u w1 K hE hS hU hd hK hW
          have d52 : u 52 = (.bool true) := hd 52 rfl
          have d57 : u 57 = (.slice A1 l.length c1) := hd 57 rfl
          have d58 : u 58 = (.slice A3 t.length c3) := hd 58 rfl
          simp only [d52, d57, d58] at hK
          go_simp
          refine (refText_any A1 A3 c1 c3 l t w1 (S1.out.ext (Ext.trans' HE0.out hE)) (by omega) (S3.out.ext (Ext.trans' HE0.out hE)) (by omega)).mono ?_
          rw [← HT.out]
          rintro e w2 ⟨v, rfl, hv, hb⟩
          exact hK _ _ hb hv.bs
        refine StepsAt.cons ?_ ?_
        · intro u w1 K hE hS hU hd hK hW
          have d52 : u 52 = (.bool true) := hd 52 rfl
          obtain ⟨A59, c59, d59, hc59, hr59⟩ : Bs w1 (u 59) T := hd 59 rfl
          simp only [d52, d59] at hK
          have ht := run_text (P := Try.prog) (c := c59) Try.underlying22 Try.underlying5 Try.underlying9 hr59
          go_simp
          exact hK _ _ (Below.refl _ _) rfl
        refine StepsAt.cons ?_ ?_
        · intro u w1 K hE hS hU hd hK hW
          have d52 : u 52 = (.bool true) := hd 52 rfl
          have d56 : u 56 = (Str T) := hd 56 rfl
          have d60 : u 60 = (Str T) := hd 60 rfl
          simp only [d52, d56, d60] at hK
          go_simp
          exact hK _ _ (Below.refl _ _) (congrArg Value.bool (beq_self_eq_true _))
        refine StepsAt.cons ?_ ?_
        · intro u w1 K hE hS hU hd hK hW
          have d52 : u 52 = (.bool true) := hd 52 rfl
          have d61 : u 61 = (.bool true) := hd 61 rfl
          simp only [d52, d61] at hK
          go_simp
          exact hK _ _ (Below.refl _ _) rfl
        refine StepsAt.cons ?_ ?_
        · intro u w1 K hE hS hU hd hK hW
          have d62 : u 62 = (.bool true) := hd 62 rfl
          simp only [d62] at hK
          go_simp
          exact hK _ _ (Below.refl _ _) rfl
        exact StepsAt.nil
      case fin =>
        intro u w9 hE9 hP
        have d63 : u 63 = (.bool true) := hP 63 (by decide) (by decide)
        simp only [d63]
        go_wp2
        go_ret
        exact ⟨rfl, Ext.trans' B7.out (Ext.trans' HE0.out hE9)⟩

end Go.Proofs.Ytpalnlcjhpkkpaa
