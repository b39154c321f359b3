/-
  Frames: the document's All; two lists of bytes that are the same; a list of few.
-/
import Derived.Test.YtjcngipaeoegcaaFrame7
import Derived.Test.YtjcngipaeoegcaaFrame8
import Derived.Test.YtjcngipaeoegcaaNoB
namespace Go.Proofs.Ytjcngipaeoegcaa
open Go.RowKit

/-- Each of the values reads as its list. -/
def BsL (w : World) (vs : List Value) (ls : List (List UInt8)) : Prop := vs.length = ls.length ∧ ∀ (j : Nat) u x, vs[j]? = some u → ls[j]? = some x → Bs w u x
theorem BsL.nil (w : World) : BsL w [] [] := ⟨rfl, fun j u x h => by simp at h⟩
theorem BsL.ext {w w' : World} {vs : List Value} {ls : List (List UInt8)} (h : BsL w vs ls) (he : Ext w w') : BsL w' vs ls := ⟨h.1, fun j u x hu hx => (h.2 j u x hu hx).ext he⟩
theorem BsL.noB {w w' : World} {v : Value} {vs : List Value} {ls : List (List UInt8)} (h : BsL w vs ls) (hn : NoB w v) (hg : w.grownBy w' v.ownBlock) : BsL w' vs ls := ⟨h.1, fun j u x hu hx => (h.2 j u x hu hx).noB hn hg⟩
theorem BsL.snoc {w : World} {vs : List Value} {ls : List (List UInt8)} (h : BsL w vs ls) {u : Value} {x : List UInt8} (hu : Bs w u x) : BsL w (vs ++ [u]) (ls ++ [x]) := by
  obtain ⟨hl, h⟩ := h
  refine ⟨by simp [hl], fun j u' x' h1 h2 => ?_⟩
  rcases Nat.lt_trichotomy j vs.length with hj | hj | hj
  · rw [List.getElem?_append_left hj] at h1
    rw [List.getElem?_append_left (by omega)] at h2
    exact h j u' x' h1 h2
  · subst hj
    rw [List.getElem?_append_right (Nat.le_refl _)] at h1
    rw [List.getElem?_append_right (by omega), hl] at h2
    simp at h1 h2
    subst h1
    subst h2
    exact hu
  · rw [List.getElem?_eq_none (by simp; omega)] at h1
    cases h1
theorem BsL.slices {w : World} {vs : List Value} {ls : List (List UInt8)} (h : BsL w vs ls) : ∀ y ∈ vs, ∀ x, y ≠ B8 x := by
  intro y hy x e
  obtain ⟨j, hj, rfl⟩ := List.mem_iff_getElem.1 hy
  obtain ⟨A, c, e2, _⟩ := h.2 j _ _ (List.getElem?_eq_getElem hj) (List.getElem?_eq_getElem (by rw [← h.1]; exact hj))
  rw [e2] at e
  cases e
theorem BsL.ls {w : World} {D n c : Nat} {A : Option Addr} {vs : List Value} {ls : List (List UInt8)} (h : BsL w vs ls) (ho : w.ownsRow D 22 1 (.slice A n c) n vs) : Ls w A ls := ⟨vs, h.1, ownsRow_row ho, h.2⟩

theorem st52 : SlTy Try.prog 27 22 := ⟨Try.underlying27, info_parts (show (Try.prog.info? 22).map (fun i => (i.zero, i.size, i.bytes)) = some (some (.slice none 0 0), 1, 24) by kernel_rfl) |>.elim fun i h => ⟨i, _, h.1, h.2.1, h.2.2.1, h.2.2.2, by decide⟩⟩

set_option maxHeartbeats 2000000 in
set_option maxRecDepth 100000 in
theorem refFall_any (A : Option Addr) (c : Nat) (b : List UInt8) (w : World) (hlc : b.length ≤ c) (hb : b.length ≤ 100000000) (hr : Row w A (b.map B8)) :
    Calls Try.prog 54 #[.slice A b.length c] w fun e w' => ∃ A' c', e = .returned (.tuple #[.slice A' (Frame.all b).1.length c', .int .i64 ((b.length : Int) - ((Frame.all b).2.length : Int))]) ∧ (Frame.all b).1.length ≤ c' ∧ Ls w' A' (Frame.all b).1 ∧ Ext w w' := by
  have HR := Lib.hid hr
  clear hr
  go_enter Try.func54, Try.ntmps54
  go_wp2_with fail
  go_loopw [4, 5] (fun v nn wr => ∃ (ps : List (List UInt8)) (vs : List Value) (Av : Option Addr) (cv k : Nat), v = .slice Av ps.length cv ∧ nn = .int .i64 (k : Int) ∧ k ≤ b.length ∧ Frame.all b = (ps ++ (Frame.all (b.drop k)).1, (Frame.all (b.drop k)).2) ∧
    wr.ownsRow w.heap.size 22 1 (.slice Av ps.length cv) ps.length vs ∧ BsL wr vs ps ∧ NoB wr (.slice Av ps.length cv) ∧ Ext w wr) (fun _ n _ => b.length - (intOf n).toNat)
  case atStart => exact ⟨[], [], none, 0, 0, rfl, rfl, Nat.zero_le _, by simp, World.ownsRow_nil _ _ _ _, BsL.nil _, NoB.nil _ _ _, Below.refl _ _⟩
  case round =>
    obtain ⟨ps, vs, Av, cv, k, rfl, rfl, hk, hall, hown, hels, hnb, hE⟩ := hrel
    have hcut := fun w => run_cut A b.length c k hk (k : Int) rfl w
    have hrow := (HR.out.ext hE).cut (k := k) (cap := c) (by rw [List.length_map]; exact hlc)
    obtain ⟨A2, HA2⟩ : ∃ A2, Hid (A2 = if c = k then A else A.map (·.add k)) := ⟨_, Lib.hid rfl⟩
    rw [← HA2.out] at hcut hrow
    rw [← List.map_drop] at hrow
    obtain ⟨X, HX⟩ : ∃ X, Hid (X = b.drop k) := ⟨_, Lib.hid rfl⟩
    rw [← HX.out] at hrow hall
    have HXl := Lib.hid (show X.length = b.length - k by rw [HX.out, List.length_drop])
    have HC := refFtake_any A2 (c - k) X wr (by rw [HXl.out]; omega) (by rw [HXl.out]; omega) hrow
    rw [HXl.out] at HC
    have hki : (k : Int) ≤ (c : Int) := by omega
    have HALL := Lib.hid hall
    have HOWN := Lib.hid hown
    have HELS := Lib.hid hels
    have HNB := Lib.hid hnb
    have HE := Lib.hid hE
    clear hrow hall hown hels hnb hE
    cases ht : Frame.take X with
    | none =>
      rw [ht] at HC
      have HC := Lib.hid HC
      go_wp2_with fail
      refine HC.out.mono ?_
      intro e w1 ⟨hb1, he⟩
      simp only at he
      subst he
      go_wp2_with fail
      go_ret2
      have hall := HALL.out
      rw [Frame.all_none ht] at hall
      simp only [List.append_nil] at hall
      rw [hall, show ((b.length : Int) - (X.length : Int)) = (k : Int) by rw [HXl.out]; omega]
      obtain ⟨A9, c9, he9, hc9⟩ := ownsRow_shape HOWN.out
      injection he9 with _ _ he9
      subst he9
      exact ⟨Av, cv, rfl, hc9, (HELS.out.ext hb1).ls (ownsRow_ext HOWN.out hb1), HE.out.trans' hb1⟩
    | some pr =>
      obtain ⟨p, r⟩ := pr
      rw [ht] at HC
      have HC := Lib.hid HC
      obtain ⟨hXe, hpl⟩ := Frame.take_own _ _ _ ht
      have hXL : X.length = (Frame.frame p).length + r.length := by rw [hXe, List.length_append]
      obtain ⟨m, Hm⟩ : ∃ m, Hid (m = (Frame.frame p).length) := ⟨_, Lib.hid rfl⟩
      have hkm : k + m ≤ b.length := by have := HXl.out; rw [Hm.out]; omega
      have hm1 : 1 ≤ m := by rw [Hm.out, Frame.frame_length]; omega
      have Hrd := Lib.hid (show b.drop (k + m) = r by
        rw [← List.drop_drop, ← HX.out, hXe, Hm.out, List.drop_left])
      have hmany : ps.length + 1 ≤ 100000000000 := by
        have := (Frame.all_few b).1
        rw [HALL.out, Frame.all_some ht] at this
        simp only [List.length_append, List.length_cons] at this
        omega
      have hwm := wrap_nat (k + m) (by omega)
      have HT := Lib.hid ht
      clear hXe hXL ht
      go_wp2_with fail
      refine HC.out.mono ?_
      rintro e w1 ⟨hb1, v1, v2, rfl, ⟨A6, c6, hv1, hc6, hr6⟩, ⟨A7, c7, hv2, hc7, hr7⟩⟩
      subst hv1
      subst hv2
      have HP := Lib.hid (show Bs w1 (.slice A6 p.length c6) p from ⟨A6, c6, rfl, hc6, hr6⟩)
      have HO1 := Lib.hid (ownsRow_ext HOWN.out hb1)
      have HL1 := Lib.hid (HELS.out.ext hb1)
      have HN1 := Lib.hid (HNB.out.ext (fun g hg => (World.ownsRow.lt HOWN.out g hg).2) hb1)
      have HE1 := Lib.hid (HE.out.trans' hb1)
      have hb1s := HE1.out.size
      clear hr7 hc7
      go_wp2_with (at_builtin; go_must (refine wpList_append_noB st52 rfl (.tmp 21) (.tmp 23) rfl (HO1.out.alloc _) HL1.out.slices (HN1.out.ext (fun g hg => (World.ownsRow.lt HO1.out g hg).2) (Ext.a1 _ _)) rfl rfl (Boxed.new _ _ _).cell rfl (by intro x h; cases h) hmany (by simp; omega) ?_); intro A3 c3 w3 hown3 hg3 hnb3; have HNa := HN1.out.ext (fun g hg => (World.ownsRow.lt HO1.out g hg).2) (Ext.a1 w1 (.cells #[.slice A6 p.length c6] 22)); have HO3 := Lib.hid hown3; have HN3 := Lib.hid hnb3; have HL3 := Lib.hid (((HL1.out.ext (Ext.a1 _ _)).noB HNa hg3).snoc ((HP.out.ext (Ext.a1 _ _)).noB HNa hg3)); have HP3 := (HP.out.ext (Ext.a1 _ _)).noB HNa hg3; have HE3 := Lib.hid (Below.grown (HE1.out.alloc' _) hg3 (by simp; omega) (fun g e => (World.ownsRow.lt HO1.out g e).1)); clear hown3 hg3 hnb3 HNa; obtain ⟨A8, c8, he8, hc8, hr8⟩ := HP3; injection he8 with he8 _ he9; subst he8; subst he9)
      refine (refOne_any A6 c6 p w3 (by omega) hr8).mono ?_
      intro e w4 ⟨v4, he, hown4, hb4⟩
      subst he
      obtain ⟨A4, c4, hv, hc4⟩ := hown4.shape
      subst hv
      rw [show (Frame.sealed (Pack.text [] p)).length = m by rw [Hm.out]; rfl]
      clear hown4 hc4 hr8
      go_wp2_with fail
      go_roundw
      case rel =>
        refine ⟨ps ++ [p], vs ++ [Value.slice A6 p.length c6], A3, c3, k + m, by simp, by go_num, hkm, ?_, by rw [List.length_append]; exact ownsRow_ext HO3.out hb4, HL3.out.ext hb4, ?_, Ext.trans' HE3.out hb4⟩
        · rw [Hrd.out, HALL.out, Frame.all_some HT.out]; simp
        · rw [List.length_append]; exact HN3.out.ext (fun g hg => (World.ownsRow.lt HO3.out g hg).2) hb4
      case measure => simp [intOf]; omega

end Go.Proofs.Ytjcngipaeoegcaa
