/-
  The walk of FrameBack.
-/
import Derived.Test.YtpalnlcjhpkkpaaFCuts
import Derived.Test.YtpalnlcjhpkkpaaInRows
namespace Go.Proofs.Ytpalnlcjhpkkpaa
open Go.RowKit

theorem InLs.parts {w : World} {A : Option Addr} {ls : List (List UInt8)} (h : InLs w A ls) : ∃ vs : List Value, vs.length = ls.length ∧ Row w A vs ∧ Elems w w.heap.size vs ls := by
  obtain ⟨vs, hl, hr, hb⟩ := h
  exact ⟨vs, hl, hr, fun j u x hu hx => ⟨(hb j u x hu hx).1, fun g hne hg => .inl ((hb j u x hu hx).2 g hne hg)⟩⟩
theorem Elems.one {w : World} {B : Nat} {vs : List Value} {ls : List (List UInt8)} (h : Elems w B vs ls) (hl : vs.length = ls.length) : ∀ u ∈ vs, u.oneCell' = true := by
  intro y hy
  obtain ⟨j, hj, rfl⟩ := List.mem_iff_getElem.1 hy
  obtain ⟨⟨A, c, e2, _⟩, _⟩ := h j _ _ (List.getElem?_eq_getElem hj) (List.getElem?_eq_getElem (by rw [← hl]; exact hj))
  rw [e2]
  rfl
theorem ls_two {w : World} {B1 B2 D n c : Nat} {A : Option Addr} {v1 v2 : List Value} {l1 l2 : List (List UInt8)} (h1 : Elems w B1 v1 l1) (h2 : Elems w B2 v2 l2) (e1 : v1.length = l1.length) (e2 : v2.length = l2.length)
    (ho : w.ownsRow D 22 1 (.slice A n c) n (v1 ++ v2)) : Ls w A (l1 ++ l2) := by
  refine ⟨v1 ++ v2, by simp [e1, e2], ownsRow_row ho, fun j u x hu hx => ?_⟩
  rcases Nat.lt_or_ge j v1.length with hj | hj
  · rw [List.getElem?_append_left hj] at hu
    rw [List.getElem?_append_left (by omega)] at hx
    exact (h1 j u x hu hx).1
  · rw [List.getElem?_append_right hj] at hu
    rw [List.getElem?_append_right (by omega), ← e1] at hx
    exact (h2 _ u x hu hx).1

theorem frameBack_few (A1 A2 : Option Addr) (n2 c1 c2 : Nat) (l : List (List UInt8)) (w : World) (hm : l.length ≤ 9223372036854775807) (h1 : Ls w A1 l) (h : few l = false ∨ 1000 < n2) :
    Calls Try.prog 14 #[.slice A1 l.length c1, .slice A2 n2 c2] w fun e w' => e = .returned (.bool true) ∧ Ext w w' := by
  have H1 := Lib.hid h1
  clear h1
  have HF := Lib.hid (fun w => few_any A1 c1 l w hm)
  cases hf : few l with
  | false =>
    rw [hf] at HF
    clear h
    go_enter Try.func14, Try.ntmps14
    go_wp2_with first | (go_at_call 34; refine (awake6_any _).mono ?_; rintro e w1 ⟨rfl, hb1⟩) | (go_at_call 42; refine (HF.out w1 (H1.out.ext hb1)).mono ?_; rintro e w2 ⟨rfl, hb2⟩)
    go_ret
    exact ⟨rfl, hb1.trans' hb2⟩
  | true =>
    rw [hf] at HF
    have hl : 1000 < n2 := by
      rcases h with h | h
      · rw [hf] at h; cases h
      · exact h
    have hd : decide ((1000 : Int) < (n2 : Int)) = true := by simp; omega
    clear h
    go_enter Try.func14, Try.ntmps14
    go_wp2_with first | (go_at_call 34; refine (awake6_any _).mono ?_; rintro e w1 ⟨rfl, hb1⟩) | (go_at_call 42; refine (HF.out w1 (H1.out.ext hb1)).mono ?_; rintro e w2 ⟨rfl, hb2⟩)
    go_ret
    exact ⟨rfl, hb1.trans' hb2⟩

set_option maxHeartbeats 4000000 in
set_option maxRecDepth 100000 in
theorem frameBack_any (A1 A2 : Option Addr) (c1 c2 : Nat) (l : List (List UInt8)) (b2 : List UInt8) (w : World) (hc2 : b2.length ≤ c2) (hf : few l = true) (hb2 : b2.length ≤ 1000) (h1 : InLs w A1 l) (h2 : Row w A2 (b2.map B8)) :
    Calls Try.prog 14 #[.slice A1 l.length c1, .slice A2 b2.length c2] w fun e w' => e = .returned (.bool true) ∧ Ext w w' := by
  obtain ⟨hx, hn⟩ := few_all hf
  have HI := Lib.hid h1
  have H1 := Lib.hid h1.ls
  have H2 := Lib.hid h2
  clear h1 h2
  have HF := Lib.hid (fun w => few_any A1 c1 l w (by omega))
  rw [hf] at HF
  have hd2 : decide ((1000 : Int) < (b2.length : Int)) = false := by simp; omega
  have HX := Lib.hid hx
  clear hx hf
  go_enter Try.func14, Try.ntmps14
  go_wp2_with first | (go_at_call 34; refine (awake6_any _).mono ?_; rintro e w1 ⟨rfl, hb1⟩) | (go_at_call 42; refine (HF.out w1 (H1.out.ext hb1)).mono ?_; rintro e w2 ⟨rfl, hb2⟩)
  have B2 := Lib.hid (Ext.trans' hb1 hb2)
  clear hb1 hb2
  go_loopw [6, 7] (fun b i wr => ∃ k : Nat, k ≤ l.length ∧ i = .int .i64 (k : Int) ∧ ∃ A c X, b = .slice A X.length c ∧ X.length ≤ c ∧ Own wr w.heap.size (.slice A X.length c) X ∧ X = Frame.frames (l.take k) ∧ Ext w wr) (fun _ i _ => l.length - (intOf i).toNat)
  case atStart => exact ⟨0, Nat.zero_le _, rfl, none, 0, [], rfl, Nat.le_refl _, Own.nil _ _, by simp [Frame.frames], B2.out⟩
  case round =>
    obtain ⟨k, hk, rfl, A, c, X, rfl, hXc, hown, hX, hE⟩ := hrel
    have HO := Lib.hid hown
    have HE := Lib.hid hE
    have HXe := Lib.hid hX
    have hsz := hE.size
    clear hown hE hX
    have hXl : X.length ≤ 1100 * 100 := by
      rw [HXe.out]
      have := frames_small (l := l.take k) (fun x hx => HX.out x (List.mem_of_mem_take hx))
      rw [List.length_take] at this
      have : min k l.length ≤ 100 := by omega
      omega
    by_cases hlt : k < l.length
    · obtain ⟨ad1, v1, rfl, hc1', hb1⟩ := (H1.out.ext HE.out).at_ hlt
      obtain ⟨p, hp⟩ : ∃ p, p = l[k] := ⟨_, rfl⟩
      have hpl : p.length ≤ 1000 := by rw [hp]; exact HX.out _ (List.getElem_mem hlt)
      rw [← hp] at hb1
      obtain ⟨B1, d1, hv1, hd1, hr1⟩ := hb1
      subst hv1
      have HP := fput_any A B1 c d1 X p wr (by omega) (by omega) HO.out.row hr1
      rw [show Frame.put X p = some (X ++ Frame.frame p) by unfold Frame.put; rw [if_neg (by omega)]; rfl] at HP
      have HP := Lib.hid HP
      have HS := Lib.hid (show X ++ Frame.frame p = Frame.frames (l.take (k + 1)) by rw [List.take_succ_eq_append_getElem hlt, Frame.frames_snoc, ← HXe.out, ← hp])
      obtain ⟨Y, HY⟩ : ∃ Y, Hid (Y = X ++ Frame.frame p) := ⟨_, Lib.hid rfl⟩
      rw [← HY.out] at HP HS
      have hki : (k : Int) < (l.length : Int) := by omega
      clear hp hr1
      go_wp2_with fail
      refine HP.out.mono ?_
      rintro e w3 ⟨hb3, v, rfl, hO3⟩
      obtain ⟨A3, c3, hv, hc3⟩ := hO3.shape
      subst hv
      have HO3 := Lib.hid (hO3.mono hsz)
      have HE3 := Lib.hid (HE.out.trans' hb3)
      clear hO3 hb3
      go_wp2_with fail
      go_roundw
      case rel => exact ⟨k + 1, by omega, by go_num, A3, c3, Y, rfl, hc3, HO3.out, HS.out, HE3.out⟩
      case measure => simp [intOf]; omega
    · obtain rfl : k = l.length := by omega
      rw [List.take_length] at HXe
      obtain ⟨ls2, Hls2⟩ : ∃ ls2, Hid (ls2 = (Frame.all b2).1) := ⟨_, Lib.hid rfl⟩
      obtain ⟨rl, Hrl⟩ : ∃ rl, Hid (rl = (Frame.all b2).2.length) := ⟨_, Lib.hid rfl⟩
      have hrl : rl ≤ b2.length := by rw [Hrl.out]; exact Frame.all_rest b2
      have hmore := (Frame.all_few b2).1
      rw [← Hls2.out] at hmore
      obtain ⟨kk, Hkk⟩ : ∃ kk : Nat, Hid (kk = b2.length - rl) := ⟨_, Lib.hid rfl⟩
      have hkk : (b2.length : Int) - (rl : Int) = (kk : Int) := by rw [Hkk.out]; omega
      have hkkb : kk ≤ 1000 := by rw [Hkk.out]; omega
      obtain ⟨sz, Hsz⟩ : ∃ sz, Hid (X.length = sz) := ⟨_, Lib.hid rfl⟩
      rw [Hsz.out] at hXl hXc HO ⊢
      have HALL := Lib.hid (show Frame.all (X ++ b2) = (l ++ ls2, (Frame.all b2).2) by
        rw [HXe.out, Frame.all_frames _ _ (fun x hx => Nat.le_trans (HX.out x hx) (by omega)), Hls2.out])
      have HN := Lib.hid (show ((sz + b2.length : Nat) : Int) - (((Frame.all b2).2.length : Nat) : Int) = (sz : Int) + (kk : Int) by rw [← Hrl.out, Hkk.out]; omega)
      clear hlt
      go_wp2_with fail
      have HQ := fall_any A2 c2 b2 wr hc2 (by omega) (H2.out.ext HE.out)
      rw [← Hls2.out, ← Hrl.out, hkk] at HQ
      refine HQ.mono ?_
      clear HQ
      intro e w3 ⟨v3, he, hl3, hb3⟩
      obtain ⟨B3, d3, hv, hd3⟩ := hl3.shape
      subst hv
      subst he
      have HL3 := Lib.hid hl3
      have HE3 := Lib.hid (HE.out.trans' hb3)
      have HO3 := Lib.hid (HO.out.ext hb3)
      have hb3s := hb3.size
      clear hl3 hb3 hd3
      go_wp2_with first
        | (at_builtin; refine wpList_append_bytes_keep (l := []) (l2 := X) (m := sz) (B := w3.heap.size) rt22 rfl (.tmp 51) (.tmp 52) rfl (Own.new w3 w3.heap.size (Nat.le_refl _) [] 0 rfl (by simp) #[] rfl) rfl rfl Hsz.out (HO3.out.ext (Ext.a1 w3 _)).row (by simp; omega) (by simp) ?_; intro A4 c4 w4 hown4 _ hg4; have hb4 := (Own.new w3 w3.heap.size (Nat.le_refl _) [] 0 rfl (by simp) #[] rfl).below hg4 (Ext.a1 w3 _) (by simp) (Nat.le_refl _); simp only [List.length_nil, Nat.zero_add, List.nil_append] at hown4; have HO4 := Lib.hid hown4; have HB4 := Lib.hid hb4; clear hown4 hg4 hb4; simp only [List.length_nil, Nat.zero_add])
        | (at_builtin; refine wpList_append_bytes_keep (l := X) (l2 := b2) (m := b2.length) rt22 rfl (.tmp 53) (.tmp 54) rfl HO4.out rfl rfl rfl (H2.out.ext (HE3.out.trans' HB4.out)) (by rw [Hsz.out]; omega) HB4.out.size ?_; intro A5 c5 w5 hown5 _ hg5; have hb5 := HO4.out.below hg5 HB4.out HB4.out.size (Nat.le_refl _); rw [Hsz.out] at hown5 ⊢; have HO5 := Lib.hid hown5; have HB5 := Lib.hid hb5; clear hown5 hg5 hb5)
      obtain ⟨LL, HLL⟩ : ∃ LL, Hid (LL = l ++ ls2) := ⟨_, Lib.hid rfl⟩
      obtain ⟨nL, HnL⟩ : ∃ nL, Hid (LL.length = nL) := ⟨_, Lib.hid rfl⟩
      have HnS := Lib.hid (show l.length + ls2.length = nL by rw [← HnL.out, HLL.out, List.length_append])
      have HnB := Lib.hid (show nL ≤ 100000000 by rw [← HnS.out]; omega)
      have HXY := Lib.hid (show (X ++ b2).length = sz + b2.length by rw [List.length_append, Hsz.out])
      have HQ := fall_any A5 c5 (X ++ b2) w5 (by obtain ⟨Ax, cx, ex, hx⟩ := HO5.out.shape; injection ex with _ ex1 ex2; rw [ex2]; exact hx) (by rw [HXY.out]; omega) HO5.out.row
      rw [HALL.out, HXY.out, HN.out, ← HLL.out] at HQ
      refine HQ.mono ?_
      clear HQ
      intro e w6 ⟨v6, he, hl6, hb6⟩
      obtain ⟨B6, d6, hv, hd6⟩ := hl6.shape
      subst hv
      subst he
      rw [HnL.out] at hl6 ⊢
      have HE6 := Lib.hid ((HE3.out.trans' HB5.out).trans' hb6)
      have HL6 := Lib.hid hl6.ls
      obtain ⟨vs1, hv1, hr1, he1⟩ := HI.out.parts
      obtain ⟨vs2, ho2, he2⟩ := HL3.out
      have hE36 : Ext w3 w6 := Ext.trans' HB5.out hb6
      have HV1 := Lib.hid hv1
      have HV2 := Lib.hid (show vs2.length = ls2.length by have := ho2.1; omega)
      have HR1 := Lib.hid (hr1.ext HE6.out)
      have HR2 := Lib.hid ((ownsRow_row ho2).ext hE36)
      have HEL1 := Lib.hid (he1.ext HE6.out)
      have HEL2 := Lib.hid (he2.ext hE36)
      have hs6 := HE6.out.size
      have hwr : wr.heap.size ≤ w6.heap.size := Nat.le_trans hb3s hE36.size
      clear hl6 hb6 hd6 hv1 hr1 he1 ho2 he2 hE36
      have hmade := World.ownsRow_made (base := w6.heap.size) (e := 22) (size := 1) w6 #[] 0 (Nat.le_refl _) (by simp [maxLen]) rfl
      have HMD := Lib.hid hmade
      clear hmade
      go_wp2_with first
        | (at_builtin; refine wpList_append_some (news := vs1) (m := l.length) (base := w6.heap.size) rt52 rfl (.tmp 69) (.tmp 70) rfl HMD.out rfl rfl HV1.out (HR1.out.ext (Ext.a1 w6 _)) (HEL1.out.one HV1.out) (by simp; omega) (by simp) ?_; intro A7 c7 w7 hown7 hg7 _; have ht7 := Turns.row (B := w.heap.size) HMD.out (by decide) hs6; have ht7' := Turns.row (B := wr.heap.size) HMD.out (by decide) hwr; have HO7 := Lib.hid hown7; have HE17 := Lib.hid ((HEL1.out.ext (Ext.a1 w6 _)).turned hg7 ht7); have HE27 := Lib.hid ((HEL2.out.ext (Ext.a1 w6 _)).turned hg7 ht7'); have HB7 := Lib.hid (show Ext w6 w7 from Below.grown (Ext.a1 w6 _) hg7 (by simp) (fun g e => (World.ownsRow.lt HMD.out g e).1)); simp only [Nat.zero_add, List.nil_append] at HO7 ⊢; clear hown7 hg7 ht7 ht7')
        | (at_builtin; refine wpList_append_some (news := vs2) (m := ls2.length) (base := w6.heap.size) rt52 rfl (.tmp 71) (.tmp 72) rfl HO7.out rfl rfl HV2.out (HR2.out.ext HB7.out) (HEL2.out.one HV2.out) (by omega) HB7.out.size ?_; intro A8 c8 w8 hown8 hg8 _; have ht8 := Turns.row (B := w.heap.size) HO7.out (by decide) hs6; have ht8' := Turns.row (B := wr.heap.size) HO7.out (by decide) hwr; have HL8 := Lib.hid (ls_two (HE17.out.turned hg8 ht8) (HE27.out.turned hg8 ht8') HV1.out HV2.out hown8); have HB8 := Lib.hid (show Ext w6 w8 from Below.grown HB7.out hg8 HB7.out.size (fun g e => (World.ownsRow.lt HO7.out g e).1)); rw [HnS.out] at *; clear hown8 hg8 ht8 ht8')
      have HQ := same_any B6 A8 d6 c8 LL LL w8 (by rw [HnL.out]; exact HnB.out) (by rw [HnL.out]; exact HnB.out) (HL6.out.ext HB8.out) (by rw [HLL.out]; exact HL8.out)
      rw [HnL.out, show (LL == LL) = true from beq_self_eq_true _] at HQ
      refine HQ.mono ?_
      clear HQ
      rintro e w9 ⟨rfl, hb9⟩
      have HF9 := Lib.hid ((HE6.out.trans' HB8.out).trans' hb9)
      clear hb9
      go_wp2_with fail
      go_ret
      exact ⟨rfl, HF9.out⟩

end Go.Proofs.Ytpalnlcjhpkkpaa
