/-
  The walk of FrameCuts.
-/
import Derived.Test.YtpalnlcjhpkkpaaFTells
namespace Go.Proofs.Ytpalnlcjhpkkpaa
open Go.RowKit

theorem run_mid (A : Option Addr) (n c lo hi : Nat) (h1 : lo ≤ hi) (h2 : hi ≤ c) (i j : Int) (hi' : i = (lo : Int)) (hj : j = (hi : Int)) (w : World) :
    (Instr.slice 22 (.slice A n c) (some (.int .i64 i)) (some (.int .i64 j)) none).run Try.prog w = .ok (.slice (if c = lo then A else A.map (·.add lo)) (hi - lo) (c - lo)) w := by
  subst hi'
  subst hj
  have h3 : (lo : Int) ≤ (hi : Int) := by omega
  have h4 : (hi : Int) ≤ (c : Int) := by omega
  have hs : (sizeOf 5).run Try.prog w = .ok 1 w := by kernel_rfl
  have he : Try.prog.elem 22 = 5 := by kernel_rfl
  have hu : Try.prog.underlying 22 = some (.slice (Try.prog.elem 22)) := by rw [he]; exact Try.underlying22
  rw [run_slice_any w 22 A n c hu]
  simp [Instr.sliceBounds, run_sliceBound, he, hs, sliced, h3, h4, Result.andThen]

theorem Row.mid {w : World} {A : Option Addr} {xs : List Value} {c : Nat} (h : Row w A xs) (hc : xs.length ≤ c) (lo hi : Nat) : Row w (if c = lo then A else A.map (·.add lo)) ((xs.drop lo).take (hi - lo)) := (h.cut (k := lo) hc).take (hi - lo)

theorem Ls.take {w : World} {A : Option Addr} {ls : List (List UInt8)} (h : Ls w A ls) (k : Nat) : Ls w A (ls.take k) := by
  obtain ⟨vs, hl, hr, hb⟩ := h
  refine ⟨vs.take k, by simp [hl], hr.take k, fun j u x h1 h2 => ?_⟩
  rw [List.getElem?_take] at h1 h2
  split at h1
  · rename_i hj
    rw [if_pos hj] at h2
    exact hb j u x h1 h2
  · cases h1

theorem few_all {l : List (List UInt8)} (h : few l = true) : (∀ x ∈ l, x.length ≤ 1000) ∧ l.length ≤ 100 := by
  unfold few at h
  rw [Bool.and_eq_true, List.all_eq_true] at h
  exact ⟨fun x hx => by simpa using h.1 x hx, by simpa using h.2⟩
theorem frames_small {l : List (List UInt8)} (h : ∀ x ∈ l, x.length ≤ 1000) : (Frame.frames l).length ≤ 1100 * l.length := by
  induction l with
  | nil => simp [Frame.frames]
  | cons p l ih =>
    have h1 := ih (fun x hx => h x (by simp [hx]))
    have h2 := h p (by simp)
    have h3 := Frame.frame_length p
    have h4 := Pack.need_le8 p.length (by omega)
    rw [show Frame.frames (p :: l) = Frame.frame p ++ Frame.frames l by simp [Frame.frames], List.length_append, List.length_cons]
    omega

/-- Frames that are cut: all but the last. -/
theorem cut_all (init : List (List UInt8)) (last : List UInt8) (kk : Nat) (hi : ∀ x ∈ init, x.length ≤ 100000) (hl : last.length ≤ 100000) (hk : kk < (Frame.frame last).length) :
    Frame.all ((Frame.frames (init ++ [last])).take ((Frame.frames init).length + kk)) = (init, (Frame.frame last).take kk) := by
  rw [Frame.frames_snoc, List.take_append, List.take_of_length_le (by omega), show (Frame.frames init).length + kk - (Frame.frames init).length = kk by omega, Frame.all_frames _ _ hi, Frame.all_none (Frame.take_cut _ hl _ hk)]
  simp

theorem frameCuts_few (A1 : Option Addr) (c1 : Nat) (l : List (List UInt8)) (x : Value) (w : World) (hm : l.length ≤ 9223372036854775807) (h1 : Ls w A1 l) (h : few l = false ∨ l = []) :
    Calls Try.prog 15 #[.slice A1 l.length c1, x] w fun e w' => e = .returned (.bool true) ∧ Ext w w' := by
  have H1 := Lib.hid h1
  clear h1
  have HF := Lib.hid (fun w => few_any A1 c1 l w hm)
  cases hf : few l with
  | false =>
    rw [hf] at HF
    clear h
    go_enter Try.func15, Try.ntmps15
    go_wp2_with first | (go_at_call 34; refine (awake6_any _).mono ?_; rintro e w1 ⟨rfl, hb1⟩) | (go_at_call 42; refine (HF.out w1 (H1.out.ext hb1)).mono ?_; rintro e w2 ⟨rfl, hb2⟩)
    go_ret
    exact ⟨rfl, hb1.trans' hb2⟩
  | true =>
    rw [hf] at HF
    have hl : l = [] := by
      rcases h with h | h
      · rw [hf] at h; cases h
      · exact h
    subst hl
    go_enter Try.func15, Try.ntmps15
    go_wp2_with first | (go_at_call 34; refine (awake6_any _).mono ?_; rintro e w1 ⟨rfl, hb1⟩) | (go_at_call 42; refine (HF.out w1 (H1.out.ext hb1)).mono ?_; rintro e w2 ⟨rfl, hb2⟩)
    go_ret
    exact ⟨rfl, hb1.trans' hb2⟩

set_option maxHeartbeats 4000000 in
set_option maxRecDepth 100000 in
theorem frameCuts_any (A1 : Option Addr) (c1 : Nat) (l : List (List UInt8)) (cut : Nat) (w : World) (hcut : cut < 65536) (hc1 : l.length ≤ c1) (hf : few l = true) (hne : l ≠ []) (h1 : Ls w A1 l) :
    Calls Try.prog 15 #[.slice A1 l.length c1, .int .u16 (cut : Int)] w fun e w' => e = .returned (.bool true) ∧ Ext w w' := by
  obtain ⟨hx, hn⟩ := few_all hf
  have H1 := Lib.hid h1
  clear h1
  have HF := Lib.hid (fun w => few_any A1 c1 l w (by omega))
  rw [hf] at HF
  have hl0 : 1 ≤ l.length := by rcases l with _ | ⟨a, l⟩; exact absurd rfl hne; simp
  have hl0' : ((l.length : Int) == 0) = false := by simp; omega
  have HX := Lib.hid hx
  clear hx hf
  go_enter Try.func15, Try.ntmps15
  go_wp2_with first | (go_at_call 34; refine (awake6_any _).mono ?_; rintro e w1 ⟨rfl, hb1⟩) | (go_at_call 42; refine (HF.out w1 (H1.out.ext hb1)).mono ?_; rintro e w2 ⟨rfl, hb2⟩)
  have B2 := Lib.hid (hb1.trans' hb2)
  clear hb1 hb2
  go_loopw [6, 7, 8] (fun b a i wr => ∃ k : Nat, k ≤ l.length ∧ i = .int .i64 (k : Int) ∧ ∃ A c X, b = .slice A X.length c ∧ X.length ≤ c ∧ Own wr w.heap.size (.slice A X.length c) X ∧ X = Frame.frames (l.take k) ∧ a = .int .i64 ((Frame.frames (l.take (k - 1))).length : Int) ∧ Ext w wr) (fun _ _ i _ => l.length - (intOf i).toNat)
  case atStart => exact ⟨0, Nat.zero_le _, rfl, none, 0, [], rfl, Nat.le_refl _, Own.nil _ _, by simp [Frame.frames], by simp [Frame.frames], B2.out⟩
  case round =>
    obtain ⟨k, hk, rfl, A, c, X, rfl, hXc, hown, hX, rfl, hE⟩ := hrel
    have HO := Lib.hid hown
    have HE := Lib.hid hE
    have HXe := Lib.hid hX
    have hsz := hE.size
    clear hown hE hX
    by_cases hlt : k < l.length
    · obtain ⟨ad1, v1, rfl, hc1', hb1⟩ := (H1.out.ext HE.out).at_ hlt
      obtain ⟨p, hp⟩ : ∃ p, p = l[k] := ⟨_, rfl⟩
      have hpl : p.length ≤ 1000 := by rw [hp]; exact HX.out _ (List.getElem_mem hlt)
      rw [← hp] at hb1
      obtain ⟨B1, d1, hv1, hd1, hr1⟩ := hb1
      subst hv1
      have hXl : X.length ≤ 1100 * 100 := by
        rw [HXe.out]
        have := frames_small (l := l.take k) (fun x hx => HX.out x (List.mem_of_mem_take hx))
        rw [List.length_take] at this
        have : min k l.length ≤ 100 := by omega
        omega
      have HP := fput_any A B1 c d1 X p wr (by omega) (by omega) HO.out.row hr1
      rw [show Frame.put X p = some (X ++ Frame.frame p) by unfold Frame.put; rw [if_neg (by omega)]; rfl] at HP
      have HP := Lib.hid HP
      have HS := Lib.hid (show X ++ Frame.frame p = Frame.frames (l.take (k + 1)) by rw [List.take_succ_eq_append_getElem hlt, Frame.frames_snoc, ← HXe.out, ← hp])
      have hfl := Frame.frame_length p
      obtain ⟨Y, HY⟩ : ∃ Y, Hid (Y = X ++ Frame.frame p) := ⟨_, Lib.hid rfl⟩
      rw [← HY.out] at HP HS
      have hYl : X.length < Y.length := by rw [HY.out, List.length_append]; omega
      have hki : (k : Int) < (l.length : Int) := by omega
      have hd : decide ((Y.length : Int) ≤ (X.length : Int)) = false := by simp; omega
      clear hp hr1 hfl
      go_wp2_with fail
      refine HP.out.mono ?_
      rintro e w3 ⟨hb3, v, rfl, hO3⟩
      obtain ⟨A3, c3, hv, hc3⟩ := hO3.shape
      subst hv
      have HO3 := Lib.hid (hO3.mono hsz)
      have HE3 := Lib.hid (HE.out.trans' hb3)
      have HXl := Lib.hid (congrArg List.length HXe.out)
      clear hO3 hb3
      go_wp2_with fail
      go_roundw
      case rel => exact ⟨k + 1, by omega, by go_num, A3, c3, Y, rfl, hc3, HO3.out, HS.out, by rw [Nat.add_sub_cancel, ← HXl.out], HE3.out⟩
      case measure => simp [intOf]; omega
    · obtain rfl : k = l.length := by omega
      obtain ⟨init, last, hl⟩ : ∃ init last, l = init ++ [last] := ⟨l.dropLast, l.getLast hne, (List.dropLast_concat_getLast hne).symm⟩
      obtain ⟨a, Ha⟩ : ∃ a, Hid (a = (Frame.frames init).length) := ⟨_, Lib.hid rfl⟩
      obtain ⟨fl, Hfl⟩ : ∃ fl, Hid (fl = (Frame.frame last).length) := ⟨_, Lib.hid rfl⟩
      have hXl : X = Frame.frames init ++ Frame.frame last := by rw [HXe.out, List.take_length, hl, Frame.frames_snoc]
      have hXn : X.length = a + fl := by rw [hXl, List.length_append, Ha.out, Hfl.out]
      have hli : l.length = init.length + 1 := by rw [hl]; simp
      have hahead : (Frame.frames (l.take (l.length - 1))).length = a := by rw [hli, Nat.add_sub_cancel, hl, List.take_left, Ha.out]
      rw [hahead]
      have hfl := Frame.frame_length last
      rw [← Hfl.out] at hfl
      have hlast : last.length ≤ 1000 := HX.out _ (by rw [hl]; simp)
      have hinit : ∀ x ∈ init, x.length ≤ 1000 := fun x hx => HX.out _ (by rw [hl]; simp [hx])
      have h8 := Pack.need_le8 last.length (by omega)
      have hab : a ≤ 1100 * 100 := by rw [Ha.out]; have := frames_small hinit; omega
      obtain ⟨kk, Hkk⟩ : ∃ kk, Hid (kk = cut % fl) := ⟨_, Lib.hid rfl⟩
      have hfl1 : 1 ≤ fl := by omega
      have hkk : kk < fl := by rw [Hkk.out]; exact Nat.mod_lt _ hfl1
      obtain ⟨ak, Hak⟩ : ∃ ak, Hid (ak = a + kk) := ⟨_, Lib.hid rfl⟩
      obtain ⟨li, Hli⟩ : ∃ li, Hid (li = init.length) := ⟨_, Lib.hid rfl⟩
      have hsub : (X.length : Int) - (a : Int) = (fl : Int) := by omega
      have hmod : (cut : Int) % (fl : Int) = (kk : Int) := by rw [Hkk.out, Int.natCast_emod]
      have hadd : (a : Int) + (kk : Int) = (ak : Int) := by rw [Hak.out]; omega
      have hlen1 : (l.length : Int) - 1 = (li : Int) := by rw [Hli.out]; omega
      have hakX : ak ≤ X.length := by rw [Hak.out, hXn]; omega
      have hakc : (ak : Int) ≤ (c : Int) := by omega
      have hlic : (li : Int) ≤ (c1 : Int) := by rw [Hli.out]; omega
      have hflb : fl ≤ 2000 := by omega
      have HT1 := Lib.hid (show (X.take ak).length = ak by rw [List.length_take]; omega)
      have HA1 := Lib.hid (show Frame.all (X.take ak) = (init, (Frame.frame last).take kk) by
        rw [Hak.out, Ha.out, HXe.out, List.take_length, hl]
        exact cut_all init last kk (fun x hx => Nat.le_trans (hinit x hx) (by omega)) (by omega) (by rw [← Hfl.out]; exact hkk))
      have hakk : ak - a = kk := by rw [Hak.out]; omega
      have HT2 := Lib.hid (show ((X.drop a).take (ak - a)).length = kk by rw [List.length_take, List.length_drop, hakk]; omega)
      have HA2 := Lib.hid (show Frame.take ((X.drop a).take (ak - a)) = none by
        rw [hakk, hXl, Ha.out, List.drop_left]
        exact Frame.take_cut _ (by omega) _ (by rw [← Hfl.out]; exact hkk))
      have hmid := run_mid A X.length c a ak (by rw [Hak.out]; omega) (by omega) (a : Int) (ak : Int) rfl rfl
      obtain ⟨A2, HA2e⟩ : ∃ A2, Hid (A2 = if c = a then A else A.map (·.add a)) := ⟨_, Lib.hid rfl⟩
      have hrow2 := HO.out.row.mid (c := c) (by rw [List.length_map]; exact hXc) a ak
      rw [← HA2e.out] at hmid hrow2
      rw [← List.map_drop, ← List.map_take] at hrow2
      rw [hakk] at hmid
      have HR1 := Lib.hid (HO.out.row.take ak)
      rw [← List.map_take] at HR1
      have HR2 := Lib.hid hrow2
      have HL1 := Lib.hid (H1.out.take li)
      rw [show l.take li = init by rw [Hli.out, hl, List.take_left]] at HL1
      have hkkb : kk ≤ 2000 := by omega
      have hakb : ak ≤ 200000 := by rw [Hak.out]; omega
      have HZ := Lib.hid (show init.length ≤ 100 by omega)
      have HC := Lib.hid (show ak ≤ c by omega)
      have HC2 := Lib.hid (show kk ≤ c - a by rw [Hak.out] at hakX; omega)
      clear hl hXl hli hahead hinit hlast hrow2 hakX hakk hfl h8 hXn hne hlt
      go_wp2_with fail
      have HQ := fall_any A c (X.take ak) wr (by rw [HT1.out]; exact HC.out) (by rw [HT1.out]; omega) HR1.out
      rw [HA1.out, HT1.out] at HQ
      have hnum : (ak : Int) - (((Frame.frame last).take kk).length : Int) = (a : Int) := by
        rw [List.length_take, ← Hfl.out, Nat.min_eq_left (by omega)]
        omega
      rw [hnum] at HQ
      refine HQ.mono ?_
      clear HQ hnum
      intro e w5 ⟨v5, he, hl5, hb5⟩
      obtain ⟨B6, d6, hv, hd6⟩ := hl5.shape
      subst hv
      subst he
      have HL5 := Lib.hid hl5.ls
      have HE5 := Lib.hid (HE.out.trans' hb5)
      have HR25 := Lib.hid (HR2.out.ext hb5)
      clear hl5 hb5 hd6
      go_wp2_with fail
      have HQ := ftake_any A2 (c - a) ((X.drop a).take (ak - a)) w5 (by rw [HT2.out]; exact HC2.out) (by rw [HT2.out]; omega) HR25.out
      rw [HA2.out, HT2.out] at HQ
      refine HQ.mono ?_
      clear HQ
      rintro e w6 ⟨hb6, rfl⟩
      have HE6 := Lib.hid (HE5.out.trans' hb6)
      have HL6 := Lib.hid (HL5.out.ext hb6)
      have HQ := same_any B6 A1 d6 c1 init init w6 (by have := HZ.out; omega) (by have := HZ.out; omega) HL6.out (HL1.out.ext HE6.out)
      rw [show (init == init) = true from beq_self_eq_true _] at HQ
      rw [← Hli.out] at HQ ⊢
      have HQ := Lib.hid HQ
      clear hb6
      go_wp2_with (go_at_call 41; refine HQ.out.mono ?_; rintro e w8 ⟨rfl, hb8⟩)
      go_ret
      exact ⟨rfl, HE6.out.trans' hb8⟩

end Go.Proofs.Ytpalnlcjhpkkpaa
