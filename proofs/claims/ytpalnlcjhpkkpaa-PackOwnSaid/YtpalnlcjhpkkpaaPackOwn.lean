/-
  The walk of PackOwn.
-/
import Derived.Test.YtpalnlcjhpkkpaaPackAll
import Derived.Test.YtpalnlcjhpkkpaaPackCuts
namespace Go.Proofs.Ytpalnlcjhpkkpaa
open Go.RowKit

theorem apart {wa wb : World} {Ba Bb : Nat} {va : Value} {la lb : List UInt8} {ad : Option Addr} {n c : Nat} (ha : Own wa Ba va la) (hb : Own wb Bb (.slice ad n c) lb) (h : wa.heap.size ≤ Bb) : ∀ x, ad = some x → va.ownBlock ≠ some x.block := by
  intro x e e2
  subst e
  have h1 := (ha.block _ e2).2
  have h2 := (hb.block x.block rfl).1
  omega

theorem packOwn_long (A1 : Option Addr) (n1 c1 : Nat) (w : World) (h : 1000 < n1) :
    Calls Try.prog 10 #[.slice A1 n1 c1] w fun e w' => e = .returned (.bool true) ∧ Ext w w' := by
  go_enter Try.func10, Try.ntmps10
  go_wp2_with (go_at_call 23; refine (awake5_any _).mono ?_; rintro e w1 ⟨rfl, hb1⟩)
  go_ret
  exact ⟨rfl, hb1⟩

theorem textNone (l : List UInt8) : codeOf (Pack.takeText l) = 0 ∧ Pack.text [] (textHead (Pack.takeText l)) ++ textRest (Pack.takeText l) = l ∨ codeOf (Pack.takeText l) = 50 ∧ textHead (Pack.takeText l) = [] ∧ textRest (Pack.takeText l) = [] := by
  cases h : Pack.takeText l with
  | none => exact .inr ⟨rfl, rfl, rfl⟩
  | some p =>
    obtain ⟨t, r⟩ := p
    refine .inl ⟨rfl, ?_⟩
    have := (Pack.takeText_own _ _ _ h).1
    simp only [textHead, textRest, Pack.text, List.nil_append, List.append_assoc]
    exact this.symm
theorem takeNone (l : List UInt8) : codeOf (Pack.take l) = 0 ∧ Pack.one (takeNum (Pack.take l)) ++ takeRest (Pack.take l) = l ∨ codeOf (Pack.take l) = 50 ∧ takeNum (Pack.take l) = 0 ∧ takeRest (Pack.take l) = [] := by
  cases h : Pack.take l with
  | none => exact .inr ⟨rfl, rfl, rfl⟩
  | some p =>
    obtain ⟨n, r⟩ := p
    exact .inl ⟨rfl, (Pack.take_own _ _ _ h).1.symm⟩
theorem takeNum_le (l : List UInt8) : takeNum (Pack.take l) ≤ 9223372036854775807 := by
  cases h : Pack.take l with
  | none => simp [takeNum]
  | some p =>
    obtain ⟨n, r⟩ := p
    have := (Pack.take_own _ _ _ h).2
    simp only [takeNum]
    omega
theorem takeRest_le (l : List UInt8) : (takeRest (Pack.take l)).length ≤ l.length := by
  cases h : Pack.take l with
  | none => simp [takeRest]
  | some p =>
    obtain ⟨n, r⟩ := p
    have := congrArg List.length (Pack.take_own _ _ _ h).1
    rw [List.length_append] at this
    simp only [takeRest]
    omega
theorem textBoth_le (l : List UInt8) : (textHead (Pack.takeText l)).length ≤ l.length ∧ (textRest (Pack.takeText l)).length ≤ l.length := by
  cases h : Pack.takeText l with
  | none => simp [textHead, textRest]
  | some p =>
    obtain ⟨t, r⟩ := p
    have := congrArg List.length (Pack.takeText_own _ _ _ h).1
    rw [List.length_append, List.length_append] at this
    simp only [textHead, textRest]
    omega

set_option maxHeartbeats 4000000 in
set_option maxRecDepth 100000 in
theorem packOwn_any (A1 : Option Addr) (c1 : Nat) (l : List UInt8) (w0 : World) (h1 : l.length ≤ 1000) (hlc : l.length ≤ c1) (hr1 : Row w0 A1 (l.map B8)) :
    Calls Try.prog 10 #[.slice A1 l.length c1] w0 fun e w' => e = .returned (.bool true) ∧ Ext w0 w' := by
  have R1 := Lib.hid hr1
  clear hr1
  have HTake := Lib.hid (takeNone l)
  have HText := Lib.hid (textNone l)
  have hNb := takeNum_le l
  have hRb := takeRest_le l
  have hTb := textBoth_le l
  obtain ⟨rt, Ht⟩ : ∃ rt, Hid (rt = Pack.take l) := ⟨_, Lib.hid rfl⟩
  obtain ⟨rx, Hx⟩ : ∃ rx, Hid (rx = Pack.takeText l) := ⟨_, Lib.hid rfl⟩
  rw [← Ht.out] at HTake hNb hRb
  rw [← Hx.out] at HText hTb
  obtain ⟨N, HN⟩ : ∃ N, Hid (N = takeNum rt) := ⟨_, Lib.hid rfl⟩
  obtain ⟨R, HR⟩ : ∃ R, Hid (R = takeRest rt) := ⟨_, Lib.hid rfl⟩
  obtain ⟨E, HE⟩ : ∃ E, Hid (E = codeOf rt) := ⟨_, Lib.hid rfl⟩
  obtain ⟨T, HT⟩ : ∃ T, Hid (T = textHead rx) := ⟨_, Lib.hid rfl⟩
  obtain ⟨M, HM⟩ : ∃ M, Hid (M = textRest rx) := ⟨_, Lib.hid rfl⟩
  obtain ⟨G, HG⟩ : ∃ G, Hid (G = codeOf rx) := ⟨_, Lib.hid rfl⟩
  rw [← HN.out, ← HR.out, ← HE.out] at HTake
  rw [← HT.out, ← HM.out, ← HG.out] at HText
  rw [← HN.out] at hNb
  rw [← HR.out] at hRb
  rw [← HT.out, ← HM.out] at hTb
  obtain ⟨hTb, hMb⟩ := hTb
  obtain ⟨L, HL⟩ : ∃ L, Hid (L = Pack.one N) := ⟨_, Lib.hid rfl⟩
  have hLb : L.length ≤ 9 := by
    have := Pack.need_le8 N (by omega)
    rw [HL.out, Pack.one_length]; omega
  obtain ⟨V, HV⟩ : ∃ V, Hid (V = Pack.text [] T) := ⟨_, Lib.hid rfl⟩
  have hVb : V.length ≤ 2000 := by
    have := Pack.need_le8 T.length (by omega)
    rw [HV.out]
    unfold Pack.text
    simp [Pack.one_length]
    omega
  rw [← HL.out] at HTake
  rw [← HV.out] at HText
  go_enter Try.func10, Try.ntmps10
  go_wp2_with fail
  refine (awake5_any _).mono ?_
  intro e w1 ⟨he, hb1⟩
  subst he
  have B1 := Lib.hid hb1
  clear hb1
  go_wp2_with fail
  refine (take_any A1 c1 l w1 hlc (by omega) (R1.out.ext B1.out)).mono ?_
  intro e w2 hret
  rw [← Ht.out] at hret
  obtain ⟨D5, e5, he, hr5, hb2, hf5⟩ := hret.all
  subst he
  rw [← HR.out] at hr5 hf5
  rw [← HN.out, ← HR.out, ← HE.out]
  have P5 := Lib.hid hr5
  have B2 := Lib.hid (B1.out.trans' hb2)
  clear hret hb2 hr5 hf5
  go_wp2_with fail
  refine (put_any none _ 0 1 [] [(N : Int)] _ (Row.nil _ _) (by simp) (Row.newM w2 #[.int .i64 (N : Int)] 3 (0, 0)) (by simp) (by intro n hn; simp at hn; omega)).mono ?_
  intro e w3 ⟨hb3, h3⟩
  rw [put_one, List.nil_append] at h3
  obtain ⟨v, he, hown⟩ := h3
  subst he
  obtain ⟨A7, c7, hv, hc7⟩ := hown.shape
  subst hv
  rw [← HL.out] at hown ⊢
  have O3 := Lib.hid hown
  have X3 := Lib.hid ((Ext.a1 w2 _).trans' hb3)
  have B3 := Lib.hid (B2.out.trans' X3.out)
  clear hown hb3 hc7
  go_wp2_with fail
  refine (takeText_any A1 c1 l w3 hlc (by omega) (R1.out.ext B3.out)).mono ?_
  intro e w4 hret
  rw [← Hx.out] at hret
  obtain ⟨D9, e9, D10, e10, he, hr9, hr10, hb4, hf9, hf10⟩ := hret.all
  subst he
  rw [← HT.out] at hr9
  rw [← HM.out] at hr10
  rw [← HT.out, ← HM.out, ← HG.out]
  have P9 := Lib.hid hr9
  have P10 := Lib.hid hr10
  have X4 := Lib.hid hb4
  have B4 := Lib.hid (B3.out.trans' hb4)
  clear hret hb4 hr9 hr10 hf9 hf10
  go_wp2_with fail
  refine (text_any none _ 0 _ [] T w4 (Row.nil _ _) (by simp) P9.out (by omega)).mono ?_
  intro e w5 ⟨v, he, hown, hb5⟩
  subst he
  obtain ⟨A12, c12, hv, hc12⟩ := hown.shape
  subst hv
  rw [← HV.out] at hown ⊢
  have O5 := Lib.hid hown
  have X5 := Lib.hid hb5
  have B5 := Lib.hid (B4.out.trans' hb5)
  have hsz5 := hb5.size
  have hsz4 := X4.out.size
  clear hown hb5 hc12
  go_wp2_with (at_builtin; go_must (refine wpList_append_bytes bt22 rfl (.tmp 38) (.tmp 39) rfl O5.out rfl rfl rfl (P10.out.ext X5.out) (by omega) hsz5 ?_); intro A6 c6 w6 hown6 hg6 hbl6; have X6 := Lib.hid (O5.out.below hg6 (X4.out.trans' X5.out) (Nat.le_trans hsz4 hsz5) hsz4); have Y6 := Lib.hid (O5.out.below hg6 (B5.out) (B5.out.size) (B4.out.size)); have W6 := Lib.hid hown6; clear hown6 hg6 hbl6)
  have B6 := Lib.hid (show Ext w0 w6 from Y6.out)
  have O6 := Lib.hid ((O3.out.mono (B' := w0.heap.size) (by have := B2.out.size; simp; omega)).ext X6.out)
  have Q5 := Lib.hid (P5.out.ext (X3.out.trans' X6.out))
  have NE := Lib.hid (apart O3.out W6.out hsz4)
  have W6r := Lib.hid W6.out.row
  have hB := B6.out.size
  obtain ⟨VM, HVM⟩ : ∃ VM, Hid (VM = V ++ M) := ⟨_, Lib.hid rfl⟩
  have HVl := Lib.hid (show V.length + M.length = VM.length by rw [HVM.out, List.length_append])
  rw [← HVM.out] at W6r HText
  rw [HVl.out]
  clear B1 B2 B3 B4 B5 X3 X4 X5 X6 Y6 P5 P9 P10 O3 O5 W6 hsz4 hsz5
  rcases HTake.out with ⟨hE, hLR⟩ | ⟨hE, hN, hRn⟩
  · subst hE
    have HLR := Lib.hid hLR
    clear hLR
    go_wp2_with fail
    apply wp_region_inv (w0.heap.size) 28 (hB) (by kernel_rfl) (by kernel_rfl) (by kernel_rfl)
      [Is (.int .i64 0), Is (.bool true), Is (.bool true), Is (.int .i64 0), Is (.bool true), Is (.bool true), Is (.bool true), fun w v => v = .slice A7 L.length c7 ∧ Own w w0.heap.size (.slice A7 L.length c7) L ∧ Row w A6 (VM.map B8), fun w v => v = .slice D5 R.length e5 ∧ Row w D5 (R.map B8), fun w v => ∃ A c, v = .slice A (L.length + R.length) c ∧ Row w A (l.map B8) ∧ Row w A6 (VM.map B8), fun w v => v = Str l ∧ Row w A6 (VM.map B8), Is (.slice A1 l.length c1), Is (Str l), fun w v => v = .bool true ∧ Row w A6 (VM.map B8), fun w v => v = .bool true ∧ Row w A6 (VM.map B8), fun w v => v = .bool true ∧ Row w A6 (VM.map B8), Is undef, Is undef, Is undef, Is undef, Is undef, Is undef, Is undef, Is undef, Is undef, Is undef, Is undef, fun w v => v = .bool true ∧ Row w A6 (VM.map B8), fun w v => v = .bool true ∧ Row w A6 (VM.map B8)] (fun w => Own w w0.heap.size (.slice A7 L.length c7) L ∧ Row w D5 (R.map B8) ∧ Row w A6 (VM.map B8)) (fun k => k == 7 || k == 8)
    case mono => exact ⟨Is.st _, Is.st _, Is.st _, Is.st _, Is.st _, Is.st _, Is.st _, Say.st_of (by intro w w' v hE hp; exact ⟨hp.1, hp.2.1.ext hE, hp.2.2.ext hE⟩), Say.st_of (by intro w w' v hE hp; exact ⟨hp.1, hp.2.ext hE⟩), Say.st_of (by intro w w' v hE hp; first | (obtain ⟨a1, hp1, hp2⟩ := hp; exact ⟨a1, hp1, hp2.ext hE⟩) | (obtain ⟨a1, a2, hp1, hp2⟩ := hp; exact ⟨a1, a2, hp1, hp2.ext hE⟩) | (obtain ⟨a1, a2, hp1, hp2, hp3⟩ := hp; exact ⟨a1, a2, hp1, hp2.ext hE, hp3.ext hE⟩)), Say.st_of (by intro w w' v hE hp; exact ⟨hp.1, hp.2.ext hE⟩), Is.st _, Is.st _, Say.st_of (by intro w w' v hE hp; exact ⟨hp.1, hp.2.ext hE⟩), Say.st_of (by intro w w' v hE hp; exact ⟨hp.1, hp.2.ext hE⟩), Say.st_of (by intro w w' v hE hp; exact ⟨hp.1, hp.2.ext hE⟩), Is.st _, Is.st _, Is.st _, Is.st _, Is.st _, Is.st _, Is.st _, Is.st _, Is.st _, Is.st _, Is.st _, Say.st_of (by intro w w' v hE hp; exact ⟨hp.1, hp.2.ext hE⟩), Say.st_of (by intro w w' v hE hp; exact ⟨hp.1, hp.2.ext hE⟩), True.intro⟩
    case monoS => exact fun _ _ hE h => ⟨h.1.ext hE, h.2.1.ext hE, h.2.2.ext hE⟩
    case startS => exact ⟨O6.out, Q5.out, W6r.out⟩
    case hF => intro u; simp only [fill, Nat.reduceAdd, List.setIfInBounds_toArray, List.set_cons_succ, List.set_cons_zero]; exact rfl
    case steps =>
      refine StepsAt.cons ?_ ?_
      · intro u w1 K hE hS hU hd hK hW
        go_simp
        exact hK _ _ (Below.refl _ _) rfl
      refine StepsAt.cons ?_ ?_
      · intro u w1 K hE hS hU hd hK hW
        have d0 : u 0 = (.int .i64 0) := hd 0 rfl
        simp only [d0] at hK
        go_simp
        exact hK _ _ (Below.refl _ _) rfl
      refine StepsAt.cons ?_ ?_
      · intro u w1 K hE hS hU hd hK hW
        have d1 : u 1 = (.bool true) := hd 1 rfl
        simp only [d1] at hK
        go_simp
        exact hK _ _ (Below.refl _ _) rfl
      refine StepsAt.cons ?_ ?_
      · intro u w1 K hE hS hU hd hK hW
        have d2 : u 2 = (.bool true) := hd 2 rfl
        simp only [d2] at hK
        go_simp
        exact hK _ _ (Below.refl _ _) rfl
      refine StepsAt.cons ?_ ?_
      · intro u w1 K hE hS hU hd hK hW
        have d2 : u 2 = (.bool true) := hd 2 rfl
        have d3 : u 3 = (.int .i64 0) := hd 3 rfl
        simp only [d2, d3] at hK
        go_simp
        exact hK _ _ (Below.refl _ _) rfl
      refine StepsAt.cons ?_ ?_
      · intro u w1 K hE hS hU hd hK hW
        have d2 : u 2 = (.bool true) := hd 2 rfl
        have d4 : u 4 = (.bool true) := hd 4 rfl
        simp only [d2, d4] at hK
        go_simp
        exact hK _ _ (Below.refl _ _) rfl
      refine StepsAt.cons ?_ ?_
      · intro u w1 K hE hS hU hd hK hW
        have d5 : u 5 = (.bool true) := hd 5 rfl
        simp only [d5] at hK
        go_simp
        exact hK _ _ (Below.refl _ _) rfl
      refine StepsAt.cons ?_ ?_
      · intro u w1 K hE hS hU hd hK hW
        have d6 : u 6 = (.bool true) := hd 6 rfl
        have hS0 := hS rfl
        simp only [d6] at hK
        go_simp
        exact hK _ _ (Below.refl _ _) ⟨rfl, hS0.1, hS0.2.2⟩
      refine StepsAt.cons ?_ ?_
      · intro u w1 K hE hS hU hd hK hW
        have d6 : u 6 = (.bool true) := hd 6 rfl
        have hS0 := hS rfl
        simp only [d6] at hK
        go_simp
        exact hK _ _ (Below.refl _ _) ⟨rfl, hS0.2.1⟩
      refine StepsAt.cons ?_ ?_
      · intro u w1 K hE hS hU hd hK hW
        have d6 : u 6 = (.bool true) := hd 6 rfl
        obtain ⟨d7, h7_1, h7_2⟩ : u 7 = .slice A7 L.length c7 ∧ Own w1 w0.heap.size (.slice A7 L.length c7) L ∧ Row w1 A6 (VM.map B8) := hd 7 rfl
        obtain ⟨d8, h8_1⟩ : u 8 = .slice D5 R.length e5 ∧ Row w1 D5 (R.map B8) := hd 8 rfl
        refine if_run (by simp only [d6]; rfl) ?_
        refine wp_append_bytes bt22 (.tmp 48) (.tmp 49) rfl h7_1 d7 d8 rfl h8_1 (by omega) (Nat.le_trans hB hE.size) ?_
        intro A' c' w2 hown2 hg2 hbl2
        have hrow2 := grown_cells hg2 h7_2 NE.out
        exact hW _ _ (h7_1.below hg2 (Below.refl _ _) (Nat.le_trans hB hE.size) (Nat.le_refl _)) ⟨fun _ _ h => h, fun _ _ h => h, fun _ _ h => h, fun _ _ h => h, fun _ _ h => h, fun _ _ h => h, fun _ _ h => h, fun hk => absurd hk (by decide), fun hk => absurd hk (by decide), fun hk => absurd hk (by decide), fun hk => absurd hk (by decide), fun _ _ h => h, fun _ _ h => h, fun hk v h => ⟨h.1, grown_cells hg2 h.2 NE.out⟩, fun hk v h => ⟨h.1, grown_cells hg2 h.2 NE.out⟩, fun hk v h => ⟨h.1, grown_cells hg2 h.2 NE.out⟩, fun _ _ h => h, fun _ _ h => h, fun _ _ h => h, fun _ _ h => h, fun _ _ h => h, fun _ _ h => h, fun _ _ h => h, fun _ _ h => h, fun _ _ h => h, fun _ _ h => h, fun _ _ h => h, fun hk v h => ⟨h.1, grown_cells hg2 h.2 NE.out⟩, fun hk v h => ⟨h.1, grown_cells hg2 h.2 NE.out⟩, True.intro⟩ (fun hk => absurd hk (by decide)) ⟨A', c', rfl, HLR.out ▸ hown2.row, hrow2⟩
      refine StepsAt.cons ?_ ?_
      · intro u w1 K hE hS hU hd hK hW
        have d6 : u 6 = (.bool true) := hd 6 rfl
        obtain ⟨A9, c9, d9, h9_1, h9_2⟩ : ∃ A9 c9, u 9 = .slice A9 (L.length + R.length) c9 ∧ Row w1 A9 (l.map B8) ∧ Row w1 A6 (VM.map B8) := hd 9 rfl
        simp only [d6, d9] at hK
        have ht := text_at (n := L.length + R.length) (c := c9) h9_1 (by rw [← HLR.out, List.length_append])
        go_simp
        exact hK _ _ (Below.refl _ _) ⟨rfl, h9_2⟩
      refine StepsAt.cons ?_ ?_
      · intro u w1 K hE hS hU hd hK hW
        have d6 : u 6 = (.bool true) := hd 6 rfl
        simp only [d6] at hK
        go_simp
        exact hK _ _ (Below.refl _ _) rfl
      refine StepsAt.cons ?_ ?_
      · intro u w1 K hE hS hU hd hK hW
        have d6 : u 6 = (.bool true) := hd 6 rfl
        have d11 : u 11 = (.slice A1 l.length c1) := hd 11 rfl
        simp only [d6, d11] at hK
        have ht := text_at (c := c1) (n := l.length) (R1.out.ext (B6.out.trans hE)) rfl
        go_simp
        exact hK _ _ (Below.refl _ _) rfl
      refine StepsAt.cons ?_ ?_
      · intro u w1 K hE hS hU hd hK hW
        have d6 : u 6 = (.bool true) := hd 6 rfl
        obtain ⟨d10, h10_1⟩ : u 10 = Str l ∧ Row w1 A6 (VM.map B8) := hd 10 rfl
        have d12 : u 12 = (Str l) := hd 12 rfl
        simp only [d6, d10, d12] at hK
        go_simp
        exact hK _ _ (Below.refl _ _) ⟨congrArg Value.bool (beq_self_eq_true _), h10_1⟩
      refine StepsAt.cons ?_ ?_
      · intro u w1 K hE hS hU hd hK hW
        have d6 : u 6 = (.bool true) := hd 6 rfl
        obtain ⟨d13, h13_1⟩ : u 13 = .bool true ∧ Row w1 A6 (VM.map B8) := hd 13 rfl
        simp only [d6, d13] at hK
        go_simp
        exact hK _ _ (Below.refl _ _) ⟨rfl, h13_1⟩
      refine StepsAt.cons ?_ ?_
      · intro u w1 K hE hS hU hd hK hW
        obtain ⟨d14, h14_1⟩ : u 14 = .bool true ∧ Row w1 A6 (VM.map B8) := hd 14 rfl
        simp only [d14] at hK
        go_simp
        exact hK _ _ (Below.refl _ _) ⟨rfl, h14_1⟩
      refine StepsAt.cons ?_ ?_
      · intro u w1 K hE hS hU hd hK hW
        obtain ⟨d15, h15_1⟩ : u 15 = .bool true ∧ Row w1 A6 (VM.map B8) := hd 15 rfl
        simp only [d15] at hK
        go_simp
        exact hK _ _ (Below.refl _ _) rfl
      refine StepsAt.cons ?_ ?_
      · intro u w1 K hE hS hU hd hK hW
        obtain ⟨d15, h15_1⟩ : u 15 = .bool true ∧ Row w1 A6 (VM.map B8) := hd 15 rfl
        have d16 : u 16 = undef := hd 16 rfl
        simp only [d15, d16] at hK
        go_simp
        exact hK _ _ (Below.refl _ _) rfl
      refine StepsAt.cons ?_ ?_
      · intro u w1 K hE hS hU hd hK hW
        obtain ⟨d15, h15_1⟩ : u 15 = .bool true ∧ Row w1 A6 (VM.map B8) := hd 15 rfl
        have d17 : u 17 = undef := hd 17 rfl
        simp only [d15, d17] at hK
        go_simp
        exact hK _ _ (Below.refl _ _) rfl
      refine StepsAt.cons ?_ ?_
      · intro u w1 K hE hS hU hd hK hW
        have d18 : u 18 = undef := hd 18 rfl
        simp only [d18] at hK
        go_simp
        exact hK _ _ (Below.refl _ _) rfl
      refine StepsAt.cons ?_ ?_
      · intro u w1 K hE hS hU hd hK hW
        have d18 : u 18 = undef := hd 18 rfl
        have d19 : u 19 = undef := hd 19 rfl
        simp only [d18, d19] at hK
        go_simp
        exact hK _ _ (Below.refl _ _) rfl
      refine StepsAt.cons ?_ ?_
      · intro u w1 K hE hS hU hd hK hW
        obtain ⟨d15, h15_1⟩ : u 15 = .bool true ∧ Row w1 A6 (VM.map B8) := hd 15 rfl
        have d18 : u 18 = undef := hd 18 rfl
        have d20 : u 20 = undef := hd 20 rfl
        simp only [d15, d18, d20] at hK
        go_simp
        exact hK _ _ (Below.refl _ _) rfl
      refine StepsAt.cons ?_ ?_
      · intro u w1 K hE hS hU hd hK hW
        obtain ⟨d15, h15_1⟩ : u 15 = .bool true ∧ Row w1 A6 (VM.map B8) := hd 15 rfl
        have d21 : u 21 = undef := hd 21 rfl
        simp only [d15, d21] at hK
        go_simp
        exact hK _ _ (Below.refl _ _) rfl
      refine StepsAt.cons ?_ ?_
      · intro u w1 K hE hS hU hd hK hW
        have d22 : u 22 = undef := hd 22 rfl
        simp only [d22] at hK
        go_simp
        exact hK _ _ (Below.refl _ _) rfl
      refine StepsAt.cons ?_ ?_
      · intro u w1 K hE hS hU hd hK hW
        have d22 : u 22 = undef := hd 22 rfl
        have d23 : u 23 = undef := hd 23 rfl
        simp only [d22, d23] at hK
        go_simp
        exact hK _ _ (Below.refl _ _) rfl
      refine StepsAt.cons ?_ ?_
      · intro u w1 K hE hS hU hd hK hW
        have d22 : u 22 = undef := hd 22 rfl
        have d24 : u 24 = undef := hd 24 rfl
        simp only [d22, d24] at hK
        go_simp
        exact hK _ _ (Below.refl _ _) rfl
      refine StepsAt.cons ?_ ?_
      · intro u w1 K hE hS hU hd hK hW
        obtain ⟨d15, h15_1⟩ : u 15 = .bool true ∧ Row w1 A6 (VM.map B8) := hd 15 rfl
        have d22 : u 22 = undef := hd 22 rfl
        have d25 : u 25 = undef := hd 25 rfl
        simp only [d15, d22, d25] at hK
        go_simp
        exact hK _ _ (Below.refl _ _) rfl
      refine StepsAt.cons ?_ ?_
      · intro u w1 K hE hS hU hd hK hW
        obtain ⟨d15, h15_1⟩ : u 15 = .bool true ∧ Row w1 A6 (VM.map B8) := hd 15 rfl
        have d26 : u 26 = undef := hd 26 rfl
        simp only [d15, d26] at hK
        go_simp
        exact hK _ _ (Below.refl _ _) ⟨rfl, h15_1⟩
      refine StepsAt.cons ?_ ?_
      · intro u w1 K hE hS hU hd hK hW
        obtain ⟨d27, h27_1⟩ : u 27 = .bool true ∧ Row w1 A6 (VM.map B8) := hd 27 rfl
        simp only [d27] at hK
        go_simp
        exact hK _ _ (Below.refl _ _) ⟨rfl, h27_1⟩
      exact StepsAt.nil
    case fin =>
      intro u w9 hE9 hP
      obtain ⟨d28, h28_1⟩ : u 28 = .bool true ∧ Row w9 A6 (VM.map B8) := hP 28 (by decide) (by decide)
      simp only [d28]
      have HX := Lib.hid (B6.out.trans hE9)
      have t1 := text_at (n := l.length) (c := c1) (R1.out.ext HX.out) rfl
      have t2 := text_at (n := VM.length) (c := c6) h28_1 rfl
      unfold Str at t1 t2
      clear hE9
      rcases HText.out with ⟨hG, hV⟩|⟨hG, hT, hM⟩
      · subst hG; rw [hV] at t2; go_wp2_with fail; go_ret; exact ⟨rfl, HX.out⟩
      · subst hG; subst hT; subst hM; go_wp2_with fail; go_ret; exact ⟨rfl, HX.out⟩
  · subst hE
    subst hN
    subst hRn
    go_wp2_with fail
    apply wp_region_inv _ 28 (Nat.le_refl _) (by kernel_rfl) (by kernel_rfl) (by kernel_rfl)
      [Is (.int .i64 50), Is (.bool false), Is (.bool false), Is undef, Is undef, Is (.bool false), Is (.bool false), Is undef, Is undef, Is undef, Is undef, Is undef, Is undef, Is undef, Is (.bool false), Is (.bool false), Is (.int .i64 50), Is (.bool true), Is (.bool true), Is (.int .i64 0), Is (.bool true), Is (.bool true), Is (.bool true), Is (.slice D5 0 e5), Is (.int .i64 0), Is (.bool true), Is (.bool true), Is (.bool true), Is (.bool true)] (fun _ => True) (fun _ => false)
    case mono => exact ⟨Is.st _, Is.st _, Is.st _, Is.st _, Is.st _, Is.st _, Is.st _, Is.st _, Is.st _, Is.st _, Is.st _, Is.st _, Is.st _, Is.st _, Is.st _, Is.st _, Is.st _, Is.st _, Is.st _, Is.st _, Is.st _, Is.st _, Is.st _, Is.st _, Is.st _, Is.st _, Is.st _, Is.st _, Is.st _, True.intro⟩
    case monoS => exact fun _ _ _ h => h
    case startS => exact True.intro
    case hF => intro u; simp only [fill, Nat.reduceAdd, List.setIfInBounds_toArray, List.set_cons_succ, List.set_cons_zero]; exact rfl
    case steps =>
      refine StepsAt.cons ?_ ?_
      · intro u w1 K hE hS hU hd hK hW
        go_simp
        exact hK _ _ (Below.refl _ _) rfl
      refine StepsAt.cons ?_ ?_
      · intro u w1 K hE hS hU hd hK hW
        have d0 : u 0 = (.int .i64 50) := hd 0 rfl
        simp only [d0] at hK
        go_simp
        exact hK _ _ (Below.refl _ _) rfl
      refine StepsAt.cons ?_ ?_
      · intro u w1 K hE hS hU hd hK hW
        have d1 : u 1 = (.bool false) := hd 1 rfl
        simp only [d1] at hK
        go_simp
        exact hK _ _ (Below.refl _ _) rfl
      refine StepsAt.cons ?_ ?_
      · intro u w1 K hE hS hU hd hK hW
        have d2 : u 2 = (.bool false) := hd 2 rfl
        simp only [d2] at hK
        go_simp
        exact hK _ _ (Below.refl _ _) rfl
      refine StepsAt.cons ?_ ?_
      · intro u w1 K hE hS hU hd hK hW
        have d2 : u 2 = (.bool false) := hd 2 rfl
        have d3 : u 3 = undef := hd 3 rfl
        simp only [d2, d3] at hK
        go_simp
        exact hK _ _ (Below.refl _ _) rfl
      refine StepsAt.cons ?_ ?_
      · intro u w1 K hE hS hU hd hK hW
        have d2 : u 2 = (.bool false) := hd 2 rfl
        have d4 : u 4 = undef := hd 4 rfl
        simp only [d2, d4] at hK
        go_simp
        exact hK _ _ (Below.refl _ _) rfl
      refine StepsAt.cons ?_ ?_
      · intro u w1 K hE hS hU hd hK hW
        have d5 : u 5 = (.bool false) := hd 5 rfl
        simp only [d5] at hK
        go_simp
        exact hK _ _ (Below.refl _ _) rfl
      refine StepsAt.cons ?_ ?_
      · intro u w1 K hE hS hU hd hK hW
        have d6 : u 6 = (.bool false) := hd 6 rfl
        simp only [d6] at hK
        go_simp
        exact hK _ _ (Below.refl _ _) rfl
      refine StepsAt.cons ?_ ?_
      · intro u w1 K hE hS hU hd hK hW
        have d6 : u 6 = (.bool false) := hd 6 rfl
        simp only [d6] at hK
        go_simp
        exact hK _ _ (Below.refl _ _) rfl
      refine StepsAt.cons ?_ ?_
      · intro u w1 K hE hS hU hd hK hW
        have d6 : u 6 = (.bool false) := hd 6 rfl
        have d7 : u 7 = undef := hd 7 rfl
        have d8 : u 8 = undef := hd 8 rfl
        simp only [d6, d7, d8] at hK
        go_simp
        exact hK _ _ (Below.refl _ _) rfl
      refine StepsAt.cons ?_ ?_
      · intro u w1 K hE hS hU hd hK hW
        have d6 : u 6 = (.bool false) := hd 6 rfl
        have d9 : u 9 = undef := hd 9 rfl
        simp only [d6, d9] at hK
        go_simp
        exact hK _ _ (Below.refl _ _) rfl
      refine StepsAt.cons ?_ ?_
      · intro u w1 K hE hS hU hd hK hW
        have d6 : u 6 = (.bool false) := hd 6 rfl
        simp only [d6] at hK
        go_simp
        exact hK _ _ (Below.refl _ _) rfl
      refine StepsAt.cons ?_ ?_
      · intro u w1 K hE hS hU hd hK hW
        have d6 : u 6 = (.bool false) := hd 6 rfl
        have d11 : u 11 = undef := hd 11 rfl
        simp only [d6, d11] at hK
        go_simp
        exact hK _ _ (Below.refl _ _) rfl
      refine StepsAt.cons ?_ ?_
      · intro u w1 K hE hS hU hd hK hW
        have d6 : u 6 = (.bool false) := hd 6 rfl
        have d10 : u 10 = undef := hd 10 rfl
        have d12 : u 12 = undef := hd 12 rfl
        simp only [d6, d10, d12] at hK
        go_simp
        exact hK _ _ (Below.refl _ _) rfl
      refine StepsAt.cons ?_ ?_
      · intro u w1 K hE hS hU hd hK hW
        have d6 : u 6 = (.bool false) := hd 6 rfl
        have d13 : u 13 = undef := hd 13 rfl
        simp only [d6, d13] at hK
        go_simp
        exact hK _ _ (Below.refl _ _) rfl
      refine StepsAt.cons ?_ ?_
      · intro u w1 K hE hS hU hd hK hW
        have d14 : u 14 = (.bool false) := hd 14 rfl
        simp only [d14] at hK
        go_simp
        exact hK _ _ (Below.refl _ _) rfl
      refine StepsAt.cons ?_ ?_
      · intro u w1 K hE hS hU hd hK hW
        have d15 : u 15 = (.bool false) := hd 15 rfl
        simp only [d15] at hK
        go_simp
        exact hK _ _ (Below.refl _ _) rfl
      refine StepsAt.cons ?_ ?_
      · intro u w1 K hE hS hU hd hK hW
        have d15 : u 15 = (.bool false) := hd 15 rfl
        have d16 : u 16 = (.int .i64 50) := hd 16 rfl
        simp only [d15, d16] at hK
        go_simp
        exact hK _ _ (Below.refl _ _) rfl
      refine StepsAt.cons ?_ ?_
      · intro u w1 K hE hS hU hd hK hW
        have d15 : u 15 = (.bool false) := hd 15 rfl
        have d17 : u 17 = (.bool true) := hd 17 rfl
        simp only [d15, d17] at hK
        go_simp
        exact hK _ _ (Below.refl _ _) rfl
      refine StepsAt.cons ?_ ?_
      · intro u w1 K hE hS hU hd hK hW
        have d18 : u 18 = (.bool true) := hd 18 rfl
        simp only [d18] at hK
        go_simp
        exact hK _ _ (Below.refl _ _) rfl
      refine StepsAt.cons ?_ ?_
      · intro u w1 K hE hS hU hd hK hW
        have d18 : u 18 = (.bool true) := hd 18 rfl
        have d19 : u 19 = (.int .i64 0) := hd 19 rfl
        simp only [d18, d19] at hK
        go_simp
        exact hK _ _ (Below.refl _ _) rfl
      refine StepsAt.cons ?_ ?_
      · intro u w1 K hE hS hU hd hK hW
        have d15 : u 15 = (.bool false) := hd 15 rfl
        have d18 : u 18 = (.bool true) := hd 18 rfl
        have d20 : u 20 = (.bool true) := hd 20 rfl
        simp only [d15, d18, d20] at hK
        go_simp
        exact hK _ _ (Below.refl _ _) rfl
      refine StepsAt.cons ?_ ?_
      · intro u w1 K hE hS hU hd hK hW
        have d15 : u 15 = (.bool false) := hd 15 rfl
        have d21 : u 21 = (.bool true) := hd 21 rfl
        simp only [d15, d21] at hK
        go_simp
        exact hK _ _ (Below.refl _ _) rfl
      refine StepsAt.cons ?_ ?_
      · intro u w1 K hE hS hU hd hK hW
        have d22 : u 22 = (.bool true) := hd 22 rfl
        simp only [d22] at hK
        go_simp
        exact hK _ _ (Below.refl _ _) rfl
      refine StepsAt.cons ?_ ?_
      · intro u w1 K hE hS hU hd hK hW
        have d22 : u 22 = (.bool true) := hd 22 rfl
        have d23 : u 23 = (.slice D5 0 e5) := hd 23 rfl
        simp only [d22, d23] at hK
        go_simp
        exact hK _ _ (Below.refl _ _) rfl
      refine StepsAt.cons ?_ ?_
      · intro u w1 K hE hS hU hd hK hW
        have d22 : u 22 = (.bool true) := hd 22 rfl
        have d24 : u 24 = (.int .i64 0) := hd 24 rfl
        simp only [d22, d24] at hK
        go_simp
        exact hK _ _ (Below.refl _ _) rfl
      refine StepsAt.cons ?_ ?_
      · intro u w1 K hE hS hU hd hK hW
        have d15 : u 15 = (.bool false) := hd 15 rfl
        have d22 : u 22 = (.bool true) := hd 22 rfl
        have d25 : u 25 = (.bool true) := hd 25 rfl
        simp only [d15, d22, d25] at hK
        go_simp
        exact hK _ _ (Below.refl _ _) rfl
      refine StepsAt.cons ?_ ?_
      · intro u w1 K hE hS hU hd hK hW
        have d15 : u 15 = (.bool false) := hd 15 rfl
        have d26 : u 26 = (.bool true) := hd 26 rfl
        simp only [d15, d26] at hK
        go_simp
        exact hK _ _ (Below.refl _ _) rfl
      refine StepsAt.cons ?_ ?_
      · intro u w1 K hE hS hU hd hK hW
        have d27 : u 27 = (.bool true) := hd 27 rfl
        simp only [d27] at hK
        go_simp
        exact hK _ _ (Below.refl _ _) rfl
      exact StepsAt.nil
    case fin =>
      intro u w9 hE9 hP
      have d28 : u 28 = (.bool true) := hP 28 (by decide) (by decide)
      simp only [d28]
      have HX := Lib.hid (Ext.trans' B6.out hE9)
      have t1 := text_at (n := l.length) (c := c1) (R1.out.ext HX.out) rfl
      have t2 := text_at (n := VM.length) (c := c6) (W6r.out.ext hE9) rfl
      unfold Str at t1 t2
      clear hE9
      rcases HText.out with ⟨hG, hV⟩|⟨hG, hT, hM⟩
      · subst hG; rw [hV] at t2; go_wp2_with fail; go_ret; exact ⟨rfl, HX.out⟩
      · subst hG; subst hT; subst hM; go_wp2_with fail; go_ret; exact ⟨rfl, HX.out⟩

end Go.Proofs.Ytpalnlcjhpkkpaa
