/-
  Joined: Sort3, TellP. Nothing is proved here of a statement.
-/
import Derived.Test.YtpdghiplnlhnfaaGreatMJ
namespace Go.Proofs.YtpdghiplnlhnfaaGreat.Ax
set_option linter.unusedSimpArgs false
set_option linter.unusedVariables false
open Go Go.Proofs
set_option maxRecDepth 100000
set_option linter.unusedSimpArgs false
set_option linter.unusedVariables false
theorem wr_2k {k : Nat} (h : k < 1099511627776) : wr (2 * (k : Int)) = ((2 * k : Nat) : Int) := by rw [wr_fit (by unfold Fit; omega)]; omega
theorem wr_k2 {k : Nat} (h : k < 1099511627776) : wr ((k : Int) * 2) = ((2 * k : Nat) : Int) := by rw [wr_fit (by unfold Fit; omega)]; omega
theorem dle {a b : Nat} (e : decide ((a : Int) ≤ (b : Int)) = true) : a ≤ b := by simpa using e
theorem dnle {a b : Nat} (e : decide ((a : Int) ≤ (b : Int)) = false) : b < a := by simpa using e
theorem split_len {l : List Ev} {n : Nat} (h : n ≤ l.length) : ∃ a b, l = a ++ b ∧ a.length = n := ⟨l.take n, l.drop n, (List.take_append_drop _ _).symm, by simp; omega⟩
set_option maxHeartbeats 1000000 in
theorem c107 (h : List Ob) (id st n : Nat) (l : List Ev) (hi : h[id]? = some (evRow l st)) (hn : n = l.length) (hl : l.length < 1099511627776) :
    ACalls Tryz.prog 129 [.tl id st, i64 n, .fn (.func 96) [] []] h fun r h' => r = .tup [] ∧ h' = h.set id (evRow (stabE l) st) := by
  have hg : ∀ o, (h.set id o)[id]? = some o := fun o => get_set_same hi
  refine acalls_wp Tryz.f129 [] 63 rfl rfl rfl rfl rfl rfl (by decide) (⟨_, _, ⟨rfl, rfl⟩, resK_set hi rfl⟩) fun B => ?_
  simp only [go_sem]
  refine wp_loop_a (by decide) (fun k T h' => ∃ D R, D ++ blkE 20 R = blkE 20 l ∧ D.length + R.length = n ∧ h' = h.set id (evRow (D ++ R) st) ∧ T 0 = .tl id st ∧ T 1 = i64 n ∧ T 2 = .fn (.func 96) [] [] ∧ T 6 = i64 (20 : Nat) ∧ T 7 = i64 D.length ∧ T 8 = i64 (D.length + 20 : Nat) ∧ k = R.length) l.length
    ⟨[], l, rfl, by simp [hn], (set_self hi).symm, by simp only [go_sem], by simp only [go_sem], by simp only [go_sem], by (simp only [go_sem] <;> rfl), by (simp only [go_sem] <;> rfl), by (simp only [go_sem] <;> rfl), rfl⟩ ?_
  rintro k T h' ⟨D, R, h1, h2, rfl, t0, t1, t2, t6, t7, t8, rfl⟩
  simp only [go_sem, t1, t8]
  refine ways (fun e => ?_) (fun e => ?_)
  · have hle := dle e
    obtain ⟨R1, R2, rfl, hR1⟩ := split_len (l := R) (n := 20) (by omega)
    simp only [List.length_append] at h2
    have w1 : wr (((D.length + 20 : Nat) : Int) + 20) = ((D.length + 20 + 20 : Nat) : Int) := wr_add (b := 20) (by omega)
    rw [blkE_app hR1 (by omega)] at h1
    have hs := stabE_len R1
    simp only [go_sem, t0, t2, t6, t7, t8]
    refine call_by (c116 _ id st _ _ D R1 R2 (hg _) rfl (by omega) (by simp; omega)) ?_
    rintro _ h3 ⟨rfl, e3⟩
    subst e3
    simp only [go_sem, t8, t6, w1, List.set_set]
    exact ⟨R2.length, by omega, D ++ stabE R1, R2, by rw [← h1]; simp, by simp; omega, by simp, t0, t1, t2, i64_congr (by simp; omega), i64_congr (by simp; omega), rfl⟩
  · have hgt := dnle e
    have hR : R.length < 20 := by omega
    rw [blkE_le (by omega)] at h1
    simp only [go_sem, t0, t1, t2, t7]
    refine call_by (c116 _ id st _ _ D R [] (by rw [hg]; simp) rfl (by omega) (by simp; omega)) ?_
    rintro _ h3 ⟨rfl, e3⟩
    subst e3
    rw [List.append_nil, h1]
    simp only [go_sem, List.set_set]
    refine wp_loop_a (by decide) (fun k T h' => ∃ bs : Nat, 0 < bs ∧ bs < 2199023255552 ∧ h' = h.set id (evRow (blkE bs l) st) ∧ T 0 = .tl id st ∧ T 1 = i64 n ∧ T 2 = .fn (.func 96) [] [] ∧ T 6 = i64 bs ∧ k = n - bs) (n - 20)
      ⟨20, by omega, by omega, rfl, by simp only [go_sem, t0], by simp only [go_sem, t1], by simp only [go_sem, t2], by simp only [go_sem, t6], rfl⟩ ?_
    clear t0 t1 t2 t6 t7 t8 h1 h2 hR hgt e
    rintro k T h' ⟨bs, hb0, hb1, rfl, t0, t1, t2, t6, rfl⟩
    simp only [go_sem, t1, t6]
    refine ways (fun e => ?_) (fun e => ?_)
    · have hlt := dlt e
      have w1 := wr_2k (k := bs) (by omega)
      have w2 := wr_k2 (k := bs) (by omega)
      simp only [go_sem, t6, w1]
      refine wp_loop_a (by decide) (fun k T h' => ∃ D R, D ++ blkE (2 * bs) R = blkE (2 * bs) l ∧ D.length + R.length = n ∧ h' = h.set id (evRow (D ++ blkE bs R) st) ∧ T 0 = .tl id st ∧ T 1 = i64 n ∧ T 2 = .fn (.func 96) [] [] ∧ T 6 = i64 bs ∧ T 7 = i64 D.length ∧ T 8 = i64 (D.length + 2 * bs : Nat) ∧ k = R.length) l.length
        ⟨[], l, rfl, by simp [hn], rfl, by simp only [go_sem, t0], by simp only [go_sem, t1], by simp only [go_sem, t2], by simp only [go_sem, t6], by (simp only [go_sem] <;> rfl), by (simp only [go_sem] <;> exact i64_congr (by simp)), rfl⟩ ?_
      clear t0 t1 t2 t6
      rintro k T h' ⟨D, R, h1, h2, rfl, t0, t1, t2, t6, t7, t8, rfl⟩
      simp only [go_sem, t1, t8]
      refine ways (fun e => ?_) (fun e => ?_)
      · have hle := dle e
        obtain ⟨R1, R4, rfl, hR1⟩ := split_len (l := R) (n := bs) (by omega)
        obtain ⟨R2, R3, rfl, hR2⟩ := split_len (l := R4) (n := bs) (by simp at h2; omega)
        simp only [List.length_append] at h2
        have w3 : wr (((D.length : Nat) : Int) + (bs : Int)) = ((D.length + bs : Nat) : Int) := wr_add (by omega)
        have w4 : wr (((D.length + 2 * bs : Nat) : Int) + ((2 * bs : Nat) : Int)) = ((D.length + 2 * bs + 2 * bs : Nat) : Int) := wr_add (by omega)
        have hq : blkE (2 * bs) (R1 ++ (R2 ++ R3)) = stabE (R1 ++ R2) ++ blkE (2 * bs) R3 := by
          rw [← List.append_assoc, blkE_app (by simp; omega) (by omega)]
        rw [hq] at h1
        rw [blkE_app hR1 (by omega), blkE_app hR2 (by omega)]
        have hs1 := stabE_len R1
        have hs2 := stabE_len R2
        have hs3 := stabE_len (R1 ++ R2)
        simp only [List.length_append] at hs3
        have hb3 := blkE_len bs R3
        simp only [go_sem, t0, t2, t6, t7, t8, w3]
        refine call_by (c117 _ _ id st _ _ _ D (stabE R1) (stabE R2) (blkE bs R3) (hg _) rfl (by omega) (by omega) (by omega) (by omega) (stabE_srt _) (stabE_srt _) (by omega) (Nat.le_refl _)) ?_
        rintro _ h3 ⟨rfl, e3⟩
        subst e3
        rw [merge_stab]
        simp only [go_sem, t8, t6, w1, w4, List.set_set]
        exact ⟨R3.length, by omega, D ++ stabE (R1 ++ R2), R3, by rw [← h1]; simp, by simp; omega, by simp, t0, t1, t2, i64_congr (by simp; omega), i64_congr (by simp; omega), rfl⟩
      · have hgt := dnle e
        have w3 : wr (((D.length : Nat) : Int) + (bs : Int)) = ((D.length + bs : Nat) : Int) := wr_add (by omega)
        simp only [go_sem, t1, t6, t7, w3]
        refine ways (fun e => ?_) (fun e => ?_)
        · have hlt2 := dlt e
          obtain ⟨R1, R2, rfl, hR1⟩ := split_len (l := R) (n := bs) (by omega)
          simp only [List.length_append] at h2
          rw [blkE_app hR1 (by omega), blkE_le (by omega)]
          rw [blkE_le (by simp; omega), ← merge_stab] at h1
          have hs1 := stabE_len R1
          have hs2 := stabE_len R2
          simp only [go_sem, t0, t1, t2, t6, t7]
          refine call_by (c117 _ _ id st _ _ _ D (stabE R1) (stabE R2) [] (by rw [hg]; simp) rfl (by omega) (by omega) (by omega) (by omega) (stabE_srt _) (stabE_srt _) (by simp; omega) (Nat.le_refl _)) ?_
          rintro _ h3 ⟨rfl, e3⟩
          subst e3
          rw [List.append_nil, h1]
          simp only [go_sem, t6, w2, List.set_set]
          exact ⟨n - 2 * bs, by omega, 2 * bs, by omega, by omega, rfl, t0, t1, t2, rfl, rfl⟩
        · have hge := dnlt e
          rw [blkE_le (by omega)]
          rw [blkE_le (by omega)] at h1
          rw [h1]
          simp only [go_sem, t6, w2]
          exact ⟨n - 2 * bs, by omega, 2 * bs, by omega, by omega, rfl, t0, t1, t2, rfl, rfl⟩
    · have hge := dnlt e
      rw [blkE_le (by omega)]
      simp only [go_sem]
      exact ⟨.tup [], by simp only [go_sem], .inl ⟨rfl, rfl⟩⟩
theorem sl_cases {h : List Ob} {x : AV} {r : List AV} {rs : List (List AV)} (hr : rowsOf h x = some (r :: rs)) : (∃ e xs, x = .sl e xs) ∨ (∃ i s, x = .tl i s) ∨ (∃ a e i n, x = .vw a e i n) := by
  cases x with
  | sl e xs => exact .inl ⟨_, _, rfl⟩
  | tl i s => exact .inr (.inl ⟨_, _, rfl⟩)
  | vw a e i n => exact .inr (.inr ⟨_, _, _, _, rfl⟩)
  | v x =>
    unfold rowsOf at hr
    split at hr <;> rename_i heq <;> first
      | (cases heq; done)
      | (injection heq with heq; subst heq; injection hr with hr; cases hr)
      | cases hr
  | em => injection hr with hr; cases hr
  | _ => cases hr
theorem ev_all (l : List Ev) : ((l.map evC).all fun r => r.length == 11 && r.all AV.one) = true := by
  rw [List.all_eq_true]
  intro r hr
  obtain ⟨e, _, rfl⟩ := List.mem_map.1 hr
  rfl
theorem c116z (x f : AV) : Pure Tryz.prog 150 [x, i64 0, i64 0, f] (.tup []) := fun h => by
  refine acalls_wp Tryz.f150 [] 53 rfl rfl rfl rfl rfl rfl (by decide) (⟨_, _, ⟨rfl, rfl⟩, .refl⟩) fun B => ?_
  simp only [go_sem]
  refine wp_unroll 1 (rnd_succ (by decide) ?_)
  simp only [go_sem]
  (first | refine endA_pure0 ?_ | refine endA_pure ?_ (by rfl)) <;> (simp only [go_sem] <;> try rfl)
theorem c107z (x f : AV) : Pure Tryz.prog 129 [x, i64 0, f] (.tup []) := fun h => by
  refine acalls_wp Tryz.f129 [] 63 rfl rfl rfl rfl rfl rfl (by decide) (⟨_, _, ⟨rfl, rfl⟩, .refl⟩) fun B => ?_
  simp only [go_sem]
  refine wp_unroll 1 (rnd_succ (by decide) ?_)
  simp only [go_sem]
  refine call_by (c116z _ _ _) ?_
  rintro _ h3 ⟨rfl, e3⟩
  subst e3
  simp only [go_sem]
  refine wp_unroll 1 (rnd_succ (by decide) ?_)
  simp only [go_sem]
  (first | refine endA_pure0 ?_ | refine endA_pure ?_ (by rfl)) <;> (simp only [go_sem] <;> try rfl)
theorem c88 (h : List Ob) (id st : Nat) (l : List Ev) (hi : h[id]? = some (evRow l st)) (hl : l.length < 1099511627776) :
    ACalls Tryz.prog 95 [.tl id st, .fn (.func 96) [] []] h fun r h' => r = .tup [] ∧ h' = h.set id (evRow (stabE l) st) := by
  refine acalls_wp Tryz.f95 [] 9 rfl rfl rfl rfl rfl rfl (by decide) (⟨_, _, ⟨rfl, rfl⟩, resK_set hi rfl⟩) fun B => ?_
  simp only [go_sem, hi, List.length_map]
  refine call_by (c107 _ id st _ l hi rfl hl) ?_
  rintro _ h3 ⟨rfl, e3⟩
  subst e3
  simp only [go_sem]
  exact ⟨.tup [], by simp only [go_sem], .inl ⟨rfl, rfl⟩⟩
theorem c88z (f : AV) : Pure Tryz.prog 95 [.v (.slice none 0 0), f] (.tup []) := fun h => by
  refine acalls_wp Tryz.f95 [] 9 rfl rfl rfl rfl rfl rfl (by decide) (⟨_, _, ⟨rfl, rfl⟩, .refl⟩) fun B => ?_
  simp only [go_sem]
  refine call_by (c107z _ _ _) ?_
  rintro _ h3 ⟨rfl, e3⟩
  subst e3
  simp only [go_sem]
  (first | refine endA_pure0 ?_ | refine endA_pure ?_ (by rfl)) <;> (simp only [go_sem] <;> try rfl)
theorem c87 (h : List Ob) (x : AV) (l : List Ev) (hx : SlOf h x 11 (l.map evC)) (hl : l.length < 1099511627776) :
    ACalls Tryz.prog 94 [x] h fun r h' => (l = [] ∧ h' = h ∧ r = .v (.slice none 0 0)) ∨ (h' = h ++ [evRow l 1] ∧ r = .tl h.length 1) := by
  refine acalls_of (N := 8) (rs := [.tmp 2]) (fn := Tryz.f94) rfl rfl rfl rfl (Nat.le_of_ble_eq_true rfl) rfl (⟨_, _, .inr ⟨rfl, rfl⟩, resK_app⟩) fun B => ?_
  cases l with
  | nil =>
    refine awp_nil 0 rfl hx.rows (fun m => ?_) ?_
    · refine wpC_sound _ (by decide) ?_; simp only [go_sem]
      exact ⟨.v (.slice none 0 0), by simp only [go_sem], .inl (.inl ⟨rfl, rfl⟩)⟩
    · refine wpC_sound _ (by decide) ?_; simp only [go_sem]
      exact ⟨.tl h.length 1, by simp only [go_sem], .inl (.inr ⟨rfl, rfl⟩)⟩
  | cons y l =>
    have he := hx.at (i := 0) (by simp)
    have hr := hx.rows
    have hm : isNilV x = false := by
      rcases sl_cases hr with ⟨e, xs, rfl⟩ | ⟨i, s, rfl⟩ | ⟨a, e, i, n, rfl⟩ <;> rfl
    unfold isNilV at hm
    have hr2 : ∀ L, rowsOf (h ++ L) x = some ((y :: l).map evC) := fun L => (hx.app L).rows
    have ha := ev_all (y :: l)
    have hb : ((y :: l).map evC).length * 89 ≤ 140737488355328 := by rw [List.length_map]; omega
    obtain ⟨L, hL⟩ : ∃ L, L = (y :: l).map evC := ⟨_, rfl⟩
    rw [← hL] at hr hr2 ha hb
    obtain ⟨r, L', hL2⟩ : ∃ r L', L = r :: L' := ⟨_, _, hL⟩
    rw [hL2] at hr hr2 ha hb
    rw [List.length_cons] at hb
    refine wpC_sound _ (by decide) ?_; simp only [go_sem, hr, he, hm, hr2, ha, hb, Bool.or_true, decide_true]
    refine ⟨.tl h.length 1, by simp only [go_sem], .inl (.inr ⟨?_, rfl⟩)⟩
    rw [← hL2, hL]
theorem c57 (h : List Ob) (x : AV) (l : List Ev) (hx : SlOf h x 11 (l.map evC)) (hl : l.length < 1099511627776) :
    ACalls Tryz.prog 49 [x] h fun r h' => (l = [] ∧ h' = h ∧ r = .v (.slice none 0 0)) ∨ (h' = h ++ [evRow (stabE l) 1] ∧ r = .tl h.length 1) := by
  refine acalls_wp Tryz.f49 [.tmp 2] 9 rfl rfl rfl rfl rfl rfl (by decide) (⟨_, _, .inr ⟨rfl, rfl⟩, resK_app⟩) fun B => ?_
  simp only [go_sem]
  refine call_by (c87 h x l hx hl) ?_
  rintro _ h3 (⟨rfl, rfl, rfl⟩ | ⟨rfl, rfl⟩)
  · simp only [go_sem]
    refine call_by (c88z _ _) ?_
    rintro _ h4 ⟨rfl, e3⟩
    subst e3
    simp only [go_sem]
    exact ⟨.v (.slice none 0 0), by simp only [go_sem], .inl (.inl ⟨rfl, rfl⟩)⟩
  · have hg : (h ++ [evRow l 1])[h.length]? = some (evRow l 1) := by simp
    simp only [go_sem]
    refine call_by (c88 _ _ _ l hg hl) ?_
    rintro _ h4 ⟨rfl, e3⟩
    subst e3
    simp only [go_sem]
    refine ⟨.tl h.length 1, by simp only [go_sem], .inl (.inr ⟨?_, rfl⟩)⟩
    simp
end Go.Proofs.YtpdghiplnlhnfaaGreat.Ax

namespace Go.Proofs.YtpdghiplnlhnfaaGreat.Ax
set_option linter.unusedSimpArgs false
set_option linter.unusedVariables false
open Go Go.Proofs
/-- Objects that stand behind those that were there: none of them a room. -/
def NoRes (L : List Ob) : Prop := ∀ o ∈ L, o.isRes = false
def Pre (h0 h : List Ob) : Prop := ∃ L, h = h0 ++ L ∧ NoRes L
theorem Pre.refl {h : List Ob} : Pre h h := ⟨[], by simp, fun _ h => by cases h⟩
theorem Pre.app {h0 h M : List Ob} (k : Pre h0 h) (hM : NoRes M) : Pre h0 (h ++ M) := by
  obtain ⟨L, rfl, hL⟩ := k
  refine ⟨L ++ M, by simp, fun o ho => ?_⟩
  rcases List.mem_append.1 ho with ho | ho
  · exact hL o ho
  · exact hM o ho
theorem Pre.set {h0 h : List Ob} {i : Nat} {o : Ob} (k : Pre h0 h) (hi : h0.length ≤ i) (ho : o.isRes = false) : Pre h0 (h.set i o) := by
  obtain ⟨L, rfl, hL⟩ := k
  refine ⟨L.set (i - h0.length) o, by rw [List.set_append_right _ _ hi], fun x hx => ?_⟩
  rcases List.mem_or_eq_of_mem_set hx with hx | hx
  · exact hL x hx
  · rw [hx]; exact ho
theorem Pre.resK {h0 h h' : List Ob} (k : Pre h0 h) (k' : Pre h0 h') : ResK h h' := by
  obtain ⟨L, rfl, hL⟩ := k
  obtain ⟨L', rfl, _⟩ := k'
  intro i hi
  rcases Nat.lt_or_ge i h0.length with h1 | h1
  · rw [List.getElem?_append_left h1] at hi ⊢
    exact hi
  · rw [List.getElem?_append_right h1] at hi
    have := hL _ (List.mem_of_getElem? hi)
    cases this
theorem Pre.sin {h0 h : List Ob} (k : Pre h0 h) {s : Setup} {a : SA} (q : SIn h0 s a) : SIn h s a := by
  obtain ⟨L, rfl, _⟩ := k
  exact q.app L
theorem Pre.sl {h0 h : List Ob} (k : Pre h0 h) {x : AV} {e : Nat} {rows : List (List AV)} (q : SlOf h0 x e rows) : SlOf h x e rows := by
  obtain ⟨L, rfl, _⟩ := k
  exact q.app L
theorem Pre.len {h0 h : List Ob} (k : Pre h0 h) : h0.length ≤ h.length := by
  obtain ⟨L, rfl, _⟩ := k
  simp
theorem Pre.trans {h0 h h' : List Ob} (k : Pre h0 h) (k' : Pre h h') : Pre h0 h' := by
  obtain ⟨L, rfl, hL⟩ := k'
  exact k.app hL
theorem noRes1 {o : Ob} (h : o.isRes = false) : NoRes [o] := fun x hx => by rw [List.mem_singleton.1 hx]; exact h
theorem noRes0 : NoRes [] := fun _ h => by cases h
theorem noRes_cons {o : Ob} {L : List Ob} (h : o.isRes = false) (k : NoRes L) : NoRes (o :: L) := fun x hx => by
  rcases List.mem_cons.1 hx with rfl | hx
  · exact h
  · exact k x hx
/-- A slice of the call's own, or nil. -/
def OwnS (h0 h : List Ob) (ty e : Nat) (x : AV) (rows : List (List AV)) : Prop := (x = .v (.slice none 0 0) ∧ rows = []) ∨ ∃ id st, h0.length ≤ id ∧ x = .tl id st ∧ h[id]? = some (.row ty e rows st)
theorem OwnS.app {h0 h : List Ob} {ty e : Nat} {x : AV} {rows : List (List AV)} (k : OwnS h0 h ty e x rows) (M : List Ob) : OwnS h0 (h ++ M) ty e x rows := by
  rcases k with k | ⟨id, st, k1, k2, k3⟩
  · exact .inl k
  · exact .inr ⟨id, st, k1, k2, get_app_old k3⟩
theorem OwnS.set_box {h0 h : List Ob} {ty e : Nat} {x : AV} {rows : List (List AV)} (k : OwnS h0 h ty e x rows) {i t : Nat} {cs : List AV} (hi : h[i]? = some (.box t cs)) (o : Ob) : OwnS h0 (h.set i o) ty e x rows := by
  rcases k with k | ⟨id, st, k1, k2, k3⟩
  · exact .inl k
  · refine .inr ⟨id, st, k1, k2, ?_⟩
    have : i ≠ id := fun q => by rw [q, k3] at hi; cases hi
    rw [List.getElem?_set_ne this]
    exact k3
theorem OwnS.set_row {h0 h : List Ob} {ty e : Nat} {x : AV} {rows : List (List AV)} (k : OwnS h0 h ty e x rows) {i t e' s : Nat} {xs : List (List AV)} (hi : h[i]? = some (.row t e' xs s)) (ht : ty ≠ t) (o : Ob) : OwnS h0 (h.set i o) ty e x rows := by
  rcases k with k | ⟨id, st, k1, k2, k3⟩
  · exact .inl k
  · refine .inr ⟨id, st, k1, k2, ?_⟩
    have : i ≠ id := fun q => by rw [q, k3] at hi; injection hi with hi; injection hi with h1; exact ht h1
    rw [List.getElem?_set_ne this]
    exact k3
theorem OwnS.rows {h0 h : List Ob} {ty e : Nat} {x : AV} {rows : List (List AV)} (k : OwnS h0 h ty e x rows) : SlOf h x e rows := by
  rcases k with ⟨rfl, rfl⟩ | ⟨id, st, _, rfl, k3⟩
  · exact ⟨rfl, fun h => absurd rfl h⟩
  · refine ⟨?_, fun _ => ?_⟩
    · rw [rowsOf_tl, k3, rowTl_row, if_pos rfl]
    · rw [eOf_tl, k3, eTl_row]
structure Seg where
  from_ : Int
  to_ : Int
  kind : Int
  id : Int
  code : Int
abbrev segC (g : Seg) : List AV := [i64 g.from_, i64 g.to_, i64 g.kind, i64 g.id, i64 g.code]
structure Flg where
  id : Int
  kind : Int
abbrev flgC (f : Flg) : List AV := [i64 f.id, i64 f.kind]
structure TellS where
  open_ : Option (Ev × List Ev)
  segs : List Seg
  flags : List Flg
/-- What an open session is made of. -/
abbrev sessC (e : Ev) (o : AV) : List AV := evC e ++ [o]
/-- The teller, as it lies in memory. -/
abbrev tellC (s : Setup) (a : SA) (p x y : AV) : List AV := setupC s a ++ [p, x, y]
def OpenIn (h0 h : List Ob) (p : AV) : Option (Ev × List Ev) → Prop
  | none => p = .v (.pointer none)
  | some (e, os) => ∃ j o, h0.length ≤ j ∧ p = .ptr j 0 ∧ h[j]? = some (.box 118 (sessC e o)) ∧ OwnS h0 h 61 11 o (os.map evC)
theorem OpenIn.app {h0 h : List Ob} {p : AV} : ∀ {t : Option (Ev × List Ev)}, OpenIn h0 h p t → ∀ M, OpenIn h0 (h ++ M) p t
  | none, k, _ => k
  | some (e, os), ⟨j, o, k1, k2, k3, k4⟩, M => ⟨j, o, k1, k2, get_app_old k3, k4.app M⟩
theorem OpenIn.set_box {h0 h : List Ob} {p : AV} : ∀ {t : Option (Ev × List Ev)}, OpenIn h0 h p t → ∀ {i ty : Nat} {cs : List AV}, h[i]? = some (.box ty cs) → ty ≠ 118 → ∀ o, OpenIn h0 (h.set i o) p t
  | none, k, _, _, _, _, _, _ => k
  | some (e, os), ⟨j, x, k1, k2, k3, k4⟩, i, ty, cs, hi, ht, o => ⟨j, x, k1, k2, by
      have : i ≠ j := fun q => by rw [q, k3] at hi; injection hi with hi; injection hi with h1; exact ht h1.symm
      rw [List.getElem?_set_ne this]; exact k3, k4.set_box hi o⟩
theorem OpenIn.set_row {h0 h : List Ob} {p : AV} : ∀ {t : Option (Ev × List Ev)}, OpenIn h0 h p t → ∀ {i ty e s : Nat} {xs : List (List AV)}, h[i]? = some (.row ty e xs s) → ty ≠ 61 → ∀ o, OpenIn h0 (h.set i o) p t
  | none, k, _, _, _, _, _, _, _, _ => k
  | some (e, os), ⟨j, x, k1, k2, k3, k4⟩, i, ty, e', s, xs, hi, ht, o => ⟨j, x, k1, k2, by
      have : i ≠ j := fun q => by rw [q, k3] at hi; cases hi
      rw [List.getElem?_set_ne this]; exact k3, k4.set_row hi (Ne.symm ht) o⟩
/-- Boxes of events that nobody writes. -/
def Kept (F : List (Nat × List AV)) (h : List Ob) : Prop := ∀ z ∈ F, h[z.1]? = some (.box 61 z.2)
theorem Kept.app {F : List (Nat × List AV)} {h : List Ob} (k : Kept F h) (M : List Ob) : Kept F (h ++ M) := fun z hz => get_app_old (k z hz)
theorem Kept.set_box {F : List (Nat × List AV)} {h : List Ob} (k : Kept F h) {i ty : Nat} {cs : List AV} (hi : h[i]? = some (.box ty cs)) (ht : ty ≠ 61) (o : Ob) : Kept F (h.set i o) := fun z hz => by
  have := k z hz
  have hne : i ≠ z.1 := fun q => by rw [q, this] at hi; injection hi with hi; injection hi with hi; exact ht hi.symm
  rw [List.getElem?_set_ne hne]
  exact this
theorem Kept.set_row {F : List (Nat × List AV)} {h : List Ob} (k : Kept F h) {i ty e st : Nat} {xs : List (List AV)} (hi : h[i]? = some (.row ty e xs st)) (o : Ob) : Kept F (h.set i o) := fun z hz => by
  have := k z hz
  have hne : i ≠ z.1 := fun q => by rw [q, this] at hi; cases hi
  rw [List.getElem?_set_ne hne]
  exact this
theorem Kept.set_ne {F : List (Nat × List AV)} {h : List Ob} (k : Kept F h) {i : Nat} (hi : ∀ z ∈ F, z.1 ≠ i) (o : Ob) : Kept F (h.set i o) := fun z hz => by
  rw [List.getElem?_set_ne (Ne.symm (hi z hz))]
  exact k z hz
structure TellIn (F : List (Nat × List AV)) (h0 h : List Ob) (i : Nat) (s : Setup) (a : SA) (t : TellS) : Prop where
  pre : Pre h0 h
  le : h0.length ≤ i
  kept : Kept F h
  at_ : ∃ p x y, h[i]? = some (.box 92 (tellC s a p x y)) ∧ OwnS h0 h 55 5 x (t.segs.map segC) ∧ OwnS h0 h 86 2 y (t.flags.map flgC) ∧ OpenIn h0 h p t.open_
theorem TellIn.app {F : List (Nat × List AV)} {h0 h M : List Ob} {i : Nat} {s : Setup} {a : SA} {t : TellS} (k : TellIn F h0 h i s a t) (hM : NoRes M) : TellIn F h0 (h ++ M) i s a t := by
  obtain ⟨k1, k2, kf, p, x, y, k3, k4, k5, k6⟩ := k
  exact ⟨k1.app hM, k2, kf.app M, p, x, y, get_app_old k3, k4.app M, k5.app M, k6.app M⟩
def flagP (t : TellS) (e : Ev) (k : Int) : TellS := ⟨t.open_, t.segs, t.flags ++ [⟨e.id, k⟩]⟩
theorem get_new {α : Type} {l M : List α} {n k : Nat} (hn : n = l.length) : (l ++ M)[n + k]? = M[k]? := by
  rw [List.getElem?_append_right (by omega), show n + k - l.length = k by omega]
theorem get_new0 {α : Type} {l M : List α} {n : Nat} (hn : n = l.length) : (l ++ M)[n]? = M[0]? := get_new (k := 0) hn
theorem TellIn.any {F : List (Nat × List AV)} {h0 h : List Ob} {i : Nat} {s : Setup} {a : SA} {t : TellS} (k : TellIn F h0 h i s a t) (t' : TellS) : ∃ p' x' y' M, NoRes M ∧ TellIn F h0 (h.set i (.box 92 (tellC s a p' x' y')) ++ M) i s a t' := by
  obtain ⟨k1, k2, kf, p, x, y, k3, k4, k5, k6⟩ := k
  have hlen := k1.len
  have hi : i < h.length := by
    rcases Nat.lt_or_ge i h.length with q | q
    · exact q
    · rw [List.getElem?_eq_none q] at k3; cases k3
  cases ho : t'.open_ with
  | none =>
    refine ⟨.v (.pointer none), .tl (h.length + 0) 0, .tl (h.length + 1) 0, [.row 55 5 (t'.segs.map segC) 0, .row 86 2 (t'.flags.map flgC) 0], noRes_cons rfl (noRes1 rfl), (k1.set k2 rfl).app (noRes_cons rfl (noRes1 rfl)), k2, (kf.set_box k3 (by decide) _).app _, _, _, _, get_app_old (get_set_same k3), .inr ⟨_, 0, ?_, rfl, ?_⟩, .inr ⟨_, 0, ?_, rfl, ?_⟩, ?_⟩
    · omega
    · rw [get_new (by simp)]; rfl
    · omega
    · rw [get_new (by simp)]; rfl
    · rw [ho]; rfl
  | some q =>
    obtain ⟨e, os⟩ := q
    refine ⟨.ptr (h.length + 3) 0, .tl (h.length + 0) 0, .tl (h.length + 1) 0, [.row 55 5 (t'.segs.map segC) 0, .row 86 2 (t'.flags.map flgC) 0, .row 61 11 (os.map evC) 0, .box 118 (sessC e (.tl (h.length + 2) 0))], noRes_cons rfl (noRes_cons rfl (noRes_cons rfl (noRes1 rfl))), (k1.set k2 rfl).app (noRes_cons rfl (noRes_cons rfl (noRes_cons rfl (noRes1 rfl)))), k2, (kf.set_box k3 (by decide) _).app _, _, _, _, get_app_old (get_set_same k3), .inr ⟨_, 0, ?_, rfl, ?_⟩, .inr ⟨_, 0, ?_, rfl, ?_⟩, ?_⟩
    · omega
    · rw [get_new (by simp)]; rfl
    · omega
    · rw [get_new (by simp)]; rfl
    · rw [ho]
      refine ⟨h.length + 3, .tl (h.length + 2) 0, ?_, rfl, ?_, .inr ⟨h.length + 2, 0, ?_, rfl, ?_⟩⟩
      · omega
      · rw [get_new (by simp)]; rfl
      · omega
      · rw [get_new (by simp)]; rfl
def kindI (k : Int) : Int := if k = 3 then 1 else if k = 4 then 2 else if k = 5 then 3 else 0
def toP (first last to_ : Int) : Int := max first (min to_ last)
/-- One part more, if it has seconds. -/
def partP (t : TellS) (begin_ to_ : Int) (e : Ev) : TellS := if begin_ < to_ then ⟨t.open_, t.segs ++ [⟨begin_, to_, kindI e.kind, e.id, e.code⟩], t.flags⟩ else t
theorem TellIn.keep {F : List (Nat × List AV)} {h0 h : List Ob} {i : Nat} {s : Setup} {a : SA} {t : TellS} (k : TellIn F h0 h i s a t) (e : Ev) : TellIn ((h.length, evC e) :: F) h0 (h ++ [.box 61 (evC e)]) i s a t := by
  have q := k.app (M := [.box 61 (evC e)]) (noRes1 rfl)
  refine ⟨q.pre, q.le, fun z hz => ?_, q.at_⟩
  rcases List.mem_cons.1 hz with rfl | hz
  · rw [get_new0 rfl]; rfl
  · exact q.kept z hz
theorem TellIn.drop {z : Nat × List AV} {F : List (Nat × List AV)} {h0 h : List Ob} {i : Nat} {s : Setup} {a : SA} {t : TellS} (k : TellIn (z :: F) h0 h i s a t) : TellIn F h0 h i s a t := ⟨k.pre, k.le, fun y hy => k.kept y (List.mem_cons_of_mem _ hy), k.at_⟩
theorem TellIn.gone {F : List (Nat × List AV)} {h0 h : List Ob} {i id e st : Nat} {xs : List (List AV)} {s : Setup} {a : SA} {t : TellS} (k : TellIn F h0 h i s a t) (hi : h[id]? = some (.row 61 e xs st)) (hle : h0.length ≤ id) (ho : t.open_ = none) : TellIn F h0 (h.set id .gone) i s a t := by
  obtain ⟨k1, k2, kf, p, x, y, k3, k4, k5, k6⟩ := k
  have hne : id ≠ i := fun q => by rw [q, k3] at hi; cases hi
  rw [ho] at k6
  refine ⟨k1.set hle rfl, k2, kf.set_row hi _, p, x, y, by rw [List.getElem?_set_ne hne]; exact k3, k4.set_row hi (by decide) _, k5.set_row hi (by decide) _, ?_⟩
  rw [ho]
  exact k6
/-- What lies where, while a session is told in parts. -/
structure PartIn (F : List (Nat × List AV)) (h0 h : List Ob) (i nf nl nb nt nq : Nat) (s : Setup) (a : SA) (ow : AV) (ows : List (List AV)) (first last begin_ : Int) (by_ : Ev) (t : TellS) : Prop where
  n1 : nf ≠ nb
  n2 : nl ≠ nb
  n3 : h0.length ≤ nb
  n4 : h0.length ≤ nq
  n5 : ∀ z ∈ F, z.1 ≠ nq
  b1 : h[nf]? = some (.box 3 [i64 first])
  b2 : h[nl]? = some (.box 3 [i64 last])
  b3 : h[nb]? = some (.box 3 [i64 begin_])
  b4 : h[nt]? = some (.box 89 [.ptr i 0])
  b5 : h[nq]? = some (.box 61 (evC by_))
  t : TellIn F h0 h i s a t
  b6 : OwnS h0 h 61 11 ow ows
theorem TellIn.ex {F : List (Nat × List AV)} {h0 h : List Ob} {i : Nat} {s : Setup} {a : SA} {t : TellS} (k : TellIn F h0 h i s a t) (t' : TellS) : ∃ r h', (r = AV.tup [] ∧ TellIn F h0 h' i s a t') ∧ ResK h h' := by
  obtain ⟨p', x', y', M, _, q⟩ := k.any t'
  exact ⟨_, _, ⟨rfl, q⟩, k.pre.resK q.pre⟩
theorem TellIn.set_box {F : List (Nat × List AV)} {h0 h : List Ob} {i k ty : Nat} {s : Setup} {a : SA} {t : TellS} {cs : List AV} {o : Ob} (q : TellIn F h0 h i s a t) (hk : h[k]? = some (.box ty cs)) (h1 : ty ≠ 92) (h2 : ty ≠ 118) (hle : h0.length ≤ k) (ho : o.isRes = false) (hF : Kept F (h.set k o)) : TellIn F h0 (h.set k o) i s a t := by
  obtain ⟨k1, k2, kf, p, x, y, k3, k4, k5, k6⟩ := q
  have hne : k ≠ i := fun q => by rw [q, k3] at hk; injection hk with hk; injection hk with hk; exact h1 hk.symm
  exact ⟨k1.set hle ho, k2, hF, p, x, y, by rw [List.getElem?_set_ne hne]; exact k3, k4.set_box hk o, k5.set_box hk o, k6.set_box hk h2 o⟩
theorem box_ne {h : List Ob} {i j t u : Nat} {cs ds : List AV} (hi : h[i]? = some (.box t cs)) (hj : h[j]? = some (.box u ds)) (ht : t ≠ u) : i ≠ j := fun q => by
  rw [q, hj] at hi; injection hi with hi; injection hi with hi; exact ht hi.symm
theorem PartIn.next {F : List (Nat × List AV)} {h0 h : List Ob} {i nf nl nb nt nq : Nat} {s : Setup} {a : SA} {ow : AV} {ows : List (List AV)} {first last begin_ : Int} {by_ : Ev} {t : TellS} (k : PartIn F h0 h i nf nl nb nt nq s a ow ows first last begin_ by_ t) (b' : Int) (e' : Ev) :
    PartIn F h0 ((h.set nb (.box 3 [i64 b'])).set nq (.box 61 (evC e'))) i nf nl nb nt nq s a ow ows first last b' e' t := by
  have d1 := box_ne k.b5 k.b1 (by decide)
  have d2 := box_ne k.b5 k.b2 (by decide)
  have d3 := box_ne k.b5 k.b3 (by decide)
  have d4 := box_ne k.b5 k.b4 (by decide)
  have d5 := box_ne k.b3 k.b4 (by decide)
  have b5' : (h.set nb (.box 3 [i64 b']))[nq]? = some (.box 61 (evC by_)) := by rw [List.getElem?_set_ne (Ne.symm d3)]; exact k.b5
  refine ⟨k.n1, k.n2, k.n3, k.n4, k.n5, ?_, ?_, ?_, ?_, get_set_same b5', (k.t.set_box k.b3 (by decide) (by decide) k.n3 rfl (k.t.kept.set_box k.b3 (by decide) _)).set_box b5' (by decide) (by decide) k.n4 rfl ((k.t.kept.set_box k.b3 (by decide) _).set_ne k.n5 _), (k.b6.set_box k.b3 _).set_box b5' _⟩
  · rw [List.getElem?_set_ne d1, List.getElem?_set_ne (Ne.symm k.n1)]; exact k.b1
  · rw [List.getElem?_set_ne d2, List.getElem?_set_ne (Ne.symm k.n2)]; exact k.b2
  · rw [List.getElem?_set_ne d3]; exact get_set_same k.b3
  · rw [List.getElem?_set_ne d4, List.getElem?_set_ne d5]; exact k.b4
/-- Another teller in its place. -/
theorem PartIn.tell {F : List (Nat × List AV)} {h0 h : List Ob} {i nf nl nb nt nq : Nat} {s : Setup} {a : SA} {ow : AV} {ows : List (List AV)} {first last begin_ : Int} {by_ : Ev} {t t' : TellS} {cs : List AV} {M : List Ob} (k : PartIn F h0 h i nf nl nb nt nq s a ow ows first last begin_ by_ t) (q : TellIn F h0 (h.set i (.box 92 cs) ++ M) i s a t') :
    PartIn F h0 (h.set i (.box 92 cs) ++ M) i nf nl nb nt nq s a ow ows first last begin_ by_ t' := by
  obtain ⟨p, x, y, k3, _⟩ := k.t.at_
  have d1 := box_ne k3 k.b1 (by decide)
  have d2 := box_ne k3 k.b2 (by decide)
  have d3 := box_ne k3 k.b3 (by decide)
  have d4 := box_ne k3 k.b4 (by decide)
  have d5 := box_ne k3 k.b5 (by decide)
  have g : ∀ {j : Nat} {o : Ob}, i ≠ j → h[j]? = some o → (h.set i (.box 92 cs) ++ M)[j]? = some o := fun hne hj => get_app_old (by rw [List.getElem?_set_ne hne]; exact hj)
  exact ⟨k.n1, k.n2, k.n3, k.n4, k.n5, g d1 k.b1, g d2 k.b2, g d3 k.b3, g d4 k.b4, g d5 k.b5, q, (k.b6.set_box k3 _).app _⟩
theorem PartIn.tell2 {F : List (Nat × List AV)} {h0 h : List Ob} {i nf nl nb nt nq id ty e st : Nat} {xs : List (List AV)} {r : Ob} {s : Setup} {a : SA} {ow : AV} {ows : List (List AV)} {first last begin_ : Int} {by_ : Ev} {t t' : TellS} {cs : List AV} {M : List Ob} (k : PartIn F h0 h i nf nl nb nt nq s a ow ows first last begin_ by_ t) (hr : h[id]? = some (.row ty e xs st)) (ht : 61 ≠ ty) (q : TellIn F h0 ((h.set id r).set i (.box 92 cs) ++ M) i s a t') :
    PartIn F h0 ((h.set id r).set i (.box 92 cs) ++ M) i nf nl nb nt nq s a ow ows first last begin_ by_ t' := by
  obtain ⟨p, x, y, k3, _⟩ := k.t.at_
  have d1 := box_ne k3 k.b1 (by decide)
  have d2 := box_ne k3 k.b2 (by decide)
  have d3 := box_ne k3 k.b3 (by decide)
  have d4 := box_ne k3 k.b4 (by decide)
  have d5 := box_ne k3 k.b5 (by decide)
  have g : ∀ {j t : Nat} {ds : List AV}, i ≠ j → h[j]? = some (.box t ds) → ((h.set id r).set i (.box 92 cs) ++ M)[j]? = some (.box t ds) := fun hne hj => get_app_old (by
    have : ∀ {j t : Nat} {ds : List AV}, h[j]? = some (.box t ds) → id ≠ j := fun hj q => by rw [q, hj] at hr; cases hr
    rw [List.getElem?_set_ne hne, List.getElem?_set_ne (this hj)]; exact hj)
  exact ⟨k.n1, k.n2, k.n3, k.n4, k.n5, g d1 k.b1, g d2 k.b2, g d3 k.b3, g d4 k.b4, g d5 k.b5, q, ((k.b6.set_row hr ht _).set_box (show (h.set id r)[i]? = some (.box 92 (tellC s a p x y)) by rw [List.getElem?_set_ne (fun q => by rw [q, k3] at hr; cases hr)]; exact k3) _).app _⟩
theorem PartIn.pre {F : List (Nat × List AV)} {h0 h : List Ob} {i nf nl nb nt nq : Nat} {s : Setup} {a : SA} {ow : AV} {ows : List (List AV)} {first last begin_ : Int} {by_ : Ev} {t : TellS} (k : PartIn F h0 h i nf nl nb nt nq s a ow ows first last begin_ by_ t) : Pre h0 h := k.t.pre
theorem PartIn.app {F : List (Nat × List AV)} {h0 h M : List Ob} {i nf nl nb nt nq : Nat} {s : Setup} {a : SA} {ow : AV} {ows : List (List AV)} {first last begin_ : Int} {by_ : Ev} {t : TellS} (k : PartIn F h0 h i nf nl nb nt nq s a ow ows first last begin_ by_ t) (hM : NoRes M) : PartIn F h0 (h ++ M) i nf nl nb nt nq s a ow ows first last begin_ by_ t :=
  ⟨k.n1, k.n2, k.n3, k.n4, k.n5, get_app_old k.b1, get_app_old k.b2, get_app_old k.b3, get_app_old k.b4, get_app_old k.b5, k.t.app hM, k.b6.app M⟩
theorem PartIn.any {F : List (Nat × List AV)} {h0 h : List Ob} {i nf nl nb nt nq : Nat} {s : Setup} {a : SA} {ow : AV} {ows : List (List AV)} {first last begin_ : Int} {by_ : Ev} {t : TellS} (k : PartIn F h0 h i nf nl nb nt nq s a ow ows first last begin_ by_ t) (b' : Int) (e' : Ev) (t' : TellS) :
    ∃ r h', (r = AV.tup [] ∧ PartIn F h0 h' i nf nl nb nt nq s a ow ows first last b' e' t') ∧ ResK h h' := by
  have k2 := k.next b' e'
  obtain ⟨p', x', y', M, _, q⟩ := k2.t.any t'
  have k3 := k2.tell q
  exact ⟨_, _, ⟨rfl, k3⟩, k.pre.resK k3.pre⟩
/-- A session that ends: its parts. -/
def stepP (first last : Int) (z : Int × Ev × TellS) (x : Ev) : Int × Ev × TellS := (toP first last x.at_, x, partP z.2.2 z.1 (toP first last x.at_) z.2.1)
theorem partP_open {t : TellS} {b to_ : Int} {e : Ev} : (partP t b to_ e).open_ = t.open_ := by unfold partP; split <;> rfl
theorem partP_flags {t : TellS} {b to_ : Int} {e : Ev} : (partP t b to_ e).flags = t.flags := by unfold partP; split <;> rfl
theorem partP_len {t : TellS} {b to_ : Int} {e : Ev} : (partP t b to_ e).segs.length ≤ t.segs.length + 1 := by unfold partP; split <;> simp
theorem stepP_len {first last : Int} (os : List Ev) : ∀ {z : Int × Ev × TellS}, (os.foldl (stepP first last) z).2.2.segs.length ≤ z.2.2.segs.length + os.length := by
  induction os with
  | nil => intro z; simp
  | cons x os ih =>
    intro z
    rw [List.foldl_cons]
    have h1 := ih (z := stepP first last z x)
    have h2 := partP_len (t := z.2.2) (b := z.1) (to_ := toP first last x.at_) (e := z.2.1)
    have h3 : (stepP first last z x).2.2 = partP z.2.2 z.1 (toP first last x.at_) z.2.1 := rfl
    rw [h3] at h1
    rw [List.length_cons]
    omega
def partsP (first last : Int) (t : TellS) (e : Ev) (os : List Ev) : Int × Ev × TellS := os.foldl (stepP first last) (first, e, t)
def closeWith (first last : Int) (t : TellS) (e : Ev) (os : List Ev) : TellS := partP (partsP first last t e os).2.2 (partsP first last t e os).1 (toP first last last) (partsP first last t e os).2.1
theorem step_flags {first last : Int} (os : List Ev) : ∀ {z : Int × Ev × TellS}, (os.foldl (stepP first last) z).2.2.flags = z.2.2.flags := by
  induction os with
  | nil => intro z; rfl
  | cons x os ih =>
    intro z
    rw [List.foldl_cons, ih]
    exact partP_flags
theorem parts_flags {first last : Int} {t : TellS} {e : Ev} {os : List Ev} : (partsP first last t e os).2.2.flags = t.flags := step_flags os
end Go.Proofs.YtpdghiplnlhnfaaGreat.Ax
