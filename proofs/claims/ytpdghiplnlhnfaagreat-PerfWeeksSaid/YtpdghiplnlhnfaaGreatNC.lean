/-
  Joined: Table. Nothing is proved here of a statement.
-/
import Derived.Test.YtpdghiplnlhnfaaGreatNB
import Derived.Test.YtpdghiplnlhnfaaGreatMQ
namespace Go.Proofs.YtpdghiplnlhnfaaGreat.Ax
set_option linter.unusedSimpArgs false
set_option linter.unusedVariables false
open Go Go.Proofs
set_option maxRecDepth 100000
set_option linter.unusedSimpArgs false
set_option linter.unusedVariables false
attribute [go_sem] ty137 ty22 ty126 ty27
abbrev idRow (p : Nat × Nat) : List AV := [.tl p.1 p.2]
theorem mat_set_row {D : Mat} {a : Nat} (ha : a < D.length) (r : List Int) : (D.set a r).getD a [] = r := by
  rw [List.getD_eq_getElem?_getD, List.getElem?_set_self ha]
  rfl
/-- The table, as it lies in memory. -/
structure TabAt (h : List Ob) (o out st : Nat) (ids : List (Nat × Nat)) (D : Mat) (n : Nat) : Prop where
  box : h[o]? = some (.box 137 [.tl out st])
  row : h[out]? = some (.row 27 1 (ids.map idRow) st)
  len : ids.length = n
  sq : Sq n D
  at_ : ∀ (a : Nat) (p : Nat × Nat), ids[a]? = some p → h[p.1]? = some (.row 3 1 ((D.getD a []).map irow) p.2)
  nd : (ids.map (·.1)).Nodup
theorem TabAt.app {h : List Ob} {o out st : Nat} {ids : List (Nat × Nat)} {D : Mat} {n : Nat} (k : TabAt h o out st ids D n) (M : List Ob) : TabAt (h ++ M) o out st ids D n :=
  ⟨get_app_old k.box, get_app_old k.row, k.len, k.sq, fun a p q => get_app_old (k.at_ a p q), k.nd⟩
theorem TabAt.set {h : List Ob} {o out st : Nat} {ids : List (Nat × Nat)} {D : Mat} {n : Nat} (k : TabAt h o out st ids D n) {a : Nat} {p : Nat × Nat} (hp : ids[a]? = some p) (r : List Int) (hr : r.length = n) (han : a < n) : TabAt (h.set p.1 (.row 3 1 (r.map irow) p.2)) o out st ids (D.set a r) n := by
  have hold := k.at_ a p hp
  have e1 : p.1 ≠ o := fun q => by rw [q, k.box] at hold; cases hold
  have e2 : p.1 ≠ out := fun q => by rw [q, k.row] at hold; injection hold with hold; injection hold with h1; cases h1
  refine ⟨by rw [List.getElem?_set_ne e1]; exact k.box, by rw [List.getElem?_set_ne e2]; exact k.row, k.len, ⟨by rw [List.length_set]; exact k.sq.1, fun x hx => ?_⟩, fun b q hq => ?_, k.nd⟩
  · rcases List.mem_or_eq_of_mem_set hx with hx | rfl
    · exact k.sq.2 x hx
    · exact hr
  · by_cases hb : b = a
    · subst hb
      rw [hp] at hq; injection hq with hq; subst hq
      rw [get_set_same hold, List.getD_eq_getElem?_getD, List.getElem?_set_self (by rw [k.sq.1]; exact han)]
      rfl
    · have hne : p.1 ≠ q.1 := fun e => by
        have ha : a < ids.length := (List.getElem?_eq_some_iff.1 hp).1
        have hb2 : b < ids.length := (List.getElem?_eq_some_iff.1 hq).1
        have g1 : (ids.map (·.1))[a]? = some p.1 := by rw [List.getElem?_map, hp]; rfl
        have g2 : (ids.map (·.1))[b]? = some q.1 := by rw [List.getElem?_map, hq]; rfl
        have := (List.getElem?_inj (by simpa using ha) k.nd).1 (g1.trans (by rw [g2, e]))
        exact hb this.symm
      rw [List.getElem?_set_ne hne, k.at_ b q hq, List.getD_eq_getElem?_getD, List.getD_eq_getElem?_getD, List.getElem?_set_ne (Ne.symm hb)]
theorem near_row {n : Nat} {D : Mat} (h : Sq n D) {a b : Nat} {v : Int} (ha : a < n) : nearP D a b v = D.set a ((nearP D a b v).getD a []) := by
  obtain ⟨r, h1, h2, h3⟩ := sq_row h ha
  unfold nearP
  split
  · unfold matSet
    rw [mat_set_row (by rw [h.1]; exact ha)]
  · rw [h2]
    apply List.ext_getElem?
    intro i
    by_cases hi : i = a
    · subst hi; rw [h1, List.getElem?_set_self (by rw [h.1]; exact ha)]
    · rw [List.getElem?_set_ne (Ne.symm hi)]
theorem near_len {n : Nat} {D : Mat} (h : Sq n D) {a b : Nat} {v : Int} (ha : a < n) : ((nearP D a b v).getD a []).length = n := by
  obtain ⟨r, h1, h2, h3⟩ := sq_row (sq_near h a b v) ha
  rw [h2]; exact h3
theorem c110 (h : List Ob) (o out st : Nat) (ids : List (Nat × Nat)) (D : Mat) (n a b : Nat) (v : Int) (p : Nat × Nat) (k : TabAt h o out st ids D n) (ha : a < n) (hb : b < n) (hp : ids[a]? = some p) :
    ACalls Tryz.prog 147 [i64 a, i64 b, i64 v, .ptr o 0] h fun r h' => r = .tup [] ∧ h' = h.set p.1 (.row 3 1 (((nearP D a b v).getD a []).map irow) p.2) := by
  obtain ⟨r, r1, r2, r3⟩ := sq_row k.sq ha
  have hrow := k.at_ a p hp
  have hix : (ids.map idRow)[a]? = some [.tl p.1 p.2] := by rw [List.getElem?_map, hp]; rfl
  have hcell : ((D.getD a []).map irow)[b]? = some [i64 (matAt D a b)] := by
    unfold matAt
    rw [r2, List.getElem?_map, List.getElem?_eq_getElem (by omega), List.getD_eq_getElem?_getD, List.getElem?_eq_getElem (by omega)]
    rfl
  have l1 : (a : Int) < (ids.length : Int) := by rw [k.len]; omega
  have l2 : (b : Int) < ((D.getD a []).length : Int) := by rw [r2, r3]; omega
  have hset : ((D.getD a []).map irow).set b [i64 v] = ((matSet D a b v).getD a []).map irow := by
    unfold matSet
    rw [mat_set_row (by rw [k.sq.1]; exact ha), List.map_set]
    rfl
  obtain ⟨m, hm⟩ : ∃ m, m = matAt D a b := ⟨_, rfl⟩
  obtain ⟨rw_, hrw⟩ : ∃ rw_, rw_ = (D.getD a []).map irow := ⟨_, rfl⟩
  have l3 : (D.getD a []).length = rw_.length := by rw [hrw, List.length_map]
  rw [← hrw] at hrow hcell hset
  rw [← hm] at hcell
  rw [l3] at l2
  have bx := k.box
  have rx := k.row
  refine acalls_wp Tryz.f147 [] 33 rfl rfl rfl rfl rfl rfl (by decide) (⟨_, _, ⟨rfl, rfl⟩, resK_set hrow rfl⟩) fun B => ?_
  simp only [go_sem, bx, rx, hix, hrow, hcell, l1, l2, List.length_map, Int.toNat_natCast, Int.natCast_nonneg]
  cases f1 : m == -1
  · have g1 : ¬ matAt D a b = -1 := by rw [← hm]; simpa using f1
    simp only [go_sem, f1, bq_t, bx, rx, hix, hrow, hcell, l1, l2, List.length_map, Int.toNat_natCast, Int.natCast_nonneg]
    refine ways (fun e => ?_) (fun e => ?_)
    · have g2 : v < matAt D a b := by rw [← hm]; simpa using e
      have hn : nearP D a b v = matSet D a b v := by unfold nearP; rw [if_pos (.inr g2)]
      simp only [go_sem, bx, rx, hix, hrow, hcell, l1, l2, List.length_map, Int.toNat_natCast, Int.natCast_nonneg]
      rw [hn, ← hset]
      exact ⟨.tup [], by simp only [go_sem], .inl ⟨rfl, rfl⟩⟩
    · have g2 : ¬ v < matAt D a b := by rw [← hm]; simpa using e
      have hn : nearP D a b v = D := by unfold nearP; rw [if_neg (fun q => q.elim g1 g2)]
      simp only [go_sem]
      rw [hn, ← hrw, set_self hrow]
      exact ⟨.tup [], by simp only [go_sem], .inl ⟨rfl, rfl⟩⟩
  · have g1 : matAt D a b = -1 := by rw [← hm]; simpa using f1
    have hn : nearP D a b v = matSet D a b v := by unfold nearP; rw [if_pos (.inl g1)]
    simp only [go_sem, f1, bq_t, bx, rx, hix, hrow, hcell, l1, l2, List.length_map, Int.toNat_natCast, Int.natCast_nonneg]
    rw [hn, ← hset]
    exact ⟨.tup [], by simp only [go_sem], .inl ⟨rfl, rfl⟩⟩
theorem TabAt.near {h : List Ob} {o out st : Nat} {ids : List (Nat × Nat)} {D : Mat} {n : Nat} (k : TabAt h o out st ids D n) {a b : Nat} {v : Int} {p : Nat × Nat} (hp : ids[a]? = some p) (ha : a < n) : TabAt (h.set p.1 (.row 3 1 (((nearP D a b v).getD a []).map irow) p.2)) o out st ids (nearP D a b v) n := by
  have := k.set hp ((nearP D a b v).getD a []) (near_len k.sq ha) ha
  rwa [← near_row k.sq ha] at this
theorem TabAt.rd {h : List Ob} {o out st : Nat} {ids : List (Nat × Nat)} {D : Mat} {n : Nat} (k : TabAt h o out st ids D n) {a : Nat} {p : Nat × Nat} (hp : ids[a]? = some p) (ha : a < n) : ∃ X, h[p.1]? = some (.row 3 1 X p.2) ∧ X.length = n ∧ ∀ b, b < n → X[b]? = some [i64 (matAt D a b)] := by
  obtain ⟨r, r1, r2, r3⟩ := sq_row k.sq ha
  refine ⟨(D.getD a []).map irow, k.at_ a p hp, by rw [List.length_map, r2, r3], fun b hb => ?_⟩
  unfold matAt
  rw [r2, List.getElem?_map, List.getElem?_eq_getElem (by omega), List.getD_eq_getElem?_getD, List.getElem?_eq_getElem (by omega)]
  rfl
theorem TabAt.ix {h : List Ob} {o out st : Nat} {ids : List (Nat × Nat)} {D : Mat} {n : Nat} (k : TabAt h o out st ids D n) {a : Nat} (ha : a < n) : ∃ p, ids[a]? = some p ∧ (ids.map idRow)[a]? = some [.tl p.1 p.2] ∧ p.1 < h.length := by
  have hl : a < ids.length := by rw [k.len]; exact ha
  have hp : ids[a]? = some ids[a] := List.getElem?_eq_getElem hl
  exact ⟨ids[a], hp, by rw [List.getElem?_map, hp]; rfl, (List.getElem?_eq_some_iff.1 (k.at_ a _ hp)).1⟩
/-- While it is laid. -/
structure TabIn (h0 h : List Ob) (out n i : Nat) (ids : List (Nat × Nat)) : Prop where
  pre : Pre h0 h
  row : h[out]? = some (.row 27 1 (ids.map idRow ++ List.replicate (n - i) [.v (.slice none 0 0)]) 0)
  box : h[out + 1]? = some (.box 137 [.tl out 0])
  len : ids.length = i
  at_ : ∀ (a : Nat) (p : Nat × Nat), ids[a]? = some p → out + 2 ≤ p.1 ∧ h[p.1]? = some (.row 3 1 ((rowP n a).map irow) p.2)
  nd : (ids.map (·.1)).Nodup
theorem mat0_row {n a : Nat} (ha : a < n) : (matP0 n).getD a [] = rowP n a := by
  unfold matP0
  rw [List.getD_eq_getElem?_getD, List.getElem?_map, List.getElem?_range ha]
  rfl
theorem TabIn.full {h0 h : List Ob} {out n : Nat} {ids : List (Nat × Nat)} (k : TabIn h0 h out n n ids) : TabAt h (out + 1) out 0 ids (matP0 n) n := by
  refine ⟨k.box, by have := k.row; rw [Nat.sub_self] at this; simpa using this, k.len, sq_mat0 n, fun a p q => ?_, k.nd⟩
  have ha : a < n := by rw [← k.len]; exact (List.getElem?_eq_some_iff.1 q).1
  rw [mat0_row ha]
  exact (k.at_ a p q).2
theorem ways_in {s : Setup} (hs : setupOk s = true) : (1 ≤ s.places ∧ s.places ≤ 16) ∧ ∀ w ∈ s.ways, (0 ≤ w.1 ∧ w.1 < s.places) ∧ (0 ≤ w.2.1 ∧ w.2.1 < s.places) := by
  simp only [setupOk, placesOk, Bool.and_eq_true] at hs
  have hp := allI_one hs.1.1.1.1.1
  refine ⟨hp, fun w hw => ?_⟩
  have hb := hs.1.1.1.2
  simp only [Bool.not_eq_true', List.any_eq_false] at hb
  have := hb w hw
  have hw1 : wr (s.places - 1) = s.places - 1 := wr_fit (by unfold Fit; omega)
  simp [wayBad, allI, outI, hw1] at this
  omega
theorem tab_exists (h : List Ob) {D : Mat} {n : Nat} (k : Sq n D) : ∃ (L : List Ob) (out st : Nat) (ids : List (Nat × Nat)) (o : Nat), NoRes L ∧ TabAt (h ++ L) o out st ids D n := by
  obtain ⟨M, hM⟩ : ∃ M, M = D.map fun r => Ob.row 3 1 (r.map irow) 0 := ⟨_, rfl⟩
  obtain ⟨ids, hids⟩ : ∃ ids, ids = (List.range n).map fun a => (h.length + (2 + a), 0) := ⟨_, rfl⟩
  refine ⟨.row 27 1 (ids.map idRow) 0 :: .box 137 [.tl h.length 0] :: M, h.length, 0, ids, h.length + 1, ?_, get_new (k := 1) rfl, get_new0 rfl, by rw [hids]; simp, k, fun a p hp => ?_, ?_⟩
  · refine noRes_cons rfl (noRes_cons rfl fun o ho => ?_)
    rw [hM] at ho
    obtain ⟨r, _, rfl⟩ := List.mem_map.1 ho
    rfl
  · have ha : a < n := by
      have := (List.getElem?_eq_some_iff.1 hp).1
      rw [hids] at this; simpa using this
    rw [hids, List.getElem?_map, List.getElem?_range ha] at hp
    injection hp with hp
    subst hp
    obtain ⟨r, r1, r2, r3⟩ := sq_row k ha
    simp only
    rw [get_new rfl, show 2 + a = a + 1 + 1 by omega, List.getElem?_cons_succ, List.getElem?_cons_succ, hM, List.getElem?_map, r1, r2]
    rfl
  · rw [hids, List.map_map]
    unfold List.Nodup
    rw [List.pairwise_map]
    refine List.Pairwise.imp (fun {a b} h => ?_) (List.nodup_range (n := n))
    simpa using h
theorem sq_fold {α : Type} {n : Nat} {f : Mat → α → Mat} (hf : ∀ D x, Sq n D → Sq n (f D x)) : ∀ (l : List α) (D : Mat), Sq n D → Sq n (l.foldl f D)
  | [], _, h => h
  | x :: l, D, h => sq_fold hf l (f D x) (hf D x h)
theorem sq_viaB {n b y a : Nat} {D : Mat} (h : Sq n D) : Sq n (viaB b y a D) := by
  unfold viaB
  split
  · exact sq_near h _ _ _
  · exact h
theorem sq_viaA {n y a : Nat} {D : Mat} (h : Sq n D) : Sq n (viaA n y D a) := by
  unfold viaA
  split
  · exact h
  · exact sq_fold (fun D x h => sq_viaB h) _ _ h
theorem sq_viaY {n y : Nat} {D : Mat} (h : Sq n D) : Sq n (viaY n D y) := sq_fold (fun D x h => sq_viaA h) _ _ h
theorem sq_table (s : Setup) : Sq s.places.toNat (tableP s) :=
  sq_fold (fun D x h => sq_viaY h) _ _ (sq_fold (fun D w h => sq_near (sq_near h _ _ _) _ _ _) _ _ (sq_mat0 _))
set_option maxHeartbeats 2000000 in
theorem c91 (h : List Ob) (s : Setup) (a : SA) (k : SIn h s a) (f : SFit s) (hs : setupOk s = true) :
    ACalls Tryz.prog 117 [setupV s a] h fun r h' => ∃ (L : List Ob) (out st : Nat) (ids : List (Nat × Nat)) (o : Nat), h' = h ++ L ∧ NoRes L ∧ r = .tl out st ∧ TabAt h' o out st ids (tableP s) s.places.toNat := by
  have hex : ∃ r h', (∃ (L : List Ob) (out st : Nat) (ids : List (Nat × Nat)) (o : Nat), h' = h ++ L ∧ NoRes L ∧ r = AV.tl out st ∧ TabAt h' o out st ids (tableP s) s.places.toNat) ∧ ResK h h' := by
    obtain ⟨L, out, st, ids, o, q1, q2⟩ := tab_exists h (sq_table s)
    exact ⟨_, _, ⟨L, out, st, ids, o, rfl, q1, rfl, q2⟩, resK_app⟩
  obtain ⟨⟨p1, p2⟩, hways⟩ := ways_in hs
  obtain ⟨n, hn⟩ : ∃ n : Nat, n = s.places.toNat := ⟨_, rfl⟩
  have hpl : s.places = (n : Int) := by omega
  have hnb : (n : Int) * 25 ≤ 140737488355328 := by omega
  refine acalls_wp Tryz.f117 [.tmp 2] 109 rfl rfl rfl rfl rfl rfl (by decide) (hex) fun B => ?_
  simp only [go_sem, k.w.one, k.e.one, k.c.one, k.g.one, k.r.one, k.t.one]
  refine call_by (c16 _ s a (k.app _) f) ?_
  rintro _ h1 ⟨rfl, e2⟩
  subst e2
  obtain ⟨h0, hh0⟩ : ∃ h0, h0 = h ++ [Ob.box 30 (setupC s a)] := ⟨_, rfl⟩
  have hl0 : h0.length = h.length + 1 := by rw [hh0]; simp
  have h30 : h0[h.length]? = some (.box 30 (setupC s a)) := by rw [hh0]; exact get_new0 rfl
  have k0 : SIn h0 s a := by rw [hh0]; exact k.app _
  have hP : (h ++ [Ob.box 30 (setupC s a)])[h.length]? = some (.box 30 (setupC s a)) := get_new0 rfl
  simp only [go_sem, hs, Bool.not_true, hpl, hnb, Int.toNat_natCast, Int.natCast_nonneg]
  refine wp_loop_a (by decide) (fun m T h' => ∃ (i : Nat) (ids : List (Nat × Nat)), i ≤ n ∧ TabIn h0 h' (h.length + 1) n i ids ∧ T 1 = .ptr h.length 0 ∧ T 3 = .ptr (h.length + 2) 0 ∧ T 19 = i64 n ∧ T 20 = i64 i ∧ m = n - i) n
    ⟨0, [], by omega, ⟨⟨_, by rw [hh0, List.append_assoc]; rfl, noRes_cons rfl (noRes1 rfl)⟩, by rw [get_new (k := 1) rfl]; rfl, by rw [get_new (k := 2) rfl]; rfl, rfl, fun _ _ q => by simp at q, .nil⟩, by simp only [go_sem], by simp only [go_sem], by simp only [go_sem], by (simp only [go_sem] <;> rfl), rfl⟩ ?_
  rintro m T h' ⟨i, ids, hi, ht, t1, t3, t19, t20, rfl⟩
  simp only [go_sem, t19, t20]
  refine ways (fun e => ?_) (fun e => ?_)
  · have hlt : i < n := dlt e
    have hb30 : ∀ M, (h' ++ M)[h.length]? = some (.box 30 (setupC s a)) := fun M => by
      obtain ⟨L, rfl, _⟩ := ht.pre
      rw [List.append_assoc]; exact get_app_old h30
    have hbx : ∀ M, (h' ++ M)[h.length + 2]? = some (.box 137 [.tl (h.length + 1) 0]) := fun M => get_app_old ht.box
    have hrw : ∀ M, (h' ++ M)[h.length + 1]? = some (.row 27 1 (ids.map idRow ++ List.replicate (n - i) [.v (.slice none 0 0)]) 0) := fun M => get_app_old ht.row
    have hrl : (ids.map idRow ++ List.replicate (n - i) [AV.v (.slice none 0 0)]).length = n := by simp [ht.len]; omega
    have hil : (i : Int) < (n : Int) := by omega
    simp only [go_sem]
    refine wp_draw rfl [.res] 1 [(1, 0, []), (3, 0, []), (0, 0, []), (4, 0, []), (2, 0, []), (5, 0, [0]), (6, 0, []), (7, 0, [])] rfl (by decide) (by decide) ?_
    simp only [go_sem, t1, t3, t19, t20, hbx, hrw, hb30, hpl]
    refine call_by (c109 (h' ++ [Ob.row 3 1 [[i64 (-1)]] 0]) (.tl h'.length 0) (-1) n (sl_row (by rw [get_new0 rfl]; rfl)) (by omega) (by omega)) ?_
    rintro _ h4 ⟨L, id, st, rfl, n1, hid, rfl, hidr⟩
    have hlen' : h.length + 2 < h'.length := (List.getElem?_eq_some_iff.1 ht.box).1
    simp only [List.length_append, List.length_cons, List.length_nil] at hid
    obtain ⟨h5, hh5⟩ : ∃ h5, h5 = h' ++ [Ob.row 3 1 [[i64 (-1)]] 0] ++ L := ⟨_, rfl⟩
    have hp5 : Pre h0 h5 := by rw [hh5]; exact (ht.pre.app (noRes1 rfl)).app n1
    have b5 : h5[h.length + 2]? = some (.box 137 [.tl (h.length + 1) 0]) := by rw [hh5, List.append_assoc]; exact hbx _
    have r5 : h5[h.length + 1]? = some (.row 27 1 (ids.map idRow ++ List.replicate (n - i) [.v (.slice none 0 0)]) 0) := by rw [hh5, List.append_assoc]; exact hrw _
    have at5 : ∀ (a : Nat) (p : Nat × Nat), ids[a]? = some p → h5[p.1]? = some (.row 3 1 ((rowP n a).map irow) p.2) := fun a p q => by
      rw [hh5, List.append_assoc]; exact get_app_old (ht.at_ a p q).2
    rw [← hh5] at hidr
    obtain ⟨R, hR⟩ : ∃ R, R = ids.map idRow ++ List.replicate (n - i) [AV.v (.slice none 0 0)] := ⟨_, rfl⟩
    rw [← hR] at r5 hrl
    have hset : R.set i [.tl id st] = (ids ++ [(id, st)]).map idRow ++ List.replicate (n - (i + 1)) [AV.v (.slice none 0 0)] := by
      rw [hR, List.set_append_right _ _ (by simp [ht.len])]
      simp only [List.length_map, ht.len, Nat.sub_self, List.map_append, List.map_cons, List.map_nil]
      rw [show n - i = (n - (i + 1)) + 1 by omega, List.replicate_succ]
      simp
    have rI : R[i]? = some [AV.v (.slice none 0 0)] := by
      rw [hR, List.getElem?_append_right (by simp [ht.len]), List.length_map, ht.len, Nat.sub_self, List.getElem?_replicate, if_pos (by omega)]
    have s1 : ∀ o, (h5.set (h.length + 1) o)[h.length + 1]? = some o := fun o => get_set_same r5
    have s2 : ∀ o, (h5.set (h.length + 1) o)[h.length + 2]? = some (.box 137 [.tl (h.length + 1) 0]) := fun o => by rw [List.getElem?_set_ne (by omega)]; exact b5
    have s3 : ∀ o, (h5.set (h.length + 1) o)[id]? = some (.row 3 1 (List.replicate n [i64 (-1)]) st) := fun o => by rw [List.getElem?_set_ne (by omega)]; exact hidr
    have s4 : (R.set i [.tl id st])[i]? = some [.tl id st] := List.getElem?_set_self (by omega)
    have s5 : (R.set i [.tl id st]).length = n := by rw [List.length_set]; exact hrl
    have s7 : (List.replicate n [i64 (-1)])[i]? = some [i64 (-1)] := by rw [List.getElem?_replicate, if_pos hlt]
    have s6 : (List.replicate n [i64 (-1)]).length = n := List.length_replicate
    rw [← hh5]
    simp only [go_sem, t3, t20, b5, r5, hrl, hil, rI, s1, s2, s3, s4, s5, s6, s7, Int.toNat_natCast, Int.natCast_nonneg]
    have hplt : ∀ (a : Nat) (p : Nat × Nat), ids[a]? = some p → p.1 < h'.length := fun a p q => (List.getElem?_eq_some_iff.1 (ht.at_ a p q).2).1
    have hF : TabIn h0 ((h5.set (h.length + 1) (.row 27 1 (R.set i [.tl id st]) 0)).set id (.row 3 1 ((List.replicate n [i64 (-1)]).set i [i64 0]) st)) (h.length + 1) n (i + 1) (ids ++ [(id, st)]) := by
      refine ⟨(hp5.set (by omega) rfl).set (by omega) rfl, ?_, ?_, by simp [ht.len], fun a p q => ?_, ?_⟩
      · rw [List.getElem?_set_ne (by omega), s1, hset]
      · rw [List.getElem?_set_ne (by omega)]; exact s2 _
      · by_cases ha : a < i
        · rw [List.getElem?_append_left (by rw [ht.len]; exact ha)] at q
          have h1 := ht.at_ a p q
          have h2 := hplt a p q
          exact ⟨h1.1, by rw [List.getElem?_set_ne (by omega), List.getElem?_set_ne (by omega)]; exact at5 a p q⟩
        · have hai : a = i := by
            have := (List.getElem?_eq_some_iff.1 q).1
            simp [ht.len] at this
            omega
          subst hai
          rw [List.getElem?_append_right (by rw [ht.len]; exact Nat.le_refl _), ht.len, Nat.sub_self] at q
          injection q with q
          subst q
          refine ⟨by simp only; omega, ?_⟩
          rw [get_set_same (s3 _)]
          simp [rowP, irow, List.map_set]
      · rw [List.map_append, List.nodup_append]
        refine ⟨ht.nd, by simp, fun x hx y hy => ?_⟩
        obtain ⟨p, hp, rfl⟩ := List.mem_map.1 hx
        obtain ⟨a, ha⟩ := List.mem_iff_getElem?.1 hp
        have := hplt a p ha
        simp at hy
        omega
    exact ⟨n - (i + 1), by omega, i + 1, ids ++ [(id, st)], by omega, hF, t1, t19, t_succ (by omega) rfl, rfl⟩
  · have hge : n ≤ i := dnlt e
    have hin : i = n := by omega
    subst hin
    have htab := ht.full
    have hpre := ht.pre
    have hge0 : ∀ (a : Nat) (p : Nat × Nat), ids[a]? = some p → h0.length ≤ p.1 := fun a p q => by have := (ht.at_ a p q).1; omega
    clear ht hi
    have hb30 : ∀ {h' : List Ob}, Pre h0 h' → h'[h.length]? = some (.box 30 (setupC s a)) := fun {h'} q => by
      obtain ⟨L, rfl, _⟩ := q
      exact get_app_old h30
    have b30 := hb30 hpre
    have hwr : ∀ {h' : List Ob}, Pre h0 h' → SlOf h' a.w 3 (s.ways.map wrow) := fun {h'} q => (q.sin k0).w
    have hw0 := hwr hpre
    have q0 := hpre.sin k0
    simp only [go_sem, t1, t3, b30, hw0.rows, hw0.one, q0.e.one, q0.c.one, q0.g.one, q0.r.one, q0.t.one, List.length_map]
    refine wp_loop_a (by decide) (fun m T h' => ∃ (j : Nat), j ≤ s.ways.length ∧ Pre h0 h' ∧ TabAt h' (h.length + 2) (h.length + 1) 0 ids ((s.ways.take j).foldl wayP (matP0 i)) i ∧ T 1 = .ptr h.length 0 ∧ T 3 = .ptr (h.length + 2) 0 ∧ T 5 = .fn (.func 147) [] [.ptr (h.length + 2) 0] ∧ T 39 = a.w ∧ T 40 = i64 s.ways.length ∧ T 41 = i64 j ∧ m = s.ways.length - j) s.ways.length
      ⟨0, by omega, hpre, htab, by simp only [go_sem, t1], by simp only [go_sem, t3], by simp only [go_sem], by simp only [go_sem], by simp only [go_sem], by (simp only [go_sem] <;> rfl), rfl⟩ ?_
    clear t1 t3 t19 t20 htab hpre b30 hw0 q0
    rintro m T h' ⟨j, hj, hpre, htab, t1, t3, t5, t39, t40, t41, rfl⟩
    have hw0 := hwr hpre
    simp only [go_sem, t40, t41]
    refine ways (fun e => ?_) (fun e => ?_)
    · have hlt := dlt e
      have hee := hw0.at (i := j) (by simpa using hlt)
      have hrow : (s.ways.map wrow)[j]? = some (wrow s.ways[j]) := by rw [List.getElem?_map, List.getElem?_eq_getElem hlt]; rfl
      have hkl : (j : Int) < s.ways.length := by omega
      have hin := hways s.ways[j] (List.getElem_mem hlt)
      have hfold : (s.ways.take (j + 1)).foldl wayP (matP0 i) = wayP ((s.ways.take j).foldl wayP (matP0 i)) s.ways[j] := by
        rw [← List.take_append_getElem hlt, List.foldl_append]; rfl
      obtain ⟨w, hw⟩ : ∃ w, w = s.ways[j] := ⟨_, rfl⟩
      rw [← hw] at hrow hin hfold
      obtain ⟨w1, w2, w3⟩ := w
      simp only at hin
      obtain ⟨⟨i1, i2⟩, i3, i4⟩ := hin
      obtain ⟨wa, rfl⟩ := Int.eq_ofNat_of_zero_le i1
      obtain ⟨wb, rfl⟩ := Int.eq_ofNat_of_zero_le i3
      obtain ⟨D, hD⟩ : ∃ D, D = (s.ways.take j).foldl wayP (matP0 i) := ⟨_, rfl⟩
      rw [← hD] at htab hfold
      have ha : wa < i := by omega
      have hb : wb < i := by omega
      obtain ⟨pa, a1, a2, a3⟩ := htab.ix ha
      obtain ⟨pb, b1, b2, b3⟩ := htab.ix hb
      have hA : List.length (wrow ((wa : Int), (wb : Int), w3)) = 3 := rfl
      have hw3 : wrow ((wa : Int), (wb : Int), w3) = [i64 wa, i64 wb, i64 w3] := rfl
      rw [hw3] at hrow
      simp only [go_sem, t39, t41, t5, hee, hw0.rows, hrow, hkl, List.length_map, Int.toNat_natCast, Int.natCast_nonneg]
      refine call_by (c110 (h' ++ [Ob.box 126 [i64 wa, i64 wb, i64 w3]]) (h.length + 2) (h.length + 1) 0 ids D i wa wb w3 pa (htab.app _) ha hb a1) ?_
      rintro _ h4 ⟨rfl, rfl⟩
      have ht2 := (htab.app [Ob.box 126 [i64 wa, i64 wb, i64 w3]]).near (b := wb) (v := w3) a1 ha
      have g1 : ∀ o, ((h' ++ [Ob.box 126 [i64 wa, i64 wb, i64 w3]]).set pa.1 o)[h'.length]? = some (.box 126 [i64 wa, i64 wb, i64 w3]) := fun o => by
        rw [List.getElem?_set_ne (by omega), get_new0 rfl]; rfl
      simp only [go_sem, t5, g1]
      refine call_by (c110 _ (h.length + 2) (h.length + 1) 0 ids _ i wb wa w3 pb ht2 hb ha b1) ?_
      rintro _ h4 ⟨rfl, rfl⟩
      have ht3 := ht2.near (b := wa) (v := w3) b1 hb
      simp only [go_sem, t41]
      exact ⟨s.ways.length - (j + 1), by omega, j + 1, by omega, ((hpre.app (noRes1 rfl)).set (hge0 _ _ a1) rfl).set (hge0 _ _ b1) rfl, by rw [hfold]; exact ht3, t1, t3, t5, t39, t40, t_succ (by have := f.nw; omega) rfl, rfl⟩
    · have hge2 := dnlt e
      have hj2 : j = s.ways.length := by omega
      subst hj2
      rw [List.take_length] at htab
      obtain ⟨D0, hD0⟩ : ∃ D0, D0 = s.ways.foldl wayP (matP0 i) := ⟨_, rfl⟩
      rw [← hD0] at htab
      have b30 := hb30 hpre
      simp only [go_sem, t1, t3, b30, hpl]
      refine wp_loop_a (by decide) (fun m T h' => ∃ (y : Nat), y ≤ i ∧ Pre h0 h' ∧ TabAt h' (h.length + 2) (h.length + 1) 0 ids ((List.range y).foldl (viaY i) D0) i ∧ T 1 = .ptr h.length 0 ∧ T 3 = .ptr (h.length + 2) 0 ∧ T 5 = .fn (.func 147) [] [.ptr (h.length + 2) 0] ∧ T 63 = i64 i ∧ T 64 = i64 y ∧ m = i - y) i
        ⟨0, by omega, hpre, htab, by simp only [go_sem, t1], by simp only [go_sem, t3], by simp only [go_sem, t5], by simp only [go_sem], by (simp only [go_sem] <;> rfl), rfl⟩ ?_
      clear t1 t3 t5 t39 t40 t41 htab hpre b30
      rintro m T h' ⟨y, hy, hpre, htab, t1, t3, t5, t63, t64, rfl⟩
      simp only [go_sem, t63, t64]
      refine ways (fun e => ?_) (fun e => ?_)
      · have hyi : y < i := dlt e
        have hfy : (List.range (y + 1)).foldl (viaY i) D0 = viaY i ((List.range y).foldl (viaY i) D0) y := by
          rw [List.range_succ, List.foldl_append]; rfl
        obtain ⟨D1, hD1⟩ : ∃ D1, D1 = (List.range y).foldl (viaY i) D0 := ⟨_, rfl⟩
        rw [← hD1] at htab hfy
        have b30 := hb30 hpre
        simp only [go_sem]
        refine wp_scope_a (by decide) ?_
        simp only [go_sem, t1, b30, hpl]
        refine wp_loop_a (by decide) (fun m T h' => ∃ (x : Nat), x ≤ i ∧ Pre h0 h' ∧ TabAt h' (h.length + 2) (h.length + 1) 0 ids ((List.range x).foldl (viaA i y) D1) i ∧ T 1 = .ptr h.length 0 ∧ T 3 = .ptr (h.length + 2) 0 ∧ T 5 = .fn (.func 147) [] [.ptr (h.length + 2) 0] ∧ T 63 = i64 i ∧ T 64 = i64 y ∧ T 8 = i64 y ∧ T 68 = i64 i ∧ T 69 = i64 x ∧ m = i - x) i
          ⟨0, by omega, hpre, htab, by simp only [go_sem, t1], by simp only [go_sem, t3], by simp only [go_sem, t5], by simp only [go_sem, t63], by simp only [go_sem, t64], by simp only [go_sem, t64], by simp only [go_sem], by (simp only [go_sem] <;> rfl), rfl⟩ ?_
        clear t1 t3 t5 t63 t64 htab hpre b30
        rintro m T h' ⟨x, hx, hpre, htab, t1, t3, t5, t63, t64, t8, t68, t69, rfl⟩
        simp only [go_sem, t68, t69]
        refine ways (fun e => ?_) (fun e => ?_)
        · have hxi : x < i := dlt e
          have hfx : (List.range (x + 1)).foldl (viaA i y) D1 = viaA i y ((List.range x).foldl (viaA i y) D1) x := by
            rw [List.range_succ, List.foldl_append]; rfl
          obtain ⟨D2, hD2⟩ : ∃ D2, D2 = (List.range x).foldl (viaA i y) D1 := ⟨_, rfl⟩
          rw [← hD2] at htab hfx
          obtain ⟨px, x1, x2, x3⟩ := htab.ix hxi
          obtain ⟨py, y1, y2, y3⟩ := htab.ix hyi
          obtain ⟨X, X1, X2, X3⟩ := htab.rd x1 hxi
          obtain ⟨Y, Y1, Y2, Y3⟩ := htab.rd y1 hyi
          have hXy := X3 y hyi
          have bx := htab.box
          have rx := htab.row
          have lx : (x : Int) < (ids.length : Int) := by rw [htab.len]; omega
          have ly : (y : Int) < (ids.length : Int) := by rw [htab.len]; omega
          have lX : (y : Int) < (X.length : Int) := by rw [X2]; omega
          simp only [go_sem, t3, t8, t69, bx, rx, x2, X1, hXy, lx, lX, List.length_map, Int.toNat_natCast, Int.natCast_nonneg]
          cases f1 : matAt D2 x y == -1
          · have g1 : ¬ matAt D2 x y = -1 := by simpa using f1
            simp only [go_sem, f1, t3, t8, bx, rx, y2, Y1, Y2, ly, List.length_map, Int.toNat_natCast, Int.natCast_nonneg]
            refine wp_loop_a (by decide) (fun m T h' => ∃ (b : Nat), b ≤ i ∧ Pre h0 h' ∧ TabAt h' (h.length + 2) (h.length + 1) 0 ids ((List.range b).foldl (fun D b => viaB b y x D) D2) i ∧ T 1 = .ptr h.length 0 ∧ T 3 = .ptr (h.length + 2) 0 ∧ T 5 = .fn (.func 147) [] [.ptr (h.length + 2) 0] ∧ T 63 = i64 i ∧ T 64 = i64 y ∧ T 8 = i64 y ∧ T 9 = i64 x ∧ T 68 = i64 i ∧ T 69 = i64 x ∧ T 83 = .tl py.1 py.2 ∧ T 84 = i64 i ∧ T 85 = i64 b ∧ m = i - b) i
              ⟨0, by omega, hpre, htab, by simp only [go_sem, t1], by simp only [go_sem, t3], by simp only [go_sem, t5], by simp only [go_sem, t63], by simp only [go_sem, t64], by simp only [go_sem, t8], by simp only [go_sem], by simp only [go_sem, t68], by simp only [go_sem, t69], by simp only [go_sem], by simp only [go_sem], by (simp only [go_sem] <;> rfl), rfl⟩ ?_
            clear t1 t3 t5 t63 t64 t8 t68 t69 htab hpre bx rx X1 Y1 hXy
            rintro m T h' ⟨b, hb, hpre, htab, t1, t3, t5, t63, t64, t8, t9, t68, t69, t83, t84, t85, rfl⟩
            simp only [go_sem, t84, t85]
            refine ways (fun e => ?_) (fun e => ?_)
            · have hbi : b < i := dlt e
              have hfb : (List.range (b + 1)).foldl (fun D b => viaB b y x D) D2 = viaB b y x ((List.range b).foldl (fun D b => viaB b y x D) D2) := by
                rw [List.range_succ, List.foldl_append]; rfl
              obtain ⟨D3, hD3⟩ : ∃ D3, D3 = (List.range b).foldl (fun D b => viaB b y x D) D2 := ⟨_, rfl⟩
              rw [← hD3] at htab hfb
              obtain ⟨X, X1, X2, X3⟩ := htab.rd x1 hxi
              obtain ⟨Y, Y1, Y2, Y3⟩ := htab.rd y1 hyi
              have hXy := X3 y hyi
              have hYb := Y3 b hbi
              have bx := htab.box
              have rx := htab.row
              have lX : (y : Int) < (X.length : Int) := by rw [X2]; omega
              have lY : (b : Int) < (Y.length : Int) := by rw [Y2]; omega
              simp only [go_sem, t83, t85, Y1, hYb, lY, List.length_map, Int.toNat_natCast, Int.natCast_nonneg]
              refine ways (fun e2 => ?_) (fun e2 => ?_)
              · have g2 : matAt D3 y b ≠ -1 := by simpa using e2
                simp only [go_sem, t3, t5, t8, t9, bx, rx, x2, X1, hXy, lx, lX, List.length_map, Int.toNat_natCast, Int.natCast_nonneg]
                refine call_by (c110 _ (h.length + 2) (h.length + 1) 0 ids _ i x b _ px htab hxi hbi x1) ?_
                rintro _ h4 ⟨rfl, rfl⟩
                have ht2 := htab.near (b := b) (v := wr (matAt D3 x y + matAt D3 y b)) x1 hxi
                simp only [go_sem, t85]
                exact ⟨i - (b + 1), by omega, b + 1, by omega, hpre.set (hge0 _ _ x1) rfl, by rw [hfb]; unfold viaB; rw [if_pos g2]; exact ht2, t1, t3, t5, t63, t64, t8, t9, t68, t69, t83, t84, t_succ (by omega) rfl, rfl⟩
              · have g2 : ¬ matAt D3 y b ≠ -1 := by simpa using e2
                simp only [go_sem, t85]
                exact ⟨i - (b + 1), by omega, b + 1, by omega, hpre, by rw [hfb]; unfold viaB; rw [if_neg g2]; exact htab, t1, t3, t5, t63, t64, t8, t9, t68, t69, t83, t84, t_succ (by omega) rfl, rfl⟩
            · have hbi : i ≤ b := dnlt e
              have hbe : b = i := by omega
              subst hbe
              simp only [go_sem, t69]
              exact ⟨b - (x + 1), by omega, x + 1, by omega, hpre, by rw [hfx]; unfold viaA; rw [if_neg g1]; exact htab, t1, t3, t5, t63, t64, t8, t68, t_succ (by omega) rfl, rfl⟩
          · have g1 : matAt D2 x y = -1 := by simpa using f1
            simp only [go_sem, f1, t69]
            exact ⟨i - (x + 1), by omega, x + 1, by omega, hpre, by rw [hfx]; unfold viaA; rw [if_pos g1]; exact htab, t1, t3, t5, t63, t64, t8, t68, t_succ (by omega) rfl, rfl⟩
        · have hxi : i ≤ x := dnlt e
          have hxe : x = i := by omega
          subst hxe
          simp only [go_sem, t64]
          exact ⟨x - (y + 1), by omega, y + 1, by omega, hpre, by rw [hfy]; exact htab, t1, t3, t5, t63, t_succ (by omega) rfl, rfl⟩
      · have hyi : i ≤ y := dnlt e
        have hye : y = i := by omega
        subst hye
        have bx := htab.box
        simp only [go_sem, t3, bx]
        have hlen0 : h0 = h ++ [Ob.box 30 (setupC s a)] := hh0
        have hpr : Pre h h' := by
          have : Pre h h0 := ⟨_, hh0, noRes1 rfl⟩
          exact this.trans hpre
        obtain ⟨L, rfl, hN⟩ := hpr
        refine ⟨.tl (h.length + 1) 0, by simp only [go_sem], .inl ⟨L, h.length + 1, 0, ids, h.length + 2, rfl, hN, rfl, ?_⟩⟩
        have : tableP s = (List.range y).foldl (viaY y) D0 := by
          unfold tableP
          rw [← hn, hD0]
        rw [this]
        exact htab
end Go.Proofs.YtpdghiplnlhnfaaGreat.Ax
