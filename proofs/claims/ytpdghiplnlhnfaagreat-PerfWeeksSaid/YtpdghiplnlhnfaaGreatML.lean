/-
  Joined: Tell, TellP2. Nothing is proved here of a statement.
-/
import Derived.Test.YtpdghiplnlhnfaaGreatMK
namespace Go.Proofs.YtpdghiplnlhnfaaGreat.Ax
set_option linter.unusedSimpArgs false
set_option linter.unusedVariables false
open Go Go.Proofs
set_option maxRecDepth 100000
set_option linter.unusedSimpArgs false
set_option linter.unusedVariables false
attribute [go_sem] ty92 ty118 ty89 ty90 ty86 ty43 ty42 ty55 pe55 pe86
theorem min_if {a b : Int} : (if b < a then b else a) = min a b := by split <;> omega
theorem max_if {a b : Int} : (if b > a then b else a) = max a b := by split <;> omega
def clampI (n hi : Int) : Int := min (max n 0) hi
theorem c69 (n hi : Int) : Pure Tryz.prog 113 [i64 n, i64 hi] (i64 (clampI n hi)) := fun h => by
  refine acalls_wp Tryz.f113 [.tmp 4] 9 rfl rfl rfl rfl rfl rfl (by decide) (⟨_, _, ⟨rfl, rfl⟩, .refl⟩) fun B => ?_
  simp only [go_sem]
  (first | refine endA_pure0 ?_ | refine endA_pure ?_ (by rfl)) <;> (simp only [go_sem, clampI, min_if, max_if] <;> try rfl)
def ofI (n by_ : Int) : Int := wr ((clampI n 32054399).tdiv by_)
theorem c51 (n by_ : Int) (hb : ¬ by_ = 0) : Pure Tryz.prog 63 [i64 n, i64 by_] (i64 (ofI n by_)) := fun h => by
  refine acalls_wp Tryz.f63 [.tmp 4] 9 rfl rfl rfl rfl rfl rfl (by decide) (⟨_, _, ⟨rfl, rfl⟩, .refl⟩) fun B => ?_
  simp only [go_sem]
  refine call_by (c69 _ _ _) ?_
  rintro _ _ ⟨rfl, rfl⟩
  simp only [go_sem, hb]
  (first | refine endA_pure0 ?_ | refine endA_pure ?_ (by rfl)) <;> (simp only [go_sem, ofI] <;> try rfl)
def weekI (n : Int) : Int := ofI n 604800
theorem c17 (n : Int) : Pure Tryz.prog 24 [i64 n] (i64 (weekI n)) := fun h => by
  refine acalls_wp Tryz.f24 [.tmp 2] 5 rfl rfl rfl rfl rfl rfl (by decide) (⟨_, _, ⟨rfl, rfl⟩, .refl⟩) fun B => ?_
  simp only [go_sem]
  refine call_by (c51 _ _ (by decide) _) ?_
  rintro _ _ ⟨rfl, rfl⟩
  simp only [go_sem]
  (first | refine endA_pure0 ?_ | refine endA_pure ?_ (by rfl)) <;> (simp only [go_sem, weekI] <;> try rfl)
def partsI (a b : Int) : Int × Int := if a.tmod b < 0 then (wr (wr (a.tdiv b) - 1), wr (a.tmod b + b)) else (wr (a.tdiv b), a.tmod b)
abbrev two2 (p : Int × Int) : AV := .tup [i64 p.1, i64 p.2]
theorem c97 (a b : Int) (hb : ¬ b = 0) : Pure Tryz.prog 168 [i64 a, i64 b] (two2 (partsI a b)) := fun h => by
  refine acalls_wp Tryz.f168 [.tmp 4, .tmp 5] 21 rfl rfl rfl rfl rfl rfl (by decide) (⟨_, _, ⟨rfl, rfl⟩, .refl⟩) fun B => ?_
  simp only [go_sem]
  refine wp_draw rfl [] 0 [(0, 0, []), (1, 0, []), (2, 0, []), (3, 0, []), (4, 0, []), (5, 0, []), (6, 0, []), (7, 0, [])] rfl (by decide) (by decide) ?_
  simp only [go_sem, hb]
  refine ways (fun e => ?_) (fun e => ?_)
  · have e1 : a.tmod b < 0 := by simpa using e
    simp only [go_sem]
    (first | refine endA_pure0 ?_ | refine endA_pure ?_ (by rfl)) <;> (simp only [go_sem, partsI, e1] <;> try rfl)
  · have e1 : ¬ a.tmod b < 0 := by simpa using e
    simp only [go_sem]
    (first | refine endA_pure0 ?_ | refine endA_pure ?_ (by rfl)) <;> (simp only [go_sem, partsI, e1] <;> try rfl)
def halfI (n d : Int) : Int × Int := if d ≤ 0 then (0, 20) else if (partsI n d).2 ≥ wr (d - (partsI n d).2) then (wr ((partsI n d).1 + 1), 0) else ((partsI n d).1, 0)
theorem c70 (n d : Int) : Pure Tryz.prog 149 [i64 n, i64 d] (two2 (halfI n d)) := fun h => by
  refine acalls_wp Tryz.f149 [.tmp 4, .tmp 5] 24 rfl rfl rfl rfl rfl rfl (by decide) (⟨_, _, ⟨rfl, rfl⟩, .refl⟩) fun B => ?_
  simp only [go_sem]
  refine ways (fun e => ?_) (fun e => ?_)
  · have e1 : d ≤ 0 := by simpa using e
    simp only [go_sem]
    (first | refine endA_pure0 ?_ | refine endA_pure ?_ (by rfl)) <;> (simp only [go_sem, halfI, e1] <;> try rfl)
  · have e1 : ¬ d ≤ 0 := by simpa using e
    simp only [go_sem]
    refine call_by (c97 n d (by omega) _) ?_
    rintro _ _ ⟨rfl, rfl⟩
    simp only [go_sem]
    refine ways (fun e2 => ?_) (fun e2 => ?_)
    · have e2 : (partsI n d).2 ≥ wr (d - (partsI n d).2) := by simpa using e2
      simp only [go_sem]
      (first | refine endA_pure0 ?_ | refine endA_pure ?_ (by rfl)) <;> (simp only [go_sem, halfI, e1, e2] <;> try rfl)
    · have e2 : ¬ (partsI n d).2 ≥ wr (d - (partsI n d).2) := by simpa using e2
      simp only [go_sem]
      (first | refine endA_pure0 ?_ | refine endA_pure ?_ (by rfl)) <;> (simp only [go_sem, halfI, e1, e2] <;> try rfl)
def roundI (t u : Int) : Int := if u < 1 then clampI t 32054400 else min (wr ((halfI (clampI t 32054400) u).1 * min u 64108801)) 32054400
theorem c36 (t u : Int) : Pure Tryz.prog 126 [i64 t, i64 u] (i64 (roundI t u)) := fun h => by
  refine acalls_wp Tryz.f126 [.tmp 4] 23 rfl rfl rfl rfl rfl rfl (by decide) (⟨_, _, ⟨rfl, rfl⟩, .refl⟩) fun B => ?_
  simp only [go_sem]
  refine call_by (c69 _ _ _) ?_
  rintro _ _ ⟨rfl, rfl⟩
  simp only [go_sem]
  refine ways (fun e => ?_) (fun e => ?_)
  · have e1 : u < 1 := by simpa using e
    simp only [go_sem]
    (first | refine endA_pure0 ?_ | refine endA_pure ?_ (by rfl)) <;> (simp only [go_sem, roundI, e1] <;> try rfl)
  · have e1 : ¬ u < 1 := by simpa using e
    simp only [go_sem]
    refine call_by (c70 _ _ _) ?_
    rintro _ _ ⟨rfl, rfl⟩
    simp only [go_sem]
    (first | refine endA_pure0 ?_ | refine endA_pure ?_ (by rfl)) <;> (simp only [go_sem, roundI, e1, min_if] <;> try rfl)
theorem c106 (e : Ev) : Pure Tryz.prog 128 [evV e] (i64 (kindI e.kind)) := fun h => by
  refine acalls_wp Tryz.f128 [.tmp 2] 11 rfl rfl rfl rfl rfl rfl (by decide) (⟨_, _, ⟨rfl, rfl⟩, .refl⟩) fun B => ?_
  simp only [go_sem]
  refine ways (fun e1 => ?_) (fun e1 => ?_)
  · simp only [go_sem]
    have e1 : e.kind = 3 := by simpa using e1
    (first | refine endA_pure0 ?_ | refine endA_pure ?_ (by rfl)) <;> (simp only [go_sem, kindI, e1] <;> try rfl)
  · simp only [go_sem]
    have e1 : ¬ e.kind = 3 := by simpa using e1
    refine ways (fun e2 => ?_) (fun e2 => ?_)
    · simp only [go_sem]
      have e2 : e.kind = 4 := by simpa using e2
      (first | refine endA_pure0 ?_ | refine endA_pure ?_ (by rfl)) <;> (simp only [go_sem, kindI, e1, e2] <;> try rfl)
    · simp only [go_sem]
      have e2 : ¬ e.kind = 4 := by simpa using e2
      refine ways (fun e3 => ?_) (fun e3 => ?_)
      · simp only [go_sem]
        have e3 : e.kind = 5 := by simpa using e3
        (first | refine endA_pure0 ?_ | refine endA_pure ?_ (by rfl)) <;> (simp only [go_sem, kindI, e1, e2, e3] <;> try rfl)
      · simp only [go_sem]
        have e3 : ¬ e.kind = 5 := by simpa using e3
        (first | refine endA_pure0 ?_ | refine endA_pure ?_ (by rfl)) <;> (simp only [go_sem, kindI, e1, e2, e3] <;> try rfl)
theorem c90 (h : List Ob) (i j : Nat) (s : Setup) (a : SA) (x y o : AV) (e : Ev) (hi : h[i]? = some (.box 92 (tellC s a (.ptr j 0) x y))) (hj : h[j]? = some (.box 118 (sessC e o))) :
    ACalls Tryz.prog 99 [.ptr i 0] h fun r h' => r = i64 (wr (e.at_ + s.cap)) ∧ h' = h := by
  refine acalls_wp Tryz.f99 [.tmp 2] 17 rfl rfl rfl rfl rfl rfl (by decide) (⟨_, _, ⟨rfl, rfl⟩, .refl⟩) fun B => ?_
  simp only [go_sem]
  refine wp_draw rfl [] 0 [(0, 0, []), (1, 0, []), (2, 0, []), (8, 0, []), (9, 0, []), (10, 0, []), (11, 0, []), (3, 0, []), (4, 0, []), (5, 0, []), (6, 0, []), (7, 0, []), (12, 0, []), (13, 0, []), (14, 0, [])] rfl (by decide) (by decide) ?_
  simp only [go_sem, hi, hj]
  (first | refine endA_pure0 ?_ | refine endA_pure ?_ (by rfl)) <;> (simp only [go_sem] <;> try rfl)
theorem c85 (F : List (Nat × List AV)) (h0 h : List Ob) (i : Nat) (s : Setup) (a : SA) (t : TellS) (e : Ev) (k : Int) (ht : TellIn F h0 h i s a t) (hl : t.flags.length < 1099511627776) :
    ACalls Tryz.prog 92 [.ptr i 0, evV e, i64 k] h fun r h' => r = .tup [] ∧ TellIn F h0 h' i s a (flagP t e k) := by
  obtain ⟨k1, k2, kf, p, x, y, k3, k4, k5, k6⟩ := ht
  have hb : ∀ M, (h ++ M)[i]? = some (.box 92 (tellC s a p x y)) := fun M => get_app_old k3
  have hs : ∀ M o, (h ++ M).set i o = h.set i o ++ M := fun M o => set_app_old k3
  have hex := TellIn.ex (t := t) ⟨k1, k2, kf, p, x, y, k3, k4, k5, k6⟩ (flagP t e k)
  have hlen := k1.len
  rcases k5 with ⟨rfl, hn⟩ | ⟨id, st, q1, rfl, q3⟩
  · refine acalls_wp Tryz.f92 [] 19 rfl rfl rfl rfl rfl rfl (by decide) (hex) fun B => ?_
    simp only [go_sem]
    refine wp_draw rfl [.res] 1 [(0, 0, []), (1, 0, []), (2, 0, []), (3, 0, []), (5, 0, []), (7, 0, []), (4, 0, []), (6, 0, []), (8, 0, []), (9, 0, []), (10, 0, []), (11, 0, []), (12, 0, []), (13, 0, [])] rfl (by decide) (by decide) ?_
    simp only [go_sem, hb, hs]
    refine ⟨.tup [], by simp only [go_sem], .inl ⟨rfl, (k1.set k2 rfl).app (noRes_cons rfl (noRes_cons rfl (noRes1 rfl))), k2, (kf.set_box k3 (by decide) _).app _, _, _, _, get_app_old (get_set_same k3), (k4.set_box k3 _).app _, .inr ⟨h.length + 2, 0, by omega, rfl, ?_⟩, (k6.set_box k3 (by decide) _).app _⟩⟩
    rw [get_new (by simp), flagP, List.map_append, hn]
    rfl
  · have hid : ∀ M, (h ++ M)[id]? = some (.row 86 2 (t.flags.map flgC) st) := fun M => get_app_old q3
    have hs2 : ∀ M o, (h ++ M).set id o = h.set id o ++ M := fun M o => set_app_old q3
    have hne : id ≠ i := fun q => by rw [q, k3] at q3; cases q3
    have hb2 : ∀ M o, (h.set id o ++ M)[i]? = some (.box 92 (tellC s a p x (.tl id st))) := fun M o => get_app_old (by rw [List.getElem?_set_ne hne]; exact k3)
    have hs3 : ∀ M o o2, (h.set id o ++ M).set i o2 = (h.set id o).set i o2 ++ M := fun M o o2 => set_app_old (by rw [List.getElem?_set_ne hne]; exact k3)
    have hrl : ((t.flags.map flgC).length + 1) * 17 ≤ 140737488355328 := by rw [List.length_map]; omega
    refine acalls_wp Tryz.f92 [] 19 rfl rfl rfl rfl rfl rfl (by decide) (hex) fun B => ?_
    simp only [go_sem]
    refine wp_draw rfl [.res] 1 [(0, 0, []), (1, 0, []), (2, 0, []), (3, 0, []), (5, 0, []), (7, 0, []), (4, 0, []), (6, 0, []), (8, 0, []), (9, 0, []), (10, 0, []), (11, 0, []), (12, 0, []), (13, 0, [])] rfl (by decide) (by decide) ?_
    simp only [go_sem, hb, hs, hid, hs2, hb2, hs3, hrl]
    have k3' : ∀ o, (h.set id o)[i]? = some (.box 92 (tellC s a p x (.tl id st))) := fun o => by rw [List.getElem?_set_ne hne]; exact k3
    refine ⟨.tup [], by simp only [go_sem], .inl ⟨rfl, ((k1.set q1 rfl).set k2 rfl).app (noRes_cons rfl (noRes1 rfl)), k2, ((kf.set_row q3 _).set_box (k3' _) (by decide) _).app _, _, _, _, get_app_old (get_set_same (k3' _)), ((k4.set_row q3 (by decide) _).set_box (k3' _) _).app _, .inr ⟨id, st + 1, q1, rfl, get_app_old ?_⟩, ((k6.set_row q3 (by decide) _).set_box (k3' _) (by decide) _).app _⟩⟩
    rw [List.getElem?_set_ne (Ne.symm hne), get_set_same q3, flagP, List.map_append]
    rfl
theorem c105 (F : List (Nat × List AV)) (h0 h : List Ob) (i nf nl nb nt nq : Nat) (s : Setup) (a : SA) (ow : AV) (ows : List (List AV)) (t : TellS) (first last begin_ to_ : Int) (by_ next : Ev) (hp : PartIn F h0 h i nf nl nb nt nq s a ow ows first last begin_ by_ t) (hl : t.segs.length < 1099511627776) :
    ACalls Tryz.prog 127 [i64 to_, evV next, .ptr nf 0, .ptr nl 0, .ptr nb 0, .ptr nt 0, .ptr nq 0] h fun r h' => r = .tup [] ∧ PartIn F h0 h' i nf nl nb nt nq s a ow ows first last (toP first last to_) next (partP t begin_ (toP first last to_) by_) := by
  have hex := hp.any (toP first last to_) next (partP t begin_ (toP first last to_) by_)
  refine acalls_wp Tryz.f127 [] 37 rfl rfl rfl rfl rfl rfl (by decide) (hex) fun B => ?_
  rw [wpC_assoc, wpC_assoc]
  refine wpC_cut (fun T h' => ∃ n8, PartIn F h0 h' i nf nl nb nt nq s a ow ows first last begin_ by_ (partP t begin_ (toP first last to_) by_) ∧ T 0 = i64 (toP first last to_) ∧ T 4 = .ptr nb 0 ∧ T 6 = .ptr nq 0 ∧ T 8 = .ptr n8 0 ∧ h'[n8]? = some (.box 61 (evC next))) ?_ ?_
  · have hp2 := hp
    obtain ⟨n1, n2, n3, n4, n5, b1, b2, b3, b4, b5, ⟨k1, k2, kf, p, x, y, k3, k4, k5, k6⟩, b6⟩ := hp2
    have hlen := k1.len
    have e1 : ∀ M, (h ++ M)[nf]? = some (.box 3 [i64 first]) := fun M => get_app_old b1
    have e2 : ∀ M, (h ++ M)[nl]? = some (.box 3 [i64 last]) := fun M => get_app_old b2
    have e3 : ∀ M, (h ++ M)[nb]? = some (.box 3 [i64 begin_]) := fun M => get_app_old b3
    have e4 : ∀ M, (h ++ M)[nt]? = some (.box 89 [.ptr i 0]) := fun M => get_app_old b4
    have e5 : ∀ M, (h ++ M)[nq]? = some (.box 61 (evC by_)) := fun M => get_app_old b5
    simp only [go_sem, e1, e2, e3, e4, e5, min_if, max_if]
    refine ways (fun e => ?_) (fun e => ?_)
    · have hlt : begin_ < toP first last to_ := of_decide_eq_true e
      rw [partP, if_pos hlt]
      have hb : ∀ M, (h ++ M)[i]? = some (.box 92 (tellC s a p x y)) := fun M => get_app_old k3
      have hs : ∀ M o, (h ++ M).set i o = h.set i o ++ M := fun M o => set_app_old k3
      rcases k4 with ⟨rfl, hn⟩ | ⟨id, st, q1, rfl, q3⟩
      · simp only [go_sem]
        refine wp_draw rfl [.res] 1 [(6, 0, []), (9, 0, []), (11, 0, []), (0, 0, []), (1, 0, []), (2, 0, []), (3, 0, []), (4, 0, []), (5, 0, []), (7, 0, []), (10, 0, []), (12, 0, []), (8, 0, [0, 1, 4, 5, 10, 12]), (13, 0, []), (14, 0, []), (15, 0, [0]), (16, 0, []), (17, 0, []), (18, 0, [])] rfl (by decide) (by decide) ?_
        simp only [go_sem, e1, e2, e3, e4, e5, hb, hs]
        refine call_by (c106 by_ _) ?_
        rintro _ h1 ⟨rfl, e2⟩
        subst e2
        simp only [go_sem, e1, e2, e3, e4, e5, hb, hs]
        refine ⟨h.length, hp.tell ⟨(k1.set k2 rfl).app (noRes_cons rfl (noRes_cons rfl (noRes1 rfl))), k2, (kf.set_box k3 (by decide) _).app _, _, _, _, get_app_old (get_set_same k3), .inr ⟨h.length + 2, 0, by omega, rfl, ?_⟩, (k5.set_box k3 _).app _, (k6.set_box k3 (by decide) _).app _⟩, rfl, rfl, ?_⟩
        · rw [get_new (by simp), List.map_append, hn]
          rfl
        · rw [get_new0 (by simp)]
          rfl
      · have hid : ∀ M, (h ++ M)[id]? = some (.row 55 5 (t.segs.map segC) st) := fun M => get_app_old q3
        have hs2 : ∀ M o, (h ++ M).set id o = h.set id o ++ M := fun M o => set_app_old q3
        have hne : id ≠ i := fun q => by rw [q, k3] at q3; cases q3
        have k3' : ∀ o, (h.set id o)[i]? = some (.box 92 (tellC s a p (.tl id st) y)) := fun o => by rw [List.getElem?_set_ne hne]; exact k3
        have hb2 : ∀ M o, (h.set id o ++ M)[i]? = some (.box 92 (tellC s a p (.tl id st) y)) := fun M o => get_app_old (k3' o)
        have hs3 : ∀ M o o2, (h.set id o ++ M).set i o2 = (h.set id o).set i o2 ++ M := fun M o o2 => set_app_old (k3' o)
        have hrl : ((t.segs.map segC).length + 1) * 41 ≤ 140737488355328 := by rw [List.length_map]; omega
        have bn : ∀ {j u : Nat} {cs : List AV}, h[j]? = some (.box u cs) → ∀ o M, (h.set id o ++ M)[j]? = some (.box u cs) := fun hj o M => get_app_old (by
          rw [List.getElem?_set_ne (fun q => by rw [q, hj] at q3; cases q3)]; exact hj)
        have e1' := bn b1
        have e2' := bn b2
        have e3' := bn b3
        have e4' := bn b4
        have e5' := bn b5
        simp only [go_sem]
        refine wp_draw rfl [.res] 1 [(6, 0, []), (9, 0, []), (11, 0, []), (0, 0, []), (1, 0, []), (2, 0, []), (3, 0, []), (4, 0, []), (5, 0, []), (7, 0, []), (10, 0, []), (12, 0, []), (8, 0, [0, 1, 4, 5, 10, 12]), (13, 0, []), (14, 0, []), (15, 0, [0]), (16, 0, []), (17, 0, []), (18, 0, [])] rfl (by decide) (by decide) ?_
        simp only [go_sem, e1, e2, e3, e4, e5, hb, hs]
        refine call_by (c106 by_ _) ?_
        rintro _ h1 ⟨rfl, e2⟩
        subst e2
        simp only [go_sem, e1, e2, e3, e4, e5, hb, hs, hid, hs2, hb2, hs3, hrl, e1', e2', e3', e4', e5']
        refine ⟨h.length, hp.tell2 q3 (by decide) ⟨((k1.set q1 rfl).set k2 rfl).app (noRes_cons rfl (noRes1 rfl)), k2, ((kf.set_row q3 _).set_box (k3' _) (by decide) _).app _, _, _, _, get_app_old (get_set_same (k3' _)), .inr ⟨id, st + 1, q1, rfl, get_app_old ?_⟩, ((k5.set_row q3 (by decide) _).set_box (k3' _) _).app _, ((k6.set_row q3 (by decide) _).set_box (k3' _) (by decide) _).app _⟩, rfl, rfl, ?_⟩
        · rw [List.getElem?_set_ne (Ne.symm hne), get_set_same q3, List.map_append]
          rfl
        · rw [get_new0 (by simp)]
          rfl
    · have hge : ¬ begin_ < toP first last to_ := of_decide_eq_false e
      rw [partP, if_neg hge]
      simp only [go_sem]
      exact ⟨h.length, hp.app (noRes1 rfl), rfl, rfl, by simp⟩
  · rintro T h' ⟨n8, k, t0, t4, t6, t8, b8⟩
    have g3 := k.b3
    have g5 : ∀ o, (h'.set nb o)[nq]? = some (.box 61 (evC by_)) := fun o => by rw [List.getElem?_set_ne (box_ne k.b3 k.b5 (by decide))]; exact k.b5
    have g8 : ∀ o, (h'.set nb o)[n8]? = some (.box 61 (evC next)) := fun o => by rw [List.getElem?_set_ne (box_ne k.b3 b8 (by decide))]; exact b8
    simp only [go_sem]
    refine wp_draw rfl [] 0 [(0, 0, []), (1, 0, []), (2, 0, [1]), (3, 0, [])] rfl (by decide) (by decide) ?_
    simp only [go_sem, t0, t4, t6, t8, b8, g3, g5, g8]
    exact ⟨.tup [], by simp only [go_sem], .inl ⟨rfl, k.next _ _⟩⟩
theorem c86 (F : List (Nat × List AV)) (h0 h : List Ob) (i : Nat) (s : Setup) (a : SA) (t : TellS) (e : Ev) (os : List Ev) (at_ : Int) (ht : TellIn F h0 h i s a t) (ho : t.open_ = some (e, os)) (hl : t.segs.length + os.length + 1 < 1099511627776) :
    ACalls Tryz.prog 93 [.ptr i 0, i64 at_] h fun r h' => r = .tup [] ∧ TellIn F h0 h' i s a ⟨none, (closeWith (roundI e.at_ s.unit) (roundI at_ s.unit) t e os).segs, t.flags⟩ := by
  have hex := TellIn.ex ht ⟨none, (closeWith (roundI e.at_ s.unit) (roundI at_ s.unit) t e os).segs, t.flags⟩
  have ht2 := ht
  obtain ⟨k1, k2, kf, p, x, y, k3, k4, k5, k6⟩ := ht2
  rw [ho] at k6
  obtain ⟨j, o, j1, rfl, j3, j4⟩ := k6
  have hlen := k1.len
  have hb : ∀ M, (h ++ M)[i]? = some (.box 92 (tellC s a (.ptr j 0) x y)) := fun M => get_app_old k3
  have hj : ∀ M, (h ++ M)[j]? = some (.box 118 (sessC e o)) := fun M => get_app_old j3
  refine acalls_wp Tryz.f93 [] 66 rfl rfl rfl rfl rfl rfl (by decide) (hex) fun B => ?_
  simp only [go_sem]
  refine wp_draw rfl [.res, .res] 2 [(14, 0, []), (0, 0, []), (1, 0, []), (2, 0, []), (3, 0, []), (4, 0, []), (5, 0, []), (6, 0, []), (7, 0, []), (8, 0, []), (9, 0, []), (10, 0, []), (11, 0, []), (12, 0, []), (15, 0, []), (16, 0, []), (17, 0, []), (18, 0, []), (19, 0, []), (13, 0, [15, 19]), (20, 0, []), (21, 0, []), (22, 1, []), (23, 0, []), (24, 0, [])] rfl (by decide) (by decide) ?_
  simp only [go_sem, hb, hj]
  refine call_by (c36 _ _ _) ?_
  rintro _ h1 ⟨rfl, e2⟩
  subst e2
  simp only [go_sem, hb, hj]
  refine call_by (c36 _ _ _) ?_
  rintro _ h1 ⟨rfl, e2⟩
  subst e2
  have hr : ∀ M, rowsOf (h ++ M) o = some (os.map evC) := fun M => (j4.app M).rows.rows
  obtain ⟨first, hfirst⟩ : ∃ f, f = roundI e.at_ s.unit := ⟨_, rfl⟩
  obtain ⟨last, hlast⟩ : ∃ f, f = roundI at_ s.unit := ⟨_, rfl⟩
  rw [← hfirst, ← hlast]
  simp only [go_sem, hb, hj, hr, List.length_map]
  have hp0 : PartIn F h0 (h ++ [.box 89 [.ptr i 0], .box 3 [i64 first], .box 3 [i64 last], .box 3 [i64 first], .box 61 (evC e)]) i (h.length + 1) (h.length + 2) (h.length + 3) (h.length + 0) (h.length + 4) s a o (os.map evC) first last first e t :=
    ⟨by omega, by omega, by omega, by omega, fun z hz => by
      have := kf z hz
      have := (List.getElem?_eq_some_iff.1 this).1
      omega, by rw [get_new rfl]; rfl, by rw [get_new rfl]; rfl, by rw [get_new rfl]; rfl, by rw [get_new rfl]; rfl, by rw [get_new rfl]; rfl, ht.app (noRes_cons rfl (noRes_cons rfl (noRes_cons rfl (noRes_cons rfl (noRes1 rfl))))), j4.app _⟩
  refine wp_loop_a (by decide) (fun m T h' => ∃ k : Nat, k ≤ os.length ∧ PartIn F h0 h' i (h.length + 1) (h.length + 2) (h.length + 3) h.length (h.length + 4) s a o (os.map evC) first last (partsP first last t e (os.take k)).1 (partsP first last t e (os.take k)).2.1 (partsP first last t e (os.take k)).2.2 ∧ T 2 = .ptr h.length 0 ∧ T 5 = .ptr (h.length + 2) 0 ∧ T 8 = .fn (.func 127) [] [.ptr (h.length + 1) 0, .ptr (h.length + 2) 0, .ptr (h.length + 3) 0, .ptr h.length 0, .ptr (h.length + 4) 0] ∧ T 47 = o ∧ T 48 = i64 os.length ∧ T 49 = i64 k ∧ m = os.length - k) os.length
    ⟨0, by omega, hp0, by simp only [go_sem], by simp only [go_sem], by simp only [go_sem], by simp only [go_sem], by simp only [go_sem], by (simp only [go_sem] <;> rfl), rfl⟩ ?_
  rintro m T h' ⟨k, hk, hp, t2, t5, t8, t47, t48, t49, rfl⟩
  simp only [go_sem, t48, t49]
  refine ways (fun e1 => ?_) (fun e1 => ?_)
  · have hlt := dlt e1
    have hx : SlOf h' o 11 (os.map evC) := hp.b6.rows
    have hee := hx.at (i := k) (by simpa using hlt)
    have hrr := hx.rows
    have hrow : (os.map evC)[k]? = some (evC os[k]) := row_get (List.getElem?_eq_getElem hlt)
    have hkl : (k : Int) < os.length := by omega
    simp only [go_sem, t47, t49, hee, hrr, hrow, hkl, List.length_map, Int.toNat_natCast, Int.natCast_nonneg, t8]
    have hstep : partsP first last t e (os.take (k + 1)) = stepP first last (partsP first last t e (os.take k)) os[k] := by
      rw [partsP, ← List.take_append_getElem hlt, List.foldl_append]
      rfl
    have hz : (partsP first last t e (os.take k)).2.2.segs.length ≤ t.segs.length + (os.take k).length := stepP_len (os.take k) (z := (first, e, t))
    rw [List.length_take] at hz
    refine call_by (c105 F h0 _ i _ _ _ _ _ s a o (os.map evC) _ first last _ os[k].at_ _ os[k] (hp.app (noRes1 rfl)) (by omega)) ?_
    rintro _ h3 ⟨rfl, q⟩
    simp only [go_sem, t49]
    refine ⟨os.length - (k + 1), by omega, k + 1, by omega, ?_, t2, t5, t8, t47, t48, t_succ (by omega) rfl, rfl⟩
    rw [hstep]
    exact q
  · have hge := dnlt e1
    have hk2 : k = os.length := by omega
    subst hk2
    rw [List.take_length] at hp
    have g2 := hp.b2
    have hz : (partsP first last t e os).2.2.segs.length ≤ t.segs.length + os.length := stepP_len os (z := (first, e, t))
    simp only [go_sem, t8, t5, g2]
    refine call_by (c105 F h0 _ i _ _ _ _ _ s a o (os.map evC) _ first last _ last _ ⟨0, 0, 0, 0, 0, 0, 0, 0, 0, 0, 0⟩ hp (by omega)) ?_
    rintro _ h3 ⟨rfl, q⟩
    have q4 := q.b4
    obtain ⟨m1, m2, mf, p', x', y', m3, m4, m5, m6⟩ := q.t
    simp only [go_sem, t2, q4, m3]
    exact ⟨.tup [], by simp only [go_sem], .inl ⟨rfl, m1.set m2 rfl, m2, mf.set_box m3 (by decide) _, _, _, _, get_set_same m3, m4.set_box m3 _, (by
      have := m5.set_box m3 (o := .box 92 (tellC s a (.v (.pointer none)) x' y'))
      rw [partP_flags, parts_flags] at this
      exact this), rfl⟩⟩
end Go.Proofs.YtpdghiplnlhnfaaGreat.Ax

namespace Go.Proofs.YtpdghiplnlhnfaaGreat.Ax
set_option linter.unusedSimpArgs false
set_option linter.unusedVariables false
open Go Go.Proofs
def closeP (s : Setup) (t : TellS) (e : Ev) (os : List Ev) (at_ : Int) : TellS := ⟨none, (closeWith (roundI e.at_ s.unit) (roundI at_ s.unit) t e os).segs, t.flags⟩
def lateP (s : Setup) (t : TellS) (at_ : Int) : TellS := match t.open_ with
  | none => t
  | some (e, os) => if at_ > wr (e.at_ + s.cap) then closeP s (flagP t e 1) e os (wr (e.at_ + s.cap)) else t
def nextP (s : Setup) (t : TellS) (e : Ev) : TellS :=
  if e.kind = 1 then (match (lateP s t e.at_).open_ with
    | none => ⟨some (e, []), (lateP s t e.at_).segs, (lateP s t e.at_).flags⟩
    | some (f, os) => ⟨some (e, []), (closeP s (flagP (lateP s t e.at_) f 2) f os e.at_).segs, (closeP s (flagP (lateP s t e.at_) f 2) f os e.at_).flags⟩)
  else match (lateP s t e.at_).open_ with
    | none => flagP (lateP s t e.at_) e 3
    | some (f, os) => if e.kind = 2 then closeP s (lateP s t e.at_) f os e.at_ else ⟨some (f, os ++ [e]), (lateP s t e.at_).segs, (lateP s t e.at_).flags⟩
def szO : Option (Ev × List Ev) → Nat
  | none => 0
  | some (_, os) => os.length + 1
def szT (t : TellS) : Nat := t.segs.length + t.flags.length + szO t.open_
theorem closeWith_len {first last : Int} {t : TellS} {e : Ev} {os : List Ev} : (closeWith first last t e os).segs.length ≤ t.segs.length + os.length + 1 := by
  have h1 := partP_len (t := (partsP first last t e os).2.2) (b := (partsP first last t e os).1) (to_ := toP first last last) (e := (partsP first last t e os).2.1)
  have h2 : (partsP first last t e os).2.2.segs.length ≤ t.segs.length + os.length := stepP_len os (z := (first, e, t))
  unfold closeWith
  omega
theorem szT_flag {t : TellS} {e : Ev} {k : Int} : szT (flagP t e k) = szT t + 1 := by simp [szT, flagP]; omega
theorem szT_close {s : Setup} {t : TellS} {e : Ev} {os : List Ev} {at_ : Int} (h : t.open_ = some (e, os)) : szT (closeP s t e os at_) ≤ szT t := by
  have := closeWith_len (first := roundI e.at_ s.unit) (last := roundI at_ s.unit) (t := t) (e := e) (os := os)
  simp only [szT, closeP, h, szO]
  omega
theorem szT_late {s : Setup} {t : TellS} {at_ : Int} : szT (lateP s t at_) ≤ szT t + 1 := by
  unfold lateP
  split
  · omega
  · rename_i e os ho
    split
    · have := szT_close (s := s) (t := flagP t e 1) (e := e) (os := os) (at_ := wr (e.at_ + s.cap)) ho
      rw [szT_flag] at this
      exact this
    · omega
theorem szT_next {s : Setup} {t : TellS} {e : Ev} : szT (nextP s t e) ≤ szT t + 3 := by
  have hL := szT_late (s := s) (t := t) (at_ := e.at_)
  unfold nextP
  split
  · split
    · rename_i ho
      simp only [szT, szO, ho, List.length_nil] at hL ⊢
      omega
    · rename_i f os ho
      have := szT_close (s := s) (t := flagP (lateP s t e.at_) f 2) (e := f) (os := os) (at_ := e.at_) ho
      rw [szT_flag] at this
      simp only [szT, szO, closeP, List.length_nil] at this hL ⊢
      omega
  · split
    · rw [szT_flag]; omega
    · rename_i f os ho
      split
      · have := szT_close (s := s) (t := lateP s t e.at_) (e := f) (os := os) (at_ := e.at_) ho
        omega
      · simp only [szT, szO, ho, List.length_append, List.length_cons, List.length_nil] at hL ⊢
        omega
end Go.Proofs.YtpdghiplnlhnfaaGreat.Ax
