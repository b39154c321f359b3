/-
  Joined: Tell2, Tell3. Nothing is proved here of a statement.
-/
import Derived.Test.YtpdghiplnlhnfaaGreatML
import Derived.Test.YtpdghiplnlhnfaaGreatMH
namespace Go.Proofs.YtpdghiplnlhnfaaGreat.Ax
set_option linter.unusedSimpArgs false
set_option linter.unusedVariables false
open Go Go.Proofs
set_option maxRecDepth 100000
set_option linter.unusedSimpArgs false
set_option linter.unusedVariables false
theorem c58 (F : List (Nat × List AV)) (h0 h : List Ob) (i : Nat) (s : Setup) (a : SA) (t : TellS) (at_ : Int) (ht : TellIn F h0 h i s a t) (hl : szT t + 2 < 1099511627776) :
    ACalls Tryz.prog 51 [.ptr i 0, i64 at_] h fun r h' => r = .tup [] ∧ TellIn F h0 h' i s a (lateP s t at_) := by
  have hex := TellIn.ex ht (lateP s t at_)
  have ht2 := ht
  obtain ⟨k1, k2, kf, p, x, y, k3, k4, k5, k6⟩ := ht2
  have hb : ∀ M, (h ++ M)[i]? = some (.box 92 (tellC s a p x y)) := fun M => get_app_old k3
  cases ho : t.open_ with
  | none =>
    rw [ho] at k6
    have k6 : p = .v (.pointer none) := k6
    subst k6
    have hP : lateP s t at_ = t := by simp only [lateP, ho]
    rw [hP] at hex ⊢
    refine acalls_wp Tryz.f51 [] 28 rfl rfl rfl rfl rfl rfl (by decide) (hex) fun B => ?_
    simp only [go_sem, hb, k3]
    exact ⟨.tup [], by simp only [go_sem], .inl ⟨rfl, ht⟩⟩
  | some q =>
    obtain ⟨e, os⟩ := q
    rw [ho] at k6
    obtain ⟨j, o, j1, rfl, j3, j4⟩ := k6
    have hP : lateP s t at_ = if at_ > wr (e.at_ + s.cap) then closeP s (flagP t e 1) e os (wr (e.at_ + s.cap)) else t := by simp only [lateP, ho]
    simp only [szT, ho, szO] at hl
    refine acalls_wp Tryz.f51 [] 28 rfl rfl rfl rfl rfl rfl (by decide) (hex) fun B => ?_
    simp only [go_sem, k3, bq_t]
    refine call_by (c90 h i j s a x y o e k3 j3) ?_
    rintro _ h1 ⟨rfl, e3⟩
    subst e3
    simp only [go_sem]
    refine ways (fun e1 => ?_) (fun e1 => ?_)
    · have hgt : at_ > wr (e.at_ + s.cap) := of_decide_eq_true e1
      rw [if_pos hgt] at hP
      simp only [go_sem, k3, j3]
      refine call_by (c85 F h0 h1 i s a t e 1 ht (by omega)) ?_
      rintro _ h2 ⟨rfl, q⟩
      have q' := q
      obtain ⟨m1, m2, mf, p', x', y', m3, m4, m5, m6⟩ := q'
      have hof : (flagP t e 1).open_ = some (e, os) := ho
      rw [hof] at m6
      obtain ⟨j', o', j1', rfl, j3', j4'⟩ := m6
      simp only [go_sem]
      refine call_by (c90 h2 i j' s a x' y' o' e m3 j3') ?_
      rintro _ h3 ⟨rfl, e3⟩
      subst e3
      simp only [go_sem]
      refine call_by (c86 F h0 _ i s a _ e os _ q hof (by simp only [flagP]; omega)) ?_
      rintro _ h3 ⟨rfl, q2⟩
      simp only [go_sem]
      exact ⟨.tup [], by simp only [go_sem], .inl ⟨rfl, by rw [hP]; exact q2⟩⟩
    · have hgt : ¬ at_ > wr (e.at_ + s.cap) := of_decide_eq_false e1
      rw [if_neg hgt] at hP
      rw [hP]
      simp only [go_sem]
      exact ⟨.tup [], by simp only [go_sem], .inl ⟨rfl, ht⟩⟩
theorem c56 (F : List (Nat × List AV)) (h0 h : List Ob) (i : Nat) (s : Setup) (a : SA) (t : TellS) (e : Ev) (ht : TellIn F h0 h i s a t) (hl : szT t + 8 < 1099511627776) :
    ACalls Tryz.prog 48 [.ptr i 0, evV e] h fun r h' => r = .tup [] ∧ TellIn F h0 h' i s a (nextP s t e) := by
  have hex := TellIn.ex ht (nextP s t e)
  obtain ⟨u, hu⟩ : ∃ u, u = lateP s t e.at_ := ⟨_, rfl⟩
  have hsz := szT_late (s := s) (t := t) (at_ := e.at_)
  rw [← hu] at hsz
  unfold nextP at hex ⊢
  rw [← hu] at hex ⊢
  refine acalls_wp Tryz.f48 [] 69 rfl rfl rfl rfl rfl rfl (by decide) (hex) fun B => ?_
  have hbe : ∀ M, (h ++ .box 61 (evC e) :: M)[h.length]? = some (.box 61 (evC e)) := fun M => by rw [get_new0 rfl]; rfl
  simp only [go_sem, hbe]
  refine call_by (c58 ((h.length, evC e) :: F) h0 _ i s a t e.at_ (ht.keep e) (by omega)) ?_
  rintro _ h1 ⟨rfl, q⟩
  rw [← hu] at q
  have hE : h1[h.length]? = some (.box 61 (evC e)) := q.kept _ List.mem_cons_self
  have hE2 : ∀ M, (h1 ++ M)[h.length]? = some (.box 61 (evC e)) := fun M => get_app_old hE
  have q' := q
  obtain ⟨k1, k2, kf, p, x, y, k3, k4, k5, k6⟩ := q'
  have hb : ∀ M, (h1 ++ M)[i]? = some (.box 92 (tellC s a p x y)) := fun M => get_app_old k3
  have hs : ∀ M o, (h1 ++ M).set i o = h1.set i o ++ M := fun M o => set_app_old k3
  have kf' : Kept F h1 := fun z hz => kf z (List.mem_cons_of_mem _ hz)
  have hlen := k1.len
  simp only [go_sem, hE]
  refine ways (fun e1 => ?_) (fun e1 => ?_)
  · have e1 : e.kind = 1 := by simpa using e1
    rw [if_pos e1]
    cases ho : u.open_ with
    | none =>
      rw [ho] at k6
      have k6 : p = .v (.pointer none) := k6
      subst k6
      simp only [go_sem, hE, k3, hb, hs, hE2]
      exact ⟨.tup [], by simp only [go_sem], .inl ⟨rfl, (k1.set k2 rfl).app (noRes1 rfl), k2, (kf'.set_box k3 (by decide) _).app _, _, _, _, get_app_old (get_set_same k3), (k4.set_box k3 _).app _, (k5.set_box k3 _).app _, h1.length, _, hlen, rfl, by rw [get_new0 (by simp)]; rfl, .inl ⟨rfl, rfl⟩⟩⟩
    | some z =>
      obtain ⟨f, os⟩ := z
      rw [ho] at k6
      obtain ⟨j, o, j1, rfl, j3, j4⟩ := k6
      have hszu : szT u = u.segs.length + u.flags.length + (os.length + 1) := by simp only [szT, ho, szO]
      simp only [go_sem, k3, j3]
      refine call_by (c85 _ h0 h1 i s a u f 2 q (by omega)) ?_
      rintro _ h2 ⟨rfl, q2⟩
      have hE3 : h2[h.length]? = some (.box 61 (evC e)) := q2.kept _ List.mem_cons_self
      simp only [go_sem, hE3]
      refine call_by (c86 _ h0 h2 i s a _ f os e.at_ q2 ho (by simp only [flagP]; omega)) ?_
      rintro _ h3 ⟨rfl, q3⟩
      have hE4 : h3[h.length]? = some (.box 61 (evC e)) := q3.kept _ List.mem_cons_self
      obtain ⟨m1, m2, mf, p', x', y', m3, m4, m5, m6⟩ := q3
      have hb2 : ∀ M, (h3 ++ M)[i]? = some (.box 92 (tellC s a p' x' y')) := fun M => get_app_old m3
      have hs2 : ∀ M o, (h3 ++ M).set i o = h3.set i o ++ M := fun M o => set_app_old m3
      have mf' : Kept F h3 := fun z hz => mf z (List.mem_cons_of_mem _ hz)
      simp only [go_sem, hE4, hb2, hs2]
      exact ⟨.tup [], by simp only [go_sem], .inl ⟨rfl, (m1.set m2 rfl).app (noRes1 rfl), m2, (mf'.set_box m3 (by decide) _).app _, _, _, _, get_app_old (get_set_same m3), (m4.set_box m3 _).app _, (m5.set_box m3 _).app _, h3.length, _, m1.len, rfl, by rw [get_new0 (by simp)]; rfl, .inl ⟨rfl, rfl⟩⟩⟩
  · have e1 : ¬ e.kind = 1 := by simpa using e1
    rw [if_neg e1]
    cases ho : u.open_ with
    | none =>
      rw [ho] at k6
      have k6 : p = .v (.pointer none) := k6
      subst k6
      have hszu : szT u = u.segs.length + u.flags.length + 0 := by simp only [szT, ho, szO]
      simp only [go_sem, hE, k3]
      refine call_by (c85 _ h0 h1 i s a u e 3 q (by omega)) ?_
      rintro _ h2 ⟨rfl, q2⟩
      simp only [go_sem]
      exact ⟨.tup [], by simp only [go_sem], .inl ⟨rfl, q2.drop⟩⟩
    | some z =>
      obtain ⟨f, os⟩ := z
      rw [ho] at k6
      obtain ⟨j, o, j1, rfl, j3, j4⟩ := k6
      have hszu : szT u = u.segs.length + u.flags.length + (os.length + 1) := by simp only [szT, ho, szO]
      simp only [go_sem, k3, j3, hE]
      refine ways (fun e2 => ?_) (fun e2 => ?_)
      · have e2 : e.kind = 2 := by simpa using e2
        simp only [go_sem, hE]
        refine call_by (c86 _ h0 h1 i s a u f os e.at_ q ho (by omega)) ?_
        rintro _ h2 ⟨rfl, q2⟩
        simp only [go_sem]
        exact ⟨.tup [], by simp only [go_sem], .inl ⟨rfl, by simp only [if_pos e2]; exact q2.drop⟩⟩
      · have e2 : ¬ e.kind = 2 := by simpa using e2
        simp only [if_neg e2]
        have hj : ∀ M, (h1 ++ M)[j]? = some (.box 118 (sessC f o)) := fun M => get_app_old j3
        have hsj : ∀ M o, (h1 ++ M).set j o = h1.set j o ++ M := fun M o => set_app_old j3
        have d1 := box_ne j3 k3 (by decide)
        rcases j4 with ⟨rfl, hn⟩ | ⟨id, st, r1, rfl, r3⟩
        · simp only [go_sem]
          refine wp_draw rfl [.res] 1 [(0, 0, []), (1, 0, []), (2, 0, []), (4, 0, []), (5, 0, []), (6, 0, []), (3, 0, []), (7, 0, []), (8, 0, []), (9, 0, []), (10, 0, []), (11, 0, []), (12, 0, []), (13, 0, [3]), (14, 0, []), (15, 0, []), (16, 0, [])] rfl (by decide) (by decide) ?_
          simp only [go_sem, hE, hE2, k3, j3, hb, hs, hj, hsj]
          refine ⟨.tup [], by simp only [go_sem], .inl ⟨rfl, (k1.set j1 rfl).app (noRes_cons rfl (noRes1 rfl)), k2, (kf'.set_box j3 (by decide) _).app _, .ptr j 0, x, y, get_app_old (by rw [List.getElem?_set_ne d1]; exact k3), (k4.set_box j3 _).app _, (k5.set_box j3 _).app _, j, .tl (h1.length + 1) 0, j1, rfl, get_app_old (get_set_same j3), .inr ⟨h1.length + 1, 0, by omega, rfl, ?_⟩⟩⟩
          rw [get_new (by simp), List.map_append, hn]
          rfl
        · have hid : ∀ M, (h1 ++ M)[id]? = some (.row 61 11 (os.map evC) st) := fun M => get_app_old r3
          have hs2 : ∀ M o, (h1 ++ M).set id o = h1.set id o ++ M := fun M o => set_app_old r3
          have bn : ∀ {j u : Nat} {cs : List AV}, h1[j]? = some (.box u cs) → ∀ o, (h1.set id o)[j]? = some (.box u cs) := fun hj o => by
            rw [List.getElem?_set_ne (fun q => by rw [q, hj] at r3; cases r3)]; exact hj
          have hj2 : ∀ M o, (h1.set id o ++ M)[j]? = _ := fun M o => get_app_old (bn j3 o)
          have hb2 : ∀ M o, (h1.set id o ++ M)[i]? = _ := fun M o => get_app_old (bn k3 o)
          have hs3 : ∀ M o o2, (h1.set id o ++ M).set j o2 = (h1.set id o).set j o2 ++ M := fun M o o2 => set_app_old (bn j3 o)
          have hE5 : ∀ M o, (h1.set id o ++ M)[h.length]? = _ := fun M o => get_app_old (bn hE o)
          have hne : j ≠ id := fun q => by rw [q, r3] at j3; cases j3
          have hszu : szT u = u.segs.length + u.flags.length + (os.length + 1) := by simp only [szT, ho, szO]
          have hrl : ((os.map evC).length + 1) * 89 ≤ 140737488355328 := by rw [List.length_map]; omega
          simp only [go_sem]
          refine wp_draw rfl [.res] 1 [(0, 0, []), (1, 0, []), (2, 0, []), (4, 0, []), (5, 0, []), (6, 0, []), (3, 0, []), (7, 0, []), (8, 0, []), (9, 0, []), (10, 0, []), (11, 0, []), (12, 0, []), (13, 0, [3]), (14, 0, []), (15, 0, []), (16, 0, [])] rfl (by decide) (by decide) ?_
          simp only [go_sem, hE, hE2, k3, j3, hb, hs, hj, hsj, hid, hs2, hj2, hb2, hs3, hE5, hrl]
          refine ⟨.tup [], by simp only [go_sem], .inl ⟨rfl, ((k1.set r1 rfl).set j1 rfl).app (noRes1 rfl), k2, ((kf'.set_row r3 _).set_box (bn j3 _) (by decide) _).app _, .ptr j 0, x, y, get_app_old (by rw [List.getElem?_set_ne d1]; exact bn k3 _), ((k4.set_row r3 (by decide) _).set_box (bn j3 _) _).app _, ((k5.set_row r3 (by decide) _).set_box (bn j3 _) _).app _, j, .tl id (st + 1), j1, rfl, get_app_old (get_set_same (bn j3 _)), .inr ⟨id, st + 1, r1, rfl, get_app_old ?_⟩⟩⟩
          rw [List.getElem?_set_ne hne, get_set_same r3, List.map_append]
          rfl
end Go.Proofs.YtpdghiplnlhnfaaGreat.Ax

namespace Go.Proofs.YtpdghiplnlhnfaaGreat.Ax
set_option linter.unusedSimpArgs false
set_option linter.unusedVariables false
open Go Go.Proofs
set_option maxRecDepth 100000
set_option linter.unusedSimpArgs false
set_option linter.unusedVariables false
/-- Which events a worker's sessions are made of. -/
def selP (s : Setup) (w : Int) (e : Ev) : Bool := (e.worker == w && e.kind != 7) && evOk s e
def takeP (s : Setup) (w : Int) (t : TellS) (e : Ev) : TellS := if selP s w e then nextP s t e else t
def goP (s : Setup) (w : Int) (l : List Ev) : TellS := l.foldl (takeP s w) ⟨none, [], []⟩
def streamP (s : Setup) (l : List Ev) (w : Int) : List Seg × List Flg := if setupOk s then ((lateP s (goP s w (stabE l)) 32054400).segs, (lateP s (goP s w (stabE l)) 32054400).flags) else ([], [])
theorem szT_take {s : Setup} {w : Int} {t : TellS} {e : Ev} : szT (takeP s w t e) ≤ szT t + 3 := by
  unfold takeP
  split
  · exact szT_next
  · omega
theorem szT_go {s : Setup} {w : Int} (l : List Ev) : ∀ {t : TellS}, szT (l.foldl (takeP s w) t) ≤ szT t + 3 * l.length := by
  induction l with
  | nil => intro t; simp
  | cons x l ih =>
    intro t
    rw [List.foldl_cons]
    have h1 := ih (t := takeP s w t x)
    have h2 := szT_take (s := s) (w := w) (t := t) (e := x)
    rw [List.length_cons]
    omega
/-- Slices that were made behind what there was. -/
def New (h : List Ob) (e : Nat) (x : AV) (rows : List (List AV)) (L : List Ob) : Prop := ∀ h2 : List Ob, h2.length = h.length → SlOf (h2 ++ L) x e rows
theorem OwnS.new {h0 h L : List Ob} {ty e : Nat} {x : AV} {rows : List (List AV)} (k : OwnS h0 (h ++ L) ty e x rows) (hl : h.length ≤ h0.length) : New h e x rows L := fun h2 h2l => by
  rcases k with ⟨rfl, rfl⟩ | ⟨id, st, k1, rfl, k3⟩
  · exact ⟨rfl, fun h => absurd rfl h⟩
  · have : (h2 ++ L)[id]? = some (.row ty e rows st) := by
      rw [List.getElem?_append_right (by omega)] at k3 ⊢
      rw [h2l]
      exact k3
    refine ⟨?_, fun _ => ?_⟩
    · rw [rowsOf_tl, this, rowTl_row, if_pos rfl]
    · rw [eOf_tl, this, eTl_row]
theorem c21 (h : List Ob) (s : Setup) (a : SA) (k : SIn h s a) (f : SFit s) (x : AV) (l : List Ev) (w : Int) (hx : SlOf h x 11 (l.map evC)) (hl : l.length < 1048576) :
    ACalls Tryz.prog 14 [setupV s a, x, i64 w] h fun r h' => ∃ L y z, h' = h ++ L ∧ NoRes L ∧ r = .tup [y, z] ∧ New h 5 y ((streamP s l w).1.map segC) L ∧ New h 2 z ((streamP s l w).2.map flgC) L := by
  have hex : ∃ r h', (∃ L y z, h' = h ++ L ∧ NoRes L ∧ r = AV.tup [y, z] ∧ New h 5 y ((streamP s l w).1.map segC) L ∧ New h 2 z ((streamP s l w).2.map flgC) L) ∧ ResK h h' :=
    ⟨_, _, ⟨[], .sl 5 _, .sl 2 _, rfl, noRes0, rfl, fun _ _ => ⟨rfl, fun _ => rfl⟩, fun _ _ => ⟨rfl, fun _ => rfl⟩⟩, resK_app⟩
  refine acalls_wp Tryz.f14 [.tmp 6, .tmp 7] 55 rfl rfl rfl rfl rfl rfl (by decide) (hex) fun B => ?_
  simp only [go_sem, k.w.one, k.e.one, k.c.one, k.g.one, k.r.one, k.t.one]
  refine call_by (c16 _ s a (k.app _) f) ?_
  rintro _ h1 ⟨rfl, e2⟩
  subst e2
  simp only [go_sem]
  refine ways (fun e => ?_) (fun e => ?_)
  · have e1 : setupOk s = false := by simpa using e
    simp only [go_sem]
    refine ⟨.tup [.v (.slice none 0 0), .v (.slice none 0 0)], by simp only [go_sem], .inl ⟨_, _, _, rfl, noRes1 rfl, rfl, ?_, ?_⟩⟩
    · rw [streamP, e1]; exact fun _ _ => ⟨rfl, fun h => absurd rfl h⟩
    · rw [streamP, e1]; exact fun _ _ => ⟨rfl, fun h => absurd rfl h⟩
  · have e1 : setupOk s = true := by simpa using e
    simp only [wpC_skip, thenA_n]
    rw [wpC_assoc, wpC_assoc, wpC_seq, wpC_assoc]
    have hlen := stabE_len l
    have k0 : SIn (h ++ [.box 30 (setupC s a)]) s a := k.app _
    have hs : streamP s l w = ((lateP s (goP s w (stabE l)) 32054400).segs, (lateP s (goP s w (stabE l)) 32054400).flags) := by rw [streamP, e1]; rfl
    obtain ⟨h0, hh0⟩ : ∃ h0, h0 = h ++ [.box 30 (setupC s a)] := ⟨_, rfl⟩
    have hl0 : h0.length = h.length + 1 := by rw [hh0]; simp
    refine wpC_cut (fun T h' => TellIn [] h0 h' (h.length + 1) s a ⟨none, [], []⟩ ∧ T 2 = i64 w ∧ T 3 = .ptr h.length 0 ∧ T 8 = .ptr (h.length + 1) 0 ∧ T 9 = .fn (.func 48) [.ptr (h.length + 1) 0] [] ∧ T 22 = i64 l.length ∧ T 23 = i64 0 ∧ ((stabE l = [] ∧ T 21 = .v (.slice none 0 0)) ∨ (∃ id st, T 21 = .tl id st ∧ h'[id]? = some (evRow (stabE l) st) ∧ h0.length ≤ id))) ?_ ?_
    · simp only [go_sem, k.w.one, k.e.one, k.c.one, k.g.one, k.r.one, k.t.one]
      have ht0 : TellIn [] h0 (h0 ++ [.box 92 (tellC s a (.v (.pointer none)) (.v (.slice none 0 0)) (.v (.slice none 0 0)))]) (h.length + 1) s a ⟨none, [], []⟩ :=
        ⟨Pre.refl.app (noRes1 rfl), by omega, (fun _ h => by cases h), _, _, _, by rw [← hl0, get_new0 rfl]; rfl, .inl ⟨rfl, rfl⟩, .inl ⟨rfl, rfl⟩, rfl⟩
      rw [hh0, List.append_assoc] at ht0
      refine call_by (c57 _ x l (hx.app _) (by omega)) ?_
      rintro r h3 (⟨rfl, rfl, rfl⟩ | ⟨rfl, rfl⟩)
      · simp only [go_sem, List.length_nil]
        rw [hh0]
        exact ⟨ht0, .inl rfl⟩
      · have hg : ∀ M, (h ++ .box 30 (setupC s a) :: .box 92 (tellC s a (.v (.pointer none)) (.v (.slice none 0 0)) (.v (.slice none 0 0))) :: evRow (stabE l) 1 :: M)[h.length + 2]? = some (evRow (stabE l) 1) := fun M => by rw [get_new rfl]; rfl
        simp only [go_sem, hg, List.length_map, hlen]
        have ht1 := ht0.app (M := [evRow (stabE l) 1]) (noRes1 rfl)
        rw [List.append_assoc, ← hh0] at ht1
        exact ⟨ht1, .inr ⟨_, _, rfl, by rw [get_new rfl]; rfl, by omega⟩⟩
    · rintro T h' ⟨ht, t2, t3, t8, t9, t22, t23, hy⟩
      simp only [go_sem]
      refine stop_ghost (fun T h' => ∃ y, (∀ h4 : List Ob, SlOf h4 y 11 ((stabE l).map evC)) ∧ TellIn [] h0 h' (h.length + 1) s a ⟨none, [], []⟩ ∧ T 2 = i64 w ∧ T 3 = .ptr h.length 0 ∧ T 8 = .ptr (h.length + 1) 0 ∧ T 9 = .fn (.func 48) [.ptr (h.length + 1) 0] [] ∧ T 21 = y ∧ T 22 = i64 l.length ∧ T 23 = i64 0) (fun K => ?_) ?_
      · rcases hy with ⟨hn, t21⟩ | ⟨id, st, t21, hr, hle⟩
        · exact K _ _ ⟨_, fun h4 => by rw [hn]; exact ⟨rfl, fun h => absurd rfl h⟩, ht, t2, t3, t8, t9, t21, t22, t23⟩
        · exact awp_freeze 21 t21 hr (K _ _ ⟨.sl 11 ((stabE l).map evC), fun h4 => ⟨rfl, fun _ => rfl⟩, ht.gone hr hle rfl, by simp only [go_sem, t2], by simp only [go_sem, t3], by simp only [go_sem, t8], by simp only [go_sem, t9], by simp only [go_sem], by simp only [go_sem, t22], by simp only [go_sem, t23]⟩)
      clear ht t2 t3 t8 t9 t22 t23 hy
      rintro T h' ⟨y, hy, ht, t2, t3, t8, t9, t21, t22, t23⟩
      refine wp_loop_a (by decide) (fun m T h' => ∃ k : Nat, k ≤ l.length ∧ TellIn [] h0 h' (h.length + 1) s a (goP s w ((stabE l).take k)) ∧ T 2 = i64 w ∧ T 3 = .ptr h.length 0 ∧ T 8 = .ptr (h.length + 1) 0 ∧ T 9 = .fn (.func 48) [.ptr (h.length + 1) 0] [] ∧ T 21 = y ∧ T 22 = i64 l.length ∧ T 23 = i64 k ∧ m = l.length - k) l.length
        ⟨0, by omega, ht, t2, t3, t8, t9, t21, t22, t23, rfl⟩ ?_
      clear ht t2 t3 t8 t9 t21 t22 t23
      rintro m T h' ⟨k, hk, ht, t2, t3, t8, t9, t21, t22, t23, rfl⟩
      simp only [go_sem, t22, t23]
      have hsz : szT (goP s w ((stabE l).take k)) ≤ szT ⟨none, [], []⟩ + 3 * ((stabE l).take k).length := szT_go ((stabE l).take k)
      rw [List.length_take] at hsz
      have hsz0 : szT ⟨none, [], []⟩ = 0 := rfl
      have h30 : h'[h.length]? = some (.box 30 (setupC s a)) := by
        obtain ⟨L, hL, _⟩ := ht.pre
        rw [hL, hh0]
        exact get_app_old (by simp)
      refine ways (fun e => ?_) (fun e => ?_)
      · have hlt := dlt e
        have hlt2 : k < (stabE l).length := by omega
        have hee := (hy h').at (i := k) (by simpa using hlt2)
        have hrr := (hy h').rows
        have hrow : ((stabE l).map evC)[k]? = some (evC (stabE l)[k]) := row_get (List.getElem?_eq_getElem hlt2)
        have hkl : (k : Int) < (stabE l).length := by omega
        obtain ⟨ev, hev⟩ : ∃ ev, ev = (stabE l)[k] := ⟨_, rfl⟩
        rw [← hev] at hrow
        have hstep : goP s w ((stabE l).take (k + 1)) = takeP s w (goP s w ((stabE l).take k)) ev := by
          rw [goP, ← List.take_append_getElem hlt2, List.foldl_append, hev]
          rfl
        have h31 : ∀ M, (h' ++ M)[h.length]? = some (.box 30 (setupC s a)) := fun M => get_app_old h30
        have hA : List.length (evC ev) = 11 := rfl
        have skip : selP s w ev = false → TellIn [] h0 (h' ++ [.box 61 (evC ev)]) (h.length + 1) s a (goP s w ((stabE l).take (k + 1))) := fun q => by
          rw [hstep, takeP, q]
          exact ht.app (noRes1 rfl)
        have fin : k + 1 ≤ l.length := by omega
        by_cases q1 : ev.worker = w
        · have f1 : (ev.worker == w) = true := by simpa using q1
          by_cases q2 : ev.kind = 7
          · have f2 : (ev.kind != 7) = false := by simpa using q2
            simp only [go_sem, t21, t23, hee, hrr, hrow, hkl, List.length_map, Int.toNat_natCast, Int.natCast_nonneg, t2, h31, f1, f2, bq_t]
            exact ⟨l.length - (k + 1), by omega, k + 1, fin, skip (by simp only [selP, f1, f2]; rfl), t3, t8, t9, t22, t_succ (by omega) rfl, rfl⟩
          · have f2 : (ev.kind != 7) = true := by simpa using q2
            simp only [go_sem, t3, t21, t23, hee, hrr, hrow, hkl, List.length_map, Int.toNat_natCast, Int.natCast_nonneg, t2, h31, f1, f2, bq_t]
            refine call_by (c14 _ s a ((ht.app (noRes1 rfl)).pre.sin (hh0 ▸ k0)) ev) ?_
            rintro _ h3 ⟨rfl, e3⟩
            subst e3
            simp only [go_sem]
            refine ways (fun e4 => ?_) (fun e4 => ?_)
            · have hsel : selP s w ev = true := by simp only [selP, f1, f2]; exact e4
              simp only [go_sem, t9]
              refine call_by (c56 [] h0 _ _ s a _ ev (ht.app (noRes1 rfl)) (by omega)) ?_
              rintro _ h3 ⟨rfl, q⟩
              simp only [go_sem, t23]
              refine ⟨l.length - (k + 1), by omega, k + 1, fin, ?_, t2, t3, t8, t9, t21, t22, t_succ (by omega) rfl, rfl⟩
              rw [hstep, takeP, hsel]
              exact q
            · simp only [go_sem, t23]
              exact ⟨l.length - (k + 1), by omega, k + 1, fin, skip (by simp only [selP, f1, f2]; exact e4), t2, t3, t8, t9, t21, t22, t_succ (by omega) rfl, rfl⟩
        · have f1 : (ev.worker == w) = false := by simpa using q1
          simp only [go_sem, t21, t23, hee, hrr, hrow, hkl, List.length_map, Int.toNat_natCast, Int.natCast_nonneg, t2, h31, f1, bq_t]
          exact ⟨l.length - (k + 1), by omega, k + 1, fin, skip (by simp only [selP, f1]; rfl), t3, t8, t9, t22, t_succ (by omega) rfl, rfl⟩
      · have hge := dnlt e
        have hk2 : k = (stabE l).length := by omega
        subst hk2
        rw [List.take_length] at ht hsz
        simp only [go_sem, t8]
        refine call_by (c58 [] h0 h' _ s a _ 32054400 ht (by omega)) ?_
        rintro _ h3 ⟨rfl, q⟩
        obtain ⟨m1, m2, mf, p', x', y', m3, m4, m5, m6⟩ := q
        obtain ⟨L, hL, hN⟩ := m1
        subst hL
        rw [hh0, List.append_assoc] at m3 m4 m5
        rw [hh0, List.append_assoc]
        rw [get_new rfl] at m3
        have m3' : L[0]? = some (.box 92 (tellC s a p' x' y')) := m3
        simp only [go_sem]
        refine wp_draw rfl [] 0 [(0, 0, []), (1, 0, []), (2, 0, []), (4, 0, []), (5, 0, []), (6, 0, []), (3, 0, []), (8, 0, []), (7, 0, []), (9, 0, [])] rfl (by decide) (by decide) ?_
        simp only [go_sem, t8, m3']
        refine ⟨.tup [x', y'], by simp only [go_sem], .inl ⟨_, _, _, rfl, noRes_cons rfl hN, rfl, ?_, ?_⟩⟩
        · rw [hs]; exact m4.new (by rw [List.length_append]; omega)
        · rw [hs]; exact m5.new (by rw [List.length_append]; omega)
end Go.Proofs.YtpdghiplnlhnfaaGreat.Ax
