/-
  Joined: Perf1, Own, Own2, Perf2, Goal1, Tier. Nothing is proved here of a statement.
-/
import Derived.Test.YtpdghiplnlhnfaaGreatMN
namespace Go.Proofs.YtpdghiplnlhnfaaGreat.Ax
set_option linter.unusedSimpArgs false
set_option linter.unusedVariables false
open Go Go.Proofs
set_option maxRecDepth 100000
set_option linter.unusedSimpArgs false
set_option linter.unusedVariables false
attribute [go_sem] ty65 ty34
theorem bq_f {b : Bool} : (b == false) = !b := by cases b <;> rfl
theorem c40 : Pure Tryz.prog 28 [] (rat (0, 1)) := fun h => by
  refine acalls_wp Tryz.f28 [.cell 0 24] 2 rfl rfl rfl rfl rfl rfl (by decide) (⟨_, _, ⟨rfl, rfl⟩, .refl⟩) fun B => ?_
  simp only [go_sem]
  (first | refine endA_pure0 ?_ | refine endA_pure ?_ (by rfl)) <;> (simp only [go_sem] <;> try rfl)
def isTask (id : Int) (e : Ev) : Bool := e.id == id && e.kind == 3
theorem c43 (h : List Ob) (i : Nat) (e : Ev) (g : Seg) (hi : h[i]? = some (.box 55 (segC g))) : ACalls Tryz.prog 31 [evV e, .ptr i 0] h fun r h' => r = bl (isTask g.id e) ∧ h' = h := by
  have hb : ∀ M, (h ++ M)[i]? = some (.box 55 (segC g)) := fun M => get_app_old hi
  cases f1 : e.id == g.id with
  | false =>
    refine acalls_wp Tryz.f31 [.tmp 3] 14 rfl rfl rfl rfl rfl rfl (by decide) (⟨_, _, ⟨rfl, rfl⟩, .refl⟩) fun B => ?_
    simp only [go_sem, hb, f1, bq_t]
    (first | refine endA_pure0 ?_ | refine endA_pure ?_ (by rfl)) <;> (simp only [go_sem, isTask, f1, Bool.false_and] <;> try rfl)
  | true =>
    refine acalls_wp Tryz.f31 [.tmp 3] 14 rfl rfl rfl rfl rfl rfl (by decide) (⟨_, _, ⟨rfl, rfl⟩, .refl⟩) fun B => ?_
    simp only [go_sem, hb, f1, bq_t]
    (first | refine endA_pure0 ?_ | refine endA_pure ?_ (by rfl)) <;> (simp only [go_sem, isTask, f1, Bool.true_and] <;> try rfl)
def notOwn (s : Setup) (w : Int) (e : Ev) : Bool := e.worker != w || !evOk s e
theorem c74 (h : List Ob) (i j : Nat) (e : Ev) (w : Int) (s : Setup) (a : SA) (k : SIn h s a) (hi : h[i]? = some (.box 3 [i64 w])) (hj : h[j]? = some (.box 30 (setupC s a))) : ACalls Tryz.prog 66 [evV e, .ptr i 0, .ptr j 0] h fun r h' => r = bl (notOwn s w e) ∧ h' = h := by
  have hb : ∀ M, (h ++ M)[i]? = some (.box 3 [i64 w]) := fun M => get_app_old hi
  have hb2 : ∀ M, (h ++ M)[j]? = some (.box 30 (setupC s a)) := fun M => get_app_old hj
  cases f1 : e.worker != w with
  | true =>
    refine acalls_wp Tryz.f66 [.tmp 4] 15 rfl rfl rfl rfl rfl rfl (by decide) (⟨_, _, ⟨rfl, rfl⟩, .refl⟩) fun B => ?_
    simp only [go_sem, hb, hb2, f1, bq_f, Bool.not_true, Bool.not_false]
    (first | refine endA_pure0 ?_ | refine endA_pure ?_ (by rfl)) <;> (simp only [go_sem, notOwn, f1, Bool.true_or] <;> try rfl)
  | false =>
    refine acalls_wp Tryz.f66 [.tmp 4] 15 rfl rfl rfl rfl rfl rfl (by decide) (⟨_, _, ⟨rfl, rfl⟩, .refl⟩) fun B => ?_
    simp only [go_sem, hb, hb2, f1, bq_f, Bool.not_true, Bool.not_false]
    refine call_by (c14 _ s a (k.app _) e) ?_
    rintro _ h3 ⟨rfl, e3⟩
    subst e3
    simp only [go_sem]
    (first | refine endA_pure0 ?_ | refine endA_pure ?_ (by rfl)) <;> (simp only [go_sem, notOwn, f1, Bool.false_or] <;> try rfl)
def takeA (o : List AV) (a : Rat2) (e : Int) : List AV := [i64 a.1, i64 a.2, i64 e]
theorem c44 (h : List Ob) (j : Nat) (n d wrong : Int) (a : Rat2) (e : Int) (hj : h[j]? = some (.box 65 [i64 n, i64 d, i64 wrong])) :
    ACalls Tryz.prog 33 [.ptr j 0, rat a, i64 e] h fun r h' => r = .tup [] ∧ h' = h.set j (.box 65 (if wrong = 0 then [i64 a.1, i64 a.2, i64 e] else [i64 n, i64 d, i64 wrong])) := by
  have hb : ∀ M, (h ++ M)[j]? = some (.box 65 [i64 n, i64 d, i64 wrong]) := fun M => get_app_old hj
  have hs : ∀ M o, (h ++ M).set j o = h.set j o ++ M := fun M o => set_app_old hj
  have hb2 : ∀ M o, (h.set j o ++ M)[j]? = some o := fun M o => get_app_old (get_set_same hj)
  have hs2 : ∀ M o o2, (h.set j o ++ M).set j o2 = h.set j o2 ++ M := fun M o o2 => by
    rw [set_app_old (get_set_same hj), List.set_set]
  refine acalls_wp Tryz.f33 [] 19 rfl rfl rfl rfl rfl rfl (by decide) (⟨_, _, ⟨rfl, rfl⟩, resK_set hj rfl⟩) fun B => ?_
  simp only [go_sem, hb]
  refine ways (fun e1 => ?_) (fun e1 => ?_)
  · have e1 : wrong = 0 := by simpa using e1
    simp only [go_sem, hb, hs, hb2, hs2]
    exact ⟨.tup [], by simp only [go_sem], .inr ⟨_, _, rfl, by simp, rfl, KeepLt.refl.set rfl rfl, rfl, by rw [if_pos e1]⟩⟩
  · have e1 : ¬ wrong = 0 := by simpa using e1
    simp only [go_sem]
    exact ⟨.tup [], by simp only [go_sem], .inr ⟨h, _, rfl, rfl, rfl, KeepLt.refl, rfl, by rw [if_neg e1, set_self hj]⟩⟩
end Go.Proofs.YtpdghiplnlhnfaaGreat.Ax

namespace Go.Proofs.YtpdghiplnlhnfaaGreat.Ax
set_option linter.unusedSimpArgs false
set_option linter.unusedVariables false
open Go Go.Proofs
set_option maxRecDepth 100000
set_option linter.unusedSimpArgs false
set_option linter.unusedVariables false
def avI : AV → Int
  | .v (.int _ n) => n
  | _ => 0
def rowEv (r : List AV) : Ev := ⟨avI (nth r 0), avI (nth r 1), avI (nth r 2), avI (nth r 3), avI (nth r 4), avI (nth r 5), avI (nth r 6), avI (nth r 7), avI (nth r 8), avI (nth r 9), avI (nth r 10)⟩
def zeroEv : Ev := ⟨0, 0, 0, 0, 0, 0, 0, 0, 0, 0, 0⟩
theorem rowEv_C (e : Ev) : rowEv (evC e) = e := rfl
theorem ix_cases (p : Ev → Bool) (l : List Ev) : (ixOf (l.map evC) (fun r => p (rowEv r)) = -1 ∧ ∀ e ∈ l, p e = false) ∨ ∃ A x R, l = A ++ x :: R ∧ ixOf (l.map evC) (fun r => p (rowEv r)) = (A.length : Int) ∧ p x = true ∧ ∀ e ∈ A, p e = false := by
  by_cases h : ∀ e ∈ l, p e = false
  · refine .inl ⟨ixOf_none fun j hj => ?_, h⟩
    rw [List.getElem_map, rowEv_C]
    exact h _ (List.getElem_mem _)
  · right
    induction l with
    | nil => exact absurd (fun e he => by cases he) h
    | cons y l ih =>
      cases hy : p y with
      | true => exact ⟨[], y, l, rfl, ixOf_hit (rows := (y :: l).map evC) (k := 0) (by simp) (fun j hj => by omega) hy, hy, fun e he => by cases he⟩
      | false =>
        obtain ⟨A, x, R, rfl, h1, h2, h3⟩ := ih (fun q => h fun e he => by
          rcases List.mem_cons.1 he with rfl | he
          · exact hy
          · exact q e he)
        have h4 : ∀ e ∈ y :: A, p e = false := fun e he => by
          rcases List.mem_cons.1 he with rfl | he
          · exact hy
          · exact h3 e he
        refine ⟨y :: A, x, R, rfl, ?_, h2, h4⟩
        refine ixOf_hit (by simp) (fun j hj => ?_) ?_
        · rw [List.getElem_map, rowEv_C]
          have : (y :: (A ++ x :: R))[j]'(by simp at hj ⊢; omega) = (y :: A)[j] := by
            have q : ((y :: A) ++ x :: R)[j]'(by simp at hj ⊢; omega) = (y :: A)[j] := List.getElem_append_left hj
            exact q
          rw [this]
          exact h4 _ (List.getElem_mem _)
        · rw [List.getElem_map, rowEv_C]
          have : (y :: (A ++ x :: R))[(y :: A).length]'(by simp) = x := by
            rw [List.getElem_of_eq (show y :: (A ++ x :: R) = (y :: A) ++ x :: R from rfl), List.getElem_append_right (Nat.le_refl _)]
            simp
          rw [this]
          exact h2
theorem ltRows_ev {n : Nat} : ∀ l : List Ev, ltRows n (l.map evC) = true
  | [] => rfl
  | e :: l => by
    rw [List.map_cons, ltRows, ltRows_ev l]
    rfl
theorem filt_none {p : Ev → Bool} {l : List Ev} (h : ∀ e ∈ l, p e = false) : l.filter (fun e => !p e) = l := List.filter_eq_self.2 fun e he => by simp [h e he]
theorem c73 (h : List Ob) (id st : Nat) (l : List Ev) (f : FuncId) (cs : List AV) (p : Ev → Bool) (hi : h[id]? = some (evRow l st)) (hl : l.length < 1048576) (hp : ∀ e ∈ l, ∀ o L, ACalls Tryz.prog f ([evV e] ++ cs) (h.set id o ++ L) fun r h' => r = bl (p e) ∧ h' = h.set id o ++ L) :
    ACalls Tryz.prog 65 [.tl id st, .fn (.func f) [] cs] h fun r h' => ∃ l2, h' = h.set id (evRow l2 st) ∧ (r = .tl id st ∨ ∃ n, r = .vw (.tl id st) 11 0 n) ∧ SlOf h' r 11 ((l.filter fun e => !p e).map evC) := by
  have hex : ∃ r h', (∃ l2, h' = h.set id (evRow l2 st) ∧ (r = AV.tl id st ∨ ∃ n, r = .vw (.tl id st) 11 0 n) ∧ SlOf h' r 11 ((l.filter fun e => !p e).map evC)) ∧ ResK h h' :=
    ⟨.tl id st, _, ⟨l.filter fun e => !p e, rfl, .inl rfl, by rw [rowsOf_tl, get_set_same hi, rowTl_row, if_pos rfl], fun _ => by rw [eOf_tl, get_set_same hi, eTl_row]⟩, resK_set hi rfl⟩
  have hx : SlOf h (.tl id st) 11 (l.map evC) := ⟨by rw [rowsOf_tl, hi, rowTl_row, if_pos rfl], fun _ => by rw [eOf_tl, hi, eTl_row]⟩
  have hp0 : PredOf h f cs agA (l.map evC) (fun r => p (rowEv r)) := fun row hrow L => by
    obtain ⟨e, he, rfl⟩ := List.mem_map.1 hrow
    have := hp e he (evRow l st) L
    rw [set_self hi] at this
    exact this
  refine acalls_wp Tryz.f65 [.tmp 4] 42 rfl rfl rfl rfl rfl rfl (by decide) (hex) fun B => ?_
  simp only [go_sem]
  refine call_by (c42 h _ f cs _ _ (by rw [List.length_map]; omega) (fun r hr => by obtain ⟨e, _, rfl⟩ := List.mem_map.1 hr; rfl) hx hp0) ?_
  rintro _ h1 ⟨rfl, e1⟩
  subst e1
  rcases ix_cases p l with ⟨q1, q2⟩ | ⟨A, x, R, rfl, q1, q2, q3⟩
  · rw [q1]
    simp only [go_sem]
    exact ⟨.tl id st, by simp only [go_sem], .inl ⟨l, (set_self hi).symm, .inl rfl, by rw [filt_none q2]; exact hx⟩⟩
  · rw [q1]
    have hne : ((A.length : Int) == -1) = false := by simp
    simp only [List.length_append, List.length_cons] at hl
    have w1 : wr ((A.length : Int) + 1) = ((A.length + 1 : Nat) : Int) := wr_succ (by omega)
    have hfx : ((A ++ [x]).filter fun e => !p e) = A := by rw [List.filter_append, filt_none q3]; simp [q2]
    simp only [go_sem, hne, w1]
    refine wp_loop_a (by decide) (fun n T h' => ∃ (P X R' : List Ev) (L : List Ob), P ++ R' = A ++ x :: R ∧ (P.filter fun e => !p e).length + X.length = P.length ∧ 0 < X.length ∧ h' = h1.set id (evRow ((P.filter fun e => !p e) ++ (X ++ R')) st) ++ L ∧ T 0 = .tl id st ∧ T 1 = .fn (.func f) [] cs ∧ T 5 = i64 (P.filter fun e => !p e).length ∧ T 6 = i64 P.length ∧ n = R'.length) R.length
      ⟨A ++ [x], [x], R, [], by simp, by rw [hfx]; simp, by simp, by rw [hfx, List.append_nil]; exact (set_self hi).symm, by simp only [go_sem], by simp only [go_sem], by (simp only [go_sem] <;> rw [hfx]), by (simp only [go_sem] <;> simp), rfl⟩ ?_
    rintro n T h' ⟨P, X, R', L, hPR, hX, hX0, rfl, t0, t1, t5, t6, rfl⟩
    have hg : ∀ M o, (h1.set id o ++ M)[id]? = some o := fun M o => get_app_old (get_set_same hi)
    have hPl := congrArg List.length hPR
    simp only [List.length_append, List.length_cons] at hPl
    simp only [go_sem, t6, t0, hg, List.length_map, List.length_append]
    refine ways (fun e => ?_) (fun e => ?_)
    · have hlt := dlt e
      cases R' with
      | nil => simp at hlt; omega
      | cons v R' =>
      simp only [List.length_cons] at hlt hPl
      obtain ⟨Fp, hFp⟩ : ∃ Fp, Fp = P.filter fun e => !p e := ⟨_, rfl⟩
      rw [← hFp] at hX t5 hlt ⊢
      have hv : v ∈ A ++ x :: R := by rw [← hPR]; simp
      have hpr : (Fp ++ (X ++ v :: R'))[P.length]? = some v := by
        rw [← List.append_assoc]
        exact get_a (by simp; omega)
      have ra : ((Fp ++ (X ++ v :: R')).map evC)[P.length]? = some (evC v) := row_get hpr
      have la : (P.length : Int) < ((Fp.length + (X.length + (R'.length + 1)) : Nat) : Int) := by omega
      have w2 : wr ((P.length : Int) + 1) = ((P.length + 1 : Nat) : Int) := wr_succ (by omega)
      have w3 : wr ((Fp.length : Int) + 1) = ((Fp.length + 1 : Nat) : Int) := wr_succ (by omega)
      obtain ⟨l3, hl3⟩ : ∃ l3, l3 = Fp ++ (X ++ v :: R') := ⟨_, rfl⟩
      rw [← hl3] at ra ⊢
      have hlen3 : l3.length = Fp.length + (X.length + (R'.length + 1)) := by rw [hl3]; simp
      have gN : ∀ o b, (h1.set id o ++ (L ++ [b]))[h1.length + L.length]? = some b := fun o b => by
        rw [get_new (by simp)]
        simp
      have sN : ∀ o b c, (h1.set id o ++ (L ++ [b])).set (h1.length + L.length) c = h1.set id o ++ (L ++ [c]) := fun o b c => by
        rw [List.set_append_right _ _ (by simp), List.length_set, show h1.length + L.length - h1.length = L.length by omega, List.set_append_right _ _ (Nat.le_refl _), Nat.sub_self]
        rfl
      simp only [go_sem, gN, sN, t6, t0, t1, hg, ra, la, hlen3, List.length_map, Int.toNat_natCast, Int.natCast_nonneg]
      refine call_by (hp v hv _ _) ?_
      rintro _ h3 ⟨rfl, e3⟩
      subst e3
      simp only [go_sem]
      have hPR2 : (P ++ [v]) ++ R' = A ++ x :: R := by rw [← hPR]; simp
      refine ways (fun e4 => ?_) (fun e4 => ?_)
      · have e4 : p v = false := by simpa using e4
        have hF2 : ((P ++ [v]).filter fun e => !p e) = Fp ++ [v] := by rw [List.filter_append, ← hFp]; simp [e4]
        cases X with
        | nil => simp at hX0
        | cons x0 X =>
        have hl4 : l3 = Fp ++ x0 :: (X ++ v :: R') := hl3
        have rb : (l3.map evC)[Fp.length]? = some (evC x0) := row_get (by rw [hl4]; exact get_a rfl)
        have hs : ∀ M o o2, (h1.set id o ++ M).set id o2 = h1.set id o2 ++ M := fun M o o2 => by
          rw [set_app_old (get_set_same hi), List.set_set]
        have lb : (Fp.length : Int) < ((Fp.length + (X.length + 1 + (R'.length + 1)) : Nat) : Int) := by omega
        have hset : (l3.map evC).set Fp.length (evC v) = (Fp ++ v :: (X ++ v :: R')).map evC := by
          rw [← List.map_set, hl4, List.set_append_right _ _ (Nat.le_refl _), Nat.sub_self]
          rfl
        have hq : (Fp ++ [v]) ++ ((X ++ [v]) ++ R') = Fp ++ v :: (X ++ v :: R') := by simp
        simp only [go_sem, gN, hs, rb, lb, hlen3, List.length_map, Int.toNat_natCast, Int.natCast_nonneg, t0, t1, t5, t6, hg, w2, w3, hset]
        exact ⟨R'.length, by simp, P ++ [v], X ++ [v], R', L ++ [.box 61 (evC v)], hPR2, by rw [hF2]; simp at hX ⊢; omega, by simp, by rw [hF2, hq], by rw [hF2]; exact i64_congr (by simp), i64_congr (by simp), rfl⟩
      · have e4 : p v = true := by simpa using e4
        have hF2 : ((P ++ [v]).filter fun e => !p e) = Fp := by rw [List.filter_append, ← hFp]; simp [e4]
        simp only [go_sem, t6, w2]
        exact ⟨R'.length, by simp, P ++ [v], X ++ [v], R', L ++ [.box 61 (evC v)], hPR2, by rw [hF2]; simp; omega, by simp, by rw [hF2, hl3]; simp, t0, t1, by rw [hF2]; exact t5, i64_congr (by simp), rfl⟩
    · have hge := dnlt e
      have hR : R' = [] := List.eq_nil_of_length_eq_zero (by omega)
      subst hR
      rw [List.append_nil] at hPR
      subst hPR
      obtain ⟨Fp, hFp⟩ : ∃ Fp, Fp = (A ++ x :: R).filter fun e => !p e := ⟨_, rfl⟩
      rw [← hFp] at t5 hX ⊢
      have f0 : (0 : Int) ≤ (Fp.length : Int) := by omega
      have f1 : (Fp.length : Int) ≤ ((Fp.length + X.length : Nat) : Int) := by omega
      have f2 : Fp.length + X.length - Fp.length = X.length := by omega
      have hs : ∀ M o o2, (h1.set id o ++ M).set id o2 = h1.set id o2 ++ M := fun M o o2 => by
        rw [set_app_old (get_set_same hi), List.set_set]
      have hz : List.take Fp.length ((Fp ++ X).map evC) ++ (List.replicate X.length ([i64 0, i64 0, i64 0, i64 0, i64 0, i64 0, i64 0, i64 0, i64 0, i64 0, i64 0] : List AV) ++ List.drop (Fp.length + X.length) ((Fp ++ X).map evC)) = (Fp ++ List.replicate X.length zeroEv).map evC := by
        rw [List.drop_of_length_le (by simp), List.append_nil, List.map_append, List.map_append, List.take_append_of_le_length (by simp), List.take_of_length_le (by simp), List.map_replicate]
        rfl
      have f3 : ((Fp.length : Nat) : Int) ≤ ((Fp.length + X.length : Nat) : Int) := f1
      simp only [go_sem, t0, t5, hg, hs, hz, List.length_map, List.length_append, List.length_replicate, f0, f1, f2, Int.toNat_natCast, true_and, or_true, Int.le_refl, Nat.le_refl, Option.bind_some, List.length_replicate, List.all_replicate, ite_self, Nat.sub_zero]
      have hlt := (List.getElem?_eq_some_iff.1 hi).1
      refine ⟨.vw (.tl id st) 11 0 Fp.length, by simp only [go_sem], .inr ⟨h1.set id _, L, rfl, by simp, by simp [AV.lt, hlt], KeepLt.refl.set rfl (ltRows_ev _), ⟨_, rfl, .inr ⟨_, rfl⟩, ?_⟩⟩⟩
      have hgt := get_set_same (b := evRow (Fp ++ List.replicate X.length zeroEv) st) hi
      refine ⟨?_, fun _ => ?_⟩
      · rw [rowsOf_vw, rowsOf_tl, hgt, rowTl_row, if_pos rfl, Option.bind_some, if_pos ⟨by simp, .inr (by rw [eOf_tl, hgt, eTl_row])⟩]
        simp
      · rw [eOf_vw, eOf_tl, hgt, eTl_row]
        rfl
end Go.Proofs.YtpdghiplnlhnfaaGreat.Ax

namespace Go.Proofs.YtpdghiplnlhnfaaGreat.Ax
set_option linter.unusedSimpArgs false
set_option linter.unusedVariables false
open Go Go.Proofs
set_option maxRecDepth 100000
set_option linter.unusedSimpArgs false
set_option linter.unusedVariables false
theorem c73z (f : FuncId) (cs : List AV) : Pure Tryz.prog 65 [.v (.slice none 0 0), .fn (.func f) [] cs] (.v (.slice none 0 0)) := fun h => by
  refine acalls_wp Tryz.f65 [.tmp 4] 42 rfl rfl rfl rfl rfl rfl (by decide) (⟨_, _, ⟨rfl, rfl⟩, .refl⟩) fun B => ?_
  simp only [go_sem]
  refine call_by (c42 h _ f cs [] (fun _ => false) (by simp) (fun r hr => by cases hr) ⟨rfl, fun h => absurd rfl h⟩ (fun r hr => by cases hr)) ?_
  rintro _ h1 ⟨rfl, e1⟩
  subst e1
  have : ixOf [] (fun _ => false) = -1 := rfl
  simp only [go_sem, this]
  (first | refine endA_pure0 ?_ | refine endA_pure ?_ (by rfl)) <;> (simp only [go_sem] <;> try rfl)
def ownP (s : Setup) (w : Int) (l : List Ev) : List Ev := (stabE l).filter fun e => !notOwn s w e
theorem c41 (h : List Ob) (s : Setup) (a : SA) (k : SIn h s a) (x : AV) (l : List Ev) (w : Int) (hx : SlOf h x 11 (l.map evC)) (hl : l.length < 1048576) :
    ACalls Tryz.prog 29 [setupV s a, x, i64 w] h fun r h' => ∃ L, h' = h ++ L ∧ NoRes L ∧ New h 11 r ((ownP s w l).map evC) L := by
  have hex : ∃ r h', (∃ L, h' = h ++ L ∧ NoRes L ∧ New h 11 r ((ownP s w l).map evC) L) ∧ ResK h h' :=
    ⟨.sl 11 _, _, ⟨[], rfl, noRes0, fun _ _ => ⟨rfl, fun _ => rfl⟩⟩, resK_app⟩
  refine acalls_wp Tryz.f29 [.tmp 6] 11 rfl rfl rfl rfl rfl rfl (by decide) (hex) fun B => ?_
  simp only [go_sem, k.w.one, k.e.one, k.c.one, k.g.one, k.r.one, k.t.one]
  refine call_by (c57 _ x l (hx.app _) (by omega)) ?_
  have hlen := stabE_len l
  rintro r h3 (⟨rfl, rfl, rfl⟩ | ⟨rfl, rfl⟩)
  · simp only [go_sem]
    refine call_by (c73z _ _ _) ?_
    rintro _ h4 ⟨rfl, e1⟩
    subst e1
    simp only [go_sem]
    exact ⟨.v (.slice none 0 0), by simp only [go_sem], .inl ⟨_, rfl, noRes_cons rfl (noRes1 rfl), fun _ _ => ⟨rfl, fun h => absurd rfl h⟩⟩⟩
  · simp only [go_sem]
    have hg : (h ++ [.box 30 (setupC s a), .box 3 [i64 w], evRow (stabE l) 1])[h.length + 2]? = some (evRow (stabE l) 1) := by rw [get_new rfl]; rfl
    refine call_by (c73 _ (h.length + 2) 1 (stabE l) 66 _ (notOwn s w) hg (by omega) fun e he o L => ?_) ?_
    · have hset : (h ++ [.box 30 (setupC s a), .box 3 [i64 w], evRow (stabE l) 1]).set (h.length + 2) o = h ++ [.box 30 (setupC s a), .box 3 [i64 w], o] := by
        rw [List.set_append_right _ _ (by omega), show h.length + 2 - h.length = 2 by omega]
        rfl
      rw [hset, List.append_assoc]
      refine c74 _ _ _ e w s a (k.app _) ?_ ?_
      · rw [get_new rfl]; rfl
      · rw [get_new0 rfl]; rfl
    · rintro r h4 ⟨l2, rfl, hr, hS⟩
      have hset : (h ++ [.box 30 (setupC s a), .box 3 [i64 w], evRow (stabE l) 1]).set (h.length + 2) (evRow l2 1) = h ++ [.box 30 (setupC s a), .box 3 [i64 w], evRow l2 1] := by
        rw [List.set_append_right _ _ (by omega), show h.length + 2 - h.length = 2 by omega]
        rfl
      rw [hset] at hS ⊢
      simp only [go_sem]
      refine ⟨r, by simp only [go_sem], .inl ⟨_, rfl, noRes_cons rfl (noRes_cons rfl (noRes1 rfl)), fun h2 hh2 => ?_⟩⟩
      have e1 : (h2 ++ [.box 30 (setupC s a), .box 3 [i64 w], evRow l2 1])[h.length + 2]? = (h ++ [.box 30 (setupC s a), .box 3 [i64 w], evRow l2 1])[h.length + 2]? := by
        rw [get_new hh2.symm, get_new rfl]
      have c1 : rowsOf (h2 ++ [.box 30 (setupC s a), .box 3 [i64 w], evRow l2 1]) r = rowsOf (h ++ [.box 30 (setupC s a), .box 3 [i64 w], evRow l2 1]) r ∧ eOf (h2 ++ [.box 30 (setupC s a), .box 3 [i64 w], evRow l2 1]) r = eOf (h ++ [.box 30 (setupC s a), .box 3 [i64 w], evRow l2 1]) r := by
        rcases hr with rfl | ⟨n, rfl⟩
        · rw [rowsOf_tl, rowsOf_tl, eOf_tl, eOf_tl, e1]; exact ⟨rfl, rfl⟩
        · rw [rowsOf_vw, rowsOf_vw, eOf_vw, eOf_vw, rowsOf_tl, rowsOf_tl, eOf_tl, eOf_tl, e1]; exact ⟨rfl, rfl⟩
      exact ⟨by rw [c1.1]; exact hS.rows, fun h => by rw [c1.2]; exact hS.ee h⟩
end Go.Proofs.YtpdghiplnlhnfaaGreat.Ax

namespace Go.Proofs.YtpdghiplnlhnfaaGreat.Ax
set_option linter.unusedSimpArgs false
set_option linter.unusedVariables false
open Go Go.Proofs
set_option maxRecDepth 100000
set_option linter.unusedSimpArgs false
set_option linter.unusedVariables false
def isFault (w : Int) (e : Ev) : Bool := e.kind == 7 && weekI e.at_ == w
def faultsP (l : List Ev) (w : Int) : Nat := (l.filter (isFault w)).length
theorem c45 (h : List Ob) (x : AV) (l : List Ev) (w : Int) (hx : SlOf h x 11 (l.map evC)) (hl : l.length < 1048576) :
    ACalls Tryz.prog 36 [x, i64 w] h fun r h' => r = i64 (faultsP l w) ∧ h' = h := by
  have hr : ∀ M, rowsOf (h ++ M) x = some (l.map evC) := fun M => (hx.app M).rows
  refine acalls_wp Tryz.f36 [.tmp 4] 27 rfl rfl rfl rfl rfl rfl (by decide) (⟨_, _, ⟨rfl, rfl⟩, .refl⟩) fun B => ?_
  simp only [go_sem, hx.rows, hr, List.length_map]
  refine wp_loop_a (by decide) (fun m T h' => ∃ (k : Nat) (L : List Ob), h' = h ++ L ∧ k ≤ l.length ∧ T 1 = i64 w ∧ T 4 = i64 (faultsP (l.take k) w) ∧ T 7 = x ∧ T 8 = i64 l.length ∧ T 9 = i64 k ∧ m = l.length - k) l.length
    ⟨0, [], by simp, by omega, by simp only [go_sem], by (simp only [go_sem] <;> rfl), by simp only [go_sem], by simp only [go_sem], by (simp only [go_sem] <;> rfl), rfl⟩ ?_
  rintro m T h' ⟨k, L, rfl, hk, t1, t4, t7, t8, t9, rfl⟩
  simp only [go_sem, t8, t9]
  refine ways (fun e => ?_) (fun e => ?_)
  · have hlt := dlt e
    have hee := (hx.app L).at (i := k) (by simpa using hlt)
    have hrow : (l.map evC)[k]? = some (evC l[k]) := row_get (List.getElem?_eq_getElem hlt)
    have hkl := len_bound hlt
    obtain ⟨v, hv⟩ : ∃ v, v = l[k] := ⟨_, rfl⟩
    rw [← hv] at hrow
    have hc : (l.take k).length = k := by simp; omega
    have hf0 : faultsP (l.take k) w ≤ k := by
      have := List.length_filter_le (isFault w) (l.take k)
      unfold faultsP
      omega
    have hstep : faultsP (l.take (k + 1)) w = faultsP (l.take k) w + (if isFault w v then 1 else 0) := by
      unfold faultsP
      rw [← List.take_append_getElem hlt, List.filter_append, List.length_append, ← hv]
      cases h : isFault w v <;> simp [h]
    have gN : ∀ b, (h ++ (L ++ [b]))[h.length + L.length]? = some b := fun b => by
      rw [get_new rfl]
      simp
    have sN : ∀ b c, (h ++ (L ++ [b])).set (h.length + L.length) c = h ++ (L ++ [c]) := fun b c => by
      rw [List.set_append_right _ _ (by simp), show h.length + L.length - h.length = L.length by omega, List.set_append_right _ _ (Nat.le_refl _), Nat.sub_self]
      rfl
    by_cases q1 : v.kind = 7
    · have f1 : (v.kind == 7) = true := by simpa using q1
      simp only [go_sem, t7, t9, t1, hr, hee, hrow, hkl, gN, sN, List.length_map, Int.toNat_natCast, Int.natCast_nonneg, f1, bq_t]
      refine call_by (c17 v.at_ _) ?_
      rintro _ h3 ⟨rfl, e3⟩
      subst e3
      simp only [go_sem, t1]
      refine ways (fun e4 => ?_) (fun e4 => ?_)
      · have hF : isFault w v = true := by simp only [isFault, f1]; exact e4
        rw [hF, if_pos rfl] at hstep
        simp only [go_sem, t4, t9]
        exact ⟨l.length - (k + 1), by omega, k + 1, L ++ [.box 61 (evC v)], rfl, by omega, t1, by rw [hstep]; exact t_succ (by omega) rfl, t7, t8, t_succ (by omega) rfl, rfl⟩
      · have hF : isFault w v = false := by simp only [isFault, f1]; exact e4
        rw [hF, if_neg (by simp)] at hstep
        simp only [go_sem, t9]
        exact ⟨l.length - (k + 1), by omega, k + 1, L ++ [.box 61 (evC v)], rfl, by omega, t1, by rw [hstep]; exact t4, t7, t8, t_succ (by omega) rfl, rfl⟩
    · have f1 : (v.kind == 7) = false := by simpa using q1
      have hF : isFault w v = false := by simp only [isFault, f1]; rfl
      rw [hF, if_neg (by simp)] at hstep
      simp only [go_sem, t7, t9, hr, hee, hrow, hkl, gN, sN, List.length_map, Int.toNat_natCast, Int.natCast_nonneg, f1, bq_t]
      exact ⟨l.length - (k + 1), by omega, k + 1, L ++ [.box 61 (evC v)], rfl, by omega, t1, by rw [hstep]; exact t4, t8, t_succ (by omega) rfl, rfl⟩
  · have hge := dnlt e
    have : k = l.length := by omega
    subst this
    rw [List.take_length] at t4
    simp only [go_sem, t4]
    (first | refine endA_pure0 ?_ | refine endA_pure ?_ (by rfl)) <;> (simp only [go_sem] <;> try rfl)
end Go.Proofs.YtpdghiplnlhnfaaGreat.Ax

namespace Go.Proofs.YtpdghiplnlhnfaaGreat.Ax
set_option linter.unusedSimpArgs false
set_option linter.unusedVariables false
open Go Go.Proofs
set_option maxRecDepth 100000
set_option linter.unusedSimpArgs false
set_option linter.unusedVariables false
attribute [go_sem] ty26 ty24
theorem c62 (n : Int) : Pure Tryz.prog 70 [i64 n] (rat (n, 1)) := fun h => by
  refine acalls_wp Tryz.f70 [.cell 2 24] 5 rfl rfl rfl rfl rfl rfl (by decide) (⟨_, _, ⟨rfl, rfl⟩, .refl⟩) fun B => ?_
  simp only [go_sem]
  (first | refine endA_pure0 ?_ | refine endA_pure ?_ (by rfl)) <;> (simp only [go_sem] <;> try rfl)
theorem c61 (a b : Rat2) (ha : FitR a) (hb : FitR b) : Pure Tryz.prog 69 [rat a, rat b] (ratE (sumR [a, b])) := fun h => by
  refine acalls_wp Tryz.f69 [.cell 4 24, .tmp 5] 12 rfl rfl rfl rfl rfl rfl (by decide) (⟨_, _, ⟨rfl, rfl⟩, .refl⟩) fun B => ?_
  simp only [go_sem]
  refine call_by (c23 _ _ [a, b] (fun p hp => by
    rcases List.mem_cons.1 hp with rfl | hp
    · exact ha
    · rw [List.mem_singleton.1 hp]; exact hb) (by simp) ⟨by simp only [go_sem, List.map_cons, List.map_nil, rrow], fun _ => by simp only [go_sem]⟩) ?_
  rintro _ h1 ⟨rfl, e2⟩
  subst e2
  simp only [go_sem]
  (first | refine endA_pure0 ?_ | refine endA_pure ?_ (by rfl)) <;> (simp only [go_sem] <;> try rfl)
theorem c60 (h : List Ob) (j : Nat) (wrong : Int) (f : FuncId) (a b : Rat2) (v : Rat2 × Int) (hj : h[j]? = some (.box 34 [i64 wrong])) (hf : ∀ L, ACalls Tryz.prog f [rat a, rat b] (h ++ L) fun r h' => r = ratE v ∧ h' = h ++ L) :
    ACalls Tryz.prog 68 [.fn (.func f) [] [], rat a, rat b, .ptr j 0] h fun r h' => r = rat (if wrong = 0 then v.1 else (0, 0)) ∧ h' = h.set j (.box 34 [i64 (if wrong = 0 then v.2 else wrong)]) := by
  have hb : ∀ M, (h ++ M)[j]? = some (.box 34 [i64 wrong]) := fun M => get_app_old hj
  have hs : ∀ M o, (h ++ M).set j o = h.set j o ++ M := fun M o => set_app_old hj
  refine acalls_wp Tryz.f68 [.cell 7 24] 22 rfl rfl rfl rfl rfl rfl (by decide) (⟨_, _, ⟨rfl, rfl⟩, resK_set hj rfl⟩) fun B => ?_
  simp only [go_sem, hb]
  refine ways (fun e1 => ?_) (fun e1 => ?_)
  · have e1 : ¬ wrong = 0 := by simpa using e1
    simp only [go_sem, hb]
    exact ⟨rat (0, 0), by simp only [go_sem], .inr ⟨h, _, rfl, rfl, rfl, KeepLt.refl, by rw [if_neg e1], by rw [if_neg e1, set_self hj]⟩⟩
  · have e1 : wrong = 0 := by simpa using e1
    simp only [go_sem]
    refine call_by (hf _) ?_
    rintro _ h1 ⟨rfl, e2⟩
    subst e2
    have gN : ∀ o M n, (h.set j o ++ M)[h.length + n]? = M[n]? := fun o M n => get_new (by simp)
    have sN : ∀ o M n c, (h.set j o ++ M).set (h.length + n) c = h.set j o ++ M.set n c := fun o M n c => by
      rw [List.set_append_right _ _ (by simp), List.length_set, show h.length + n - h.length = n by omega]
    simp only [go_sem, hb, hs, gN, sN, List.set_cons_succ, List.set_cons_zero, List.getElem?_cons_succ, List.getElem?_cons_zero]
    exact ⟨rat v.1, by simp only [go_sem, gN, List.getElem?_cons_succ, List.getElem?_cons_zero], .inr ⟨h.set j _, _, rfl, by simp, rfl, KeepLt.refl.set rfl rfl, by rw [if_pos e1], by rw [if_pos e1]⟩⟩
end Go.Proofs.YtpdghiplnlhnfaaGreat.Ax

namespace Go.Proofs.YtpdghiplnlhnfaaGreat.Ax
set_option linter.unusedSimpArgs false
set_option linter.unusedVariables false
open Go Go.Proofs
set_option maxRecDepth 100000
set_option linter.unusedSimpArgs false
set_option linter.unusedVariables false
attribute [go_sem] ty28 ty81
def reachP (p : Rat2) (t : Tier) : Bool := !lessR p (make t.1 100).1
def tierG (p : Rat2) : Int → Int → List Tier → Int
  | out, _, [] => out
  | out, i, t :: l => tierG p (if reachP p t then i else out) (i + 1) l
def tierP (s : Setup) (p : Rat2) : Int := if setupOk s && rok p then tierG p (-1) 0 s.tiers else -1
theorem c26 (h : List Ob) (s : Setup) (a : SA) (kS : SIn h s a) (f : SFit s) (p : Rat2) (hp : FitR p) :
    ACalls Tryz.prog 10 [setupV s a, rat p] h fun r h' => r = i64 (tierP s p) ∧ h' = h := by
  refine acalls_wp Tryz.f10 [.tmp 4] 40 rfl rfl rfl rfl rfl rfl (by decide) (⟨_, _, ⟨rfl, rfl⟩, .refl⟩) fun B => ?_
  simp only [go_sem, kS.w.one, kS.e.one, kS.c.one, kS.g.one, kS.r.one, kS.t.one]
  refine call_by (c16 _ s a (kS.app _) f) ?_
  rintro _ h1 ⟨rfl, e2⟩
  subst e2
  cases q1 : setupOk s with
  | false =>
    simp only [go_sem, q1, bq_f, Bool.not_true, Bool.not_false]
    (first | refine endA_pure0 ?_ | refine endA_pure ?_ (by rfl)) <;> (simp only [go_sem, tierP, q1, Bool.false_and] <;> try rfl)
  | true =>
    simp only [go_sem, q1, bq_f, Bool.not_true, Bool.not_false]
    refine call_by (c27 p hp.1 hp.2 _) ?_
    rintro _ h1 ⟨rfl, e2⟩
    subst e2
    cases q2 : rok p with
    | false =>
      simp only [go_sem, q2, Bool.not_true, Bool.not_false]
      (first | refine endA_pure0 ?_ | refine endA_pure ?_ (by rfl)) <;> (simp only [go_sem, tierP, q1, q2, Bool.true_and] <;> try rfl)
    | true =>
      have hr : ∀ M, rowsOf (h ++ M) a.t = some (s.tiers.map rrow) := fun M => (kS.app M).t.rows
      simp only [go_sem, q2, Bool.not_true, Bool.not_false, hr, List.length_map]
      have hn := f.nt
      refine wp_loop_a (by decide) (fun m T h' => ∃ (k : Nat) (out : Int) (L : List Ob), h' = h ++ (.box 30 (setupC s a) :: .box 24 [i64 p.1, i64 p.2] :: L) ∧ k ≤ s.tiers.length ∧ T 3 = .ptr (h.length + 1) 0 ∧ T 5 = i64 out ∧ T 20 = a.t ∧ T 21 = i64 s.tiers.length ∧ T 22 = i64 k ∧ tierG p (-1) 0 s.tiers = tierG p out k (s.tiers.drop k) ∧ m = s.tiers.length - k) s.tiers.length
        ⟨0, -1, [], rfl, by omega, by simp only [go_sem], by (simp only [go_sem] <;> rfl), by simp only [go_sem], by simp only [go_sem], by (simp only [go_sem] <;> rfl), rfl, rfl⟩ ?_
      rintro m T h' ⟨k, out, L, hh, hk, t3, t5, t20, t21, t22, hG, rfl⟩
      have hx : SlOf h' a.t 2 (s.tiers.map rrow) := by rw [hh]; exact kS.t.app _
      simp only [go_sem, t21, t22]
      refine ways (fun e => ?_) (fun e => ?_)
      · have hlt := dlt e
        have hee := hx.at (i := k) (by simpa using hlt)
        have hrow : (s.tiers.map rrow)[k]? = some (rrow s.tiers[k]) := by rw [List.getElem?_map, List.getElem?_eq_getElem hlt]; rfl
        have hkl := len_bound hlt
        have hb : ∀ M, (h' ++ M)[h.length + 1]? = some (.box 24 [i64 p.1, i64 p.2]) := fun M => by rw [hh]; exact get_app_old (by rw [get_new rfl]; rfl)
        simp only [go_sem, t20, t22, hee, hx.rows, hrow, hkl, rrow, List.length_map, Int.toNat_natCast, Int.natCast_nonneg]
        refine call_by (c18 s.tiers[k].1 100 (f.tiers _ (List.getElem_mem hlt)).1 ⟨by decide, by decide⟩ _) ?_
        rintro _ h1 ⟨rfl, e2⟩
        subst e2
        simp only [go_sem, t3, hb]
        refine call_by (c20 p _ hp (fit_make _ _) _) ?_
        rintro _ h1 ⟨rfl, e2⟩
        subst e2
        simp only [go_sem]
        have hstep : tierG p out k (s.tiers.drop k) = tierG p (if reachP p s.tiers[k] then (k : Int) else out) ((k + 1 : Nat) : Int) (s.tiers.drop (k + 1)) := by
          rw [List.drop_eq_getElem_cons hlt, tierG]
          rfl
        refine ways (fun e4 => ?_) (fun e4 => ?_)
        · have hR : reachP p s.tiers[k] = true := e4
          rw [hR, if_pos rfl] at hstep
          simp only [go_sem, t22]
          exact ⟨s.tiers.length - (k + 1), by omega, k + 1, k, L ++ _, by rw [hh]; simp only [List.append_assoc, List.cons_append]; rfl, by omega, t3, rfl, t20, t21, t_succ (by omega) rfl, by rw [hG, hstep], rfl⟩
        · have hR : reachP p s.tiers[k] = false := e4
          rw [hR, if_neg (by simp)] at hstep
          simp only [go_sem, t22]
          exact ⟨s.tiers.length - (k + 1), by omega, k + 1, out, L ++ _, by rw [hh]; simp only [List.append_assoc, List.cons_append]; rfl, by omega, t3, t5, t20, t21, t_succ (by omega) rfl, by rw [hG, hstep], rfl⟩
      · have hge := dnlt e
        have hk2 : k = s.tiers.length := by omega
        subst hk2
        rw [List.drop_length, tierG] at hG
        subst hh
        simp only [go_sem, t5]
        (first | refine endA_pure0 ?_ | refine endA_pure ?_ (by rfl)) <;> (simp only [go_sem, tierP, q1, q2, Bool.true_and, hG] <;> try rfl)
end Go.Proofs.YtpdghiplnlhnfaaGreat.Ax
