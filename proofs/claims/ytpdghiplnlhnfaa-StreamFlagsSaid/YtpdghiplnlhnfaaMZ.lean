/-
  Joined: LAlone. Nothing is proved here of a statement.
-/
import Derived.Test.YtpdghiplnlhnfaaMY
namespace Go.Proofs.Ytpdghiplnlhnfaa.Ax
set_option linter.unusedSimpArgs false
set_option linter.unusedVariables false
open Go Go.Proofs
set_option maxRecDepth 100000
set_option linter.unusedSimpArgs false
set_option linter.unusedVariables false
attribute [go_sem] ty5
def e00 : Ev := ⟨0, 0, 0, 0, 0, 0, 0, 0, 0, 0, 0⟩
def rotE (l : List Ev) (q i : Nat) : Ev := l.getD ((i + q) % l.length) e00
def ownE (w : Int) (e : Ev) : Bool := e.worker == w && e.kind != 7
def turnP (l : List Ev) (q : Nat) (w : Int) (n : Nat) : List Ev := ((List.range n).map (rotE l q)).filter (ownE w)
theorem turnP_succ (l : List Ev) (q : Nat) (w : Int) (n : Nat) : turnP l q w (n + 1) = if ownE w (rotE l q n) then turnP l q w n ++ [rotE l q n] else turnP l q w n := by
  unfold turnP
  rw [List.range_succ, List.map_append, List.filter_append]
  cases h : ownE w (rotE l q n) <;> simp [h]
theorem turnP_len (l : List Ev) (q : Nat) (w : Int) (n : Nat) : (turnP l q w n).length ≤ n := by
  unfold turnP
  have := List.length_filter_le (ownE w) ((List.range n).map (rotE l q))
  simpa using this
theorem rot_perm (l : List Ev) (q : Nat) : ((List.range l.length).map (rotE l q)).Perm l := by
  by_cases h0 : l.length = 0
  · rw [List.length_eq_zero_iff.1 h0]; simp
  have hr : q % l.length < l.length := Nat.mod_lt _ (by omega)
  have e : (List.range l.length).map (rotE l q) = l.drop (q % l.length) ++ l.take (q % l.length) := by
    apply List.ext_getElem?
    intro i
    by_cases hi : i < l.length
    · have hm : (i + q) % l.length = if i + q % l.length < l.length then i + q % l.length else i + q % l.length - l.length := by
        rw [Nat.add_mod, Nat.mod_eq_of_lt hi]
        split
        · rw [Nat.mod_eq_of_lt (by assumption)]
        · rw [Nat.mod_eq_sub_mod (by omega), Nat.mod_eq_of_lt (by omega)]
      rw [List.getElem?_map, List.getElem?_range hi, Option.map_some]
      unfold rotE
      rw [List.getD_eq_getElem?_getD, hm]
      split
      · rename_i hlt
        rw [List.getElem?_append_left (by simp; omega), List.getElem?_drop, Nat.add_comm (q % l.length) i, List.getElem?_eq_getElem hlt]
        rfl
      · rename_i hge
        rw [List.getElem?_append_right (by simp; omega), List.length_drop, List.getElem?_take, if_pos (by omega), show i - (l.length - q % l.length) = i + q % l.length - l.length by omega, List.getElem?_eq_getElem (by omega)]
        rfl
    · rw [List.getElem?_eq_none (by simp; omega), List.getElem?_eq_none (by simp; omega)]
  rw [e]
  exact (List.perm_append_comm).trans (by rw [List.take_append_drop])
theorem stream_len2 {s : Setup} {l : List Ev} {w : Int} (hl : l.length ≤ 100) : (streamP s l w).2.length < 1048576 := by
  have hlen := stabE_len l
  have hsz : szT (goP s w (stabE l)) ≤ szT ⟨none, [], []⟩ + 3 * (stabE l).length := szT_go (stabE l)
  have hsz0 : szT ⟨none, [], []⟩ = 0 := rfl
  have h2 := szT_late (s := s) (t := goP s w (stabE l)) (at_ := 32054400)
  unfold streamP
  split
  · simp only [szT] at h2 hsz hsz0 ⊢
    omega
  · simp
theorem turn_same {s : Setup} {l : List Ev} {q : Nat} {w : Int} (hn : (l.map (·.id)).Nodup) : streamP s (turnP l q w l.length) w = streamP s l w := by
  refine stream_alone ?_ hn
  exact (rot_perm l q).filter _
set_option maxHeartbeats 2000000 in
theorem c8 (h : List Ob) (s : Setup) (a : SA) (k : SIn h s a) (f0 : SFit0 s) (x : AV) (l : List Ev) (hx : SlOf h x 11 (l.map evC)) (w : Int) (q : Nat) (hq : q < 256) :
    ACalls Try.prog 8 [setupV s a, x, i64 w, .v (.int .u8 q)] h fun r h' => r = bl true ∧ h' = h := by
  refine acalls_wp Try.f8 [.tmp 8] 95 rfl rfl rfl rfl rfl rfl (by decide) (⟨_, _, ⟨rfl, rfl⟩, .refl⟩) fun B => ?_
  simp only [go_sem, Nat.reduceAdd, Nat.reduceMul, Nat.reduceSub, Nat.reduceLT, Nat.reduceLeDiff, Nat.reduceEqDiff, reduceIte, reduceCtorEq, Int.reduceEq, Int.reduceLT, Int.reduceLE, Int.reduceBEq, Int.reduceToNat, Int.reduceAdd, Int.cast_ofNat_Int, k.w.one, k.e.one, k.c.one, k.g.one, k.r.one, k.t.one]
  refine call_by (c28 _) ?_
  rintro _ h1 ⟨rfl, rfl⟩
  have k1 := k.app [.box 30 (setupC s a)]
  simp only [go_sem, Nat.reduceAdd, Nat.reduceMul, Nat.reduceSub, Nat.reduceLT, Nat.reduceLeDiff, Nat.reduceEqDiff, reduceIte, reduceCtorEq, Int.reduceEq, Int.reduceLT, Int.reduceLE, Int.reduceBEq, Int.reduceToNat, Int.reduceAdd, Int.cast_ofNat_Int, k1.w.one, k1.e.one, k1.c.one, k1.g.one, k1.r.one, k1.t.one]
  refine call_by (c29 _ s a k1 x l (hx.app _)) ?_
  rintro _ h1 ⟨rfl, rfl⟩
  simp only [go_sem, Nat.reduceAdd, Nat.reduceMul, Nat.reduceSub, Nat.reduceLT, Nat.reduceLeDiff, Nat.reduceEqDiff, reduceIte, reduceCtorEq, Int.reduceEq, Int.reduceLT, Int.reduceLE, Int.reduceBEq, Int.reduceToNat, Int.reduceAdd, Int.cast_ofNat_Int]
  refine ways (fun e => ?_) (fun e => ?_)
  · simp only [go_sem, Nat.reduceAdd, Nat.reduceMul, Nat.reduceSub, Nat.reduceLT, Nat.reduceLeDiff, Nat.reduceEqDiff, reduceIte, reduceCtorEq, Int.reduceEq, Int.reduceLT, Int.reduceLE, Int.reduceBEq, Int.reduceToNat, Int.reduceAdd, Int.cast_ofNat_Int]
    (first | refine endA_pure0 ?_ | refine endA_pure ?_ (by rfl)) <;> (simp only [go_sem, Nat.reduceAdd, Nat.reduceMul, Nat.reduceSub, Nat.reduceLT, Nat.reduceLeDiff, Nat.reduceEqDiff, reduceIte, reduceCtorEq, Int.reduceEq, Int.reduceLT, Int.reduceLE, Int.reduceBEq, Int.reduceToNat, Int.reduceAdd, Int.cast_ofNat_Int] <;> try rfl)
  · have e : fewL 100 s l = true := by simpa using e
    simp only [fewL, Bool.and_eq_true, decide_eq_true_eq] at e
    obtain ⟨e1, hl⟩ := e
    have f := f0.few e1
    simp only [go_sem, Nat.reduceAdd, Nat.reduceMul, Nat.reduceSub, Nat.reduceLT, Nat.reduceLeDiff, Nat.reduceEqDiff, reduceIte, reduceCtorEq, Int.reduceEq, Int.reduceLT, Int.reduceLE, Int.reduceBEq, Int.reduceToNat, Int.reduceAdd, Int.cast_ofNat_Int]
    obtain ⟨h0, hh0⟩ : ∃ h0, h0 = h ++ [Ob.box 30 (setupC s a)] := ⟨_, rfl⟩
    have h30 : h0[h.length]? = some (.box 30 (setupC s a)) := by rw [hh0]; exact get_new0 rfl
    have hx0 : SlOf h0 x 11 (l.map evC) := by rw [hh0]; exact hx.app _
    have hp00 : Pre h h0 := ⟨_, hh0, noRes1 rfl⟩
    rw [← hh0] at k1 ⊢
    refine wp_loop_a (by decide) (fun m T h' => ∃ n : Nat, n ≤ l.length ∧ Pre h0 h' ∧ OwnS h0 h' 35 11 (T 10) ((turnP l q w n).map evC) ∧ ((l.take n).map (·.id)).Nodup ∧ T 1 = x ∧ T 2 = i64 w ∧ T 3 = .v (.int .u8 q) ∧ T 4 = .ptr h.length 0 ∧ T 9 = bl true ∧ T 11 = i64 n ∧ m = l.length - n) l.length
      ⟨0, by omega, Pre.refl, .inl ⟨by simp only [go_sem, Nat.reduceAdd, Nat.reduceMul, Nat.reduceSub, Nat.reduceLT, Nat.reduceLeDiff, Nat.reduceEqDiff, reduceIte, reduceCtorEq, Int.reduceEq, Int.reduceLT, Int.reduceLE, Int.reduceBEq, Int.reduceToNat, Int.reduceAdd, Int.cast_ofNat_Int], rfl⟩, .nil, by simp only [go_sem, Nat.reduceAdd, Nat.reduceMul, Nat.reduceSub, Nat.reduceLT, Nat.reduceLeDiff, Nat.reduceEqDiff, reduceIte, reduceCtorEq, Int.reduceEq, Int.reduceLT, Int.reduceLE, Int.reduceBEq, Int.reduceToNat, Int.reduceAdd, Int.cast_ofNat_Int], by simp only [go_sem, Nat.reduceAdd, Nat.reduceMul, Nat.reduceSub, Nat.reduceLT, Nat.reduceLeDiff, Nat.reduceEqDiff, reduceIte, reduceCtorEq, Int.reduceEq, Int.reduceLT, Int.reduceLE, Int.reduceBEq, Int.reduceToNat, Int.reduceAdd, Int.cast_ofNat_Int], by simp only [go_sem, Nat.reduceAdd, Nat.reduceMul, Nat.reduceSub, Nat.reduceLT, Nat.reduceLeDiff, Nat.reduceEqDiff, reduceIte, reduceCtorEq, Int.reduceEq, Int.reduceLT, Int.reduceLE, Int.reduceBEq, Int.reduceToNat, Int.reduceAdd, Int.cast_ofNat_Int], by simp only [go_sem, Nat.reduceAdd, Nat.reduceMul, Nat.reduceSub, Nat.reduceLT, Nat.reduceLeDiff, Nat.reduceEqDiff, reduceIte, reduceCtorEq, Int.reduceEq, Int.reduceLT, Int.reduceLE, Int.reduceBEq, Int.reduceToNat, Int.reduceAdd, Int.cast_ofNat_Int], by simp only [go_sem, Nat.reduceAdd, Nat.reduceMul, Nat.reduceSub, Nat.reduceLT, Nat.reduceLeDiff, Nat.reduceEqDiff, reduceIte, reduceCtorEq, Int.reduceEq, Int.reduceLT, Int.reduceLE, Int.reduceBEq, Int.reduceToNat, Int.reduceAdd, Int.cast_ofNat_Int], by (simp only [go_sem, Nat.reduceAdd, Nat.reduceMul, Nat.reduceSub, Nat.reduceLT, Nat.reduceLeDiff, Nat.reduceEqDiff, reduceIte, reduceCtorEq, Int.reduceEq, Int.reduceLT, Int.reduceLE, Int.reduceBEq, Int.reduceToNat, Int.reduceAdd, Int.cast_ofNat_Int] <;> rfl), rfl⟩ ?_
    rintro m T h' ⟨n, hn, hp, ho, hnd, t1, t2, t3, t4, t9, t11, rfl⟩
    have hx' := hp.sl hx0
    simp only [go_sem, Nat.reduceAdd, Nat.reduceMul, Nat.reduceSub, Nat.reduceLT, Nat.reduceLeDiff, Nat.reduceEqDiff, reduceIte, reduceCtorEq, Int.reduceEq, Int.reduceLT, Int.reduceLE, Int.reduceBEq, Int.reduceToNat, Int.reduceAdd, Int.cast_ofNat_Int, t1, t11, hx'.rows, List.length_map]
    refine ways (fun e => ?_) (fun e => ?_)
    · have hlt := dlt e
      have hrl : (n + q) % l.length < l.length := Nat.mod_lt _ (by omega)
      obtain ⟨r, hr⟩ : ∃ r, r = (n + q) % l.length := ⟨_, rfl⟩
      rw [← hr] at hrl
      have hq1 : IntKind.wrap .i64 (q : Int) = (q : Int) := wr_fit (by unfold Fit; omega)
      have hq2 : IntKind.wrap .i64 ((n : Int) + (q : Int)) = ((n + q : Nat) : Int) := by
        have := wr_fit (n := (n : Int) + q) (by unfold Fit; omega)
        rw [← Int.natCast_add] at this ⊢
        exact this
      have hq3 : Int.tmod ((n + q : Nat) : Int) (l.length : Int) = (r : Int) := by
        rw [hr]; rfl
      have hne : ¬ (l.length : Int) = 0 := by omega
      have hee := hx'.at (i := r) (by simpa using hrl)
      have hrow : (l.map evC)[r]? = some (evC l[r]) := row_get (List.getElem?_eq_getElem hrl)
      have hkl : (r : Int) < l.length := by omega
      have hrot : rotE l q n = l[r] := by
        unfold rotE
        rw [← hr, List.getD_eq_getElem?_getD, List.getElem?_eq_getElem hrl]
        rfl
      have hstep := turnP_succ l q w n
      rw [hrot] at hstep
      have hrowN : (l.map evC)[n]? = some (evC l[n]) := row_get (List.getElem?_eq_getElem hlt)
      have hklN : (n : Int) < l.length := by omega
      have hndN : (l.take (n + 1)).map (·.id) = (l.take n).map (·.id) ++ [(l[n]).id] := by
        rw [← List.take_append_getElem hlt, List.map_append]; rfl
      obtain ⟨z, hz⟩ : ∃ z, z = l[n] := ⟨_, rfl⟩
      rw [← hz] at hrowN hndN
      obtain ⟨y, hy⟩ : ∃ y, y = l[r] := ⟨_, rfl⟩
      rw [← hy] at hrow hstep
      have hA : List.length (evC y) = 11 := rfl
      simp only [go_sem, Nat.reduceAdd, Nat.reduceMul, Nat.reduceSub, Nat.reduceLT, Nat.reduceLeDiff, Nat.reduceEqDiff, reduceIte, reduceCtorEq, Int.reduceEq, Int.reduceLT, Int.reduceLE, Int.reduceBEq, Int.reduceToNat, Int.reduceAdd, Int.cast_ofNat_Int, t1, t3, t11, hee, hrow, hkl, hx'.rows, List.length_map, hq1, hq2, hq3, hne, Int.toNat_natCast, Int.natCast_nonneg]
      obtain ⟨h2, hh2⟩ : ∃ h2, h2 = h' ++ [Ob.box 35 (evC y)] := ⟨_, rfl⟩
      have hp2 : Pre h0 h2 := by rw [hh2]; exact hp.app (noRes1 rfl)
      have ho2 : OwnS h0 h2 35 11 (T 10) ((turnP l q w n).map evC) := by rw [hh2]; exact ho.app _
      have hx2 := hp2.sl hx0
      have hbx : ∀ M, (h2 ++ M)[h'.length]? = some (.box 35 (evC y)) := fun M => by
        rw [hh2, List.append_assoc, get_new0 rfl]; rfl
      have hbx0 : h2[h'.length]? = some (.box 35 (evC y)) := by simpa using hbx []
      obtain ⟨x10, hx10⟩ : ∃ x10, x10 = T 10 := ⟨_, rfl⟩
      rw [← hx10] at ho2
      rw [← hh2]
      refine wp_loop_a (by decide) (fun m T h3 => h3 = h2 ∧ ∃ j : Nat, j ≤ n ∧ z.id ∉ (l.take j).map (·.id) ∧ T 1 = x ∧ T 2 = i64 w ∧ T 3 = .v (.int .u8 q) ∧ T 4 = .ptr h.length 0 ∧ T 9 = bl true ∧ T 10 = x10 ∧ T 11 = i64 n ∧ T 12 = .ptr h'.length 0 ∧ T 13 = i64 j ∧ m = n - j) n
        ⟨rfl, 0, by omega, by simp, by simp only [go_sem, Nat.reduceAdd, Nat.reduceMul, Nat.reduceSub, Nat.reduceLT, Nat.reduceLeDiff, Nat.reduceEqDiff, reduceIte, reduceCtorEq, Int.reduceEq, Int.reduceLT, Int.reduceLE, Int.reduceBEq, Int.reduceToNat, Int.reduceAdd, Int.cast_ofNat_Int, t1], by simp only [go_sem, Nat.reduceAdd, Nat.reduceMul, Nat.reduceSub, Nat.reduceLT, Nat.reduceLeDiff, Nat.reduceEqDiff, reduceIte, reduceCtorEq, Int.reduceEq, Int.reduceLT, Int.reduceLE, Int.reduceBEq, Int.reduceToNat, Int.reduceAdd, Int.cast_ofNat_Int, t2], by simp only [go_sem, Nat.reduceAdd, Nat.reduceMul, Nat.reduceSub, Nat.reduceLT, Nat.reduceLeDiff, Nat.reduceEqDiff, reduceIte, reduceCtorEq, Int.reduceEq, Int.reduceLT, Int.reduceLE, Int.reduceBEq, Int.reduceToNat, Int.reduceAdd, Int.cast_ofNat_Int, t3], by simp only [go_sem, Nat.reduceAdd, Nat.reduceMul, Nat.reduceSub, Nat.reduceLT, Nat.reduceLeDiff, Nat.reduceEqDiff, reduceIte, reduceCtorEq, Int.reduceEq, Int.reduceLT, Int.reduceLE, Int.reduceBEq, Int.reduceToNat, Int.reduceAdd, Int.cast_ofNat_Int, t4], by simp only [go_sem, Nat.reduceAdd, Nat.reduceMul, Nat.reduceSub, Nat.reduceLT, Nat.reduceLeDiff, Nat.reduceEqDiff, reduceIte, reduceCtorEq, Int.reduceEq, Int.reduceLT, Int.reduceLE, Int.reduceBEq, Int.reduceToNat, Int.reduceAdd, Int.cast_ofNat_Int, t9], by simp only [go_sem, Nat.reduceAdd, Nat.reduceMul, Nat.reduceSub, Nat.reduceLT, Nat.reduceLeDiff, Nat.reduceEqDiff, reduceIte, reduceCtorEq, Int.reduceEq, Int.reduceLT, Int.reduceLE, Int.reduceBEq, Int.reduceToNat, Int.reduceAdd, Int.cast_ofNat_Int, hx10], by simp only [go_sem, Nat.reduceAdd, Nat.reduceMul, Nat.reduceSub, Nat.reduceLT, Nat.reduceLeDiff, Nat.reduceEqDiff, reduceIte, reduceCtorEq, Int.reduceEq, Int.reduceLT, Int.reduceLE, Int.reduceBEq, Int.reduceToNat, Int.reduceAdd, Int.cast_ofNat_Int, t11], by simp only [go_sem, Nat.reduceAdd, Nat.reduceMul, Nat.reduceSub, Nat.reduceLT, Nat.reduceLeDiff, Nat.reduceEqDiff, reduceIte, reduceCtorEq, Int.reduceEq, Int.reduceLT, Int.reduceLE, Int.reduceBEq, Int.reduceToNat, Int.reduceAdd, Int.cast_ofNat_Int], by (simp only [go_sem, Nat.reduceAdd, Nat.reduceMul, Nat.reduceSub, Nat.reduceLT, Nat.reduceLeDiff, Nat.reduceEqDiff, reduceIte, reduceCtorEq, Int.reduceEq, Int.reduceLT, Int.reduceLE, Int.reduceBEq, Int.reduceToNat, Int.reduceAdd, Int.cast_ofNat_Int] <;> rfl), rfl⟩ ?_
      clear t1 t2 t3 t4 t9 t11 ho
      rintro m T h3 ⟨rfl, j, hj, hin, t1, t2, t3, t4, t9, t10, t11, t12, t13, rfl⟩
      simp only [go_sem, Nat.reduceAdd, Nat.reduceMul, Nat.reduceSub, Nat.reduceLT, Nat.reduceLeDiff, Nat.reduceEqDiff, reduceIte, reduceCtorEq, Int.reduceEq, Int.reduceLT, Int.reduceLE, Int.reduceBEq, Int.reduceToNat, Int.reduceAdd, Int.cast_ofNat_Int, t11, t13]
      refine ways (fun e => ?_) (fun e => ?_)
      · have hjn : j < n := dlt e
        have hjl : j < l.length := by omega
        have heej := hx2.at (i := j) (by simpa using hjl)
        have hrowj : (l.map evC)[j]? = some (evC l[j]) := row_get (List.getElem?_eq_getElem hjl)
        have hklj : (j : Int) < l.length := by omega
        have hstj : (l.take (j + 1)).map (·.id) = (l.take j).map (·.id) ++ [(l[j]).id] := by
          rw [← List.take_append_getElem hjl, List.map_append]; rfl
        obtain ⟨v, hv⟩ : ∃ v, v = l[j] := ⟨_, rfl⟩
        rw [← hv] at hrowj hstj
        simp only [go_sem, Nat.reduceAdd, Nat.reduceMul, Nat.reduceSub, Nat.reduceLT, Nat.reduceLeDiff, Nat.reduceEqDiff, reduceIte, reduceCtorEq, Int.reduceEq, Int.reduceLT, Int.reduceLE, Int.reduceBEq, Int.reduceToNat, Int.reduceAdd, Int.cast_ofNat_Int]
        refine wp_draw rfl [] 0 [(0, 0, []), (1, 0, []), (5, 0, []), (6, 0, []), (2, 0, []), (3, 0, []), (4, 0, []), (7, 0, []), (8, 0, []), (9, 0, []), (10, 0, [])] rfl (by decide) (by decide) ?_
        simp only [go_sem, Nat.reduceAdd, Nat.reduceMul, Nat.reduceSub, Nat.reduceLT, Nat.reduceLeDiff, Nat.reduceEqDiff, reduceIte, reduceCtorEq, Int.reduceEq, Int.reduceLT, Int.reduceLE, Int.reduceBEq, Int.reduceToNat, Int.reduceAdd, Int.cast_ofNat_Int, t1, t11, t13, heej, hx2.rows, hrowj, hrowN, hklj, hklN, List.length_map, Int.toNat_natCast, Int.natCast_nonneg]
        refine ways (fun e2 => ?_) (fun e2 => ?_)
        · simp only [go_sem, Nat.reduceAdd, Nat.reduceMul, Nat.reduceSub, Nat.reduceLT, Nat.reduceLeDiff, Nat.reduceEqDiff, reduceIte, reduceCtorEq, Int.reduceEq, Int.reduceLT, Int.reduceLE, Int.reduceBEq, Int.reduceToNat, Int.reduceAdd, Int.cast_ofNat_Int, t9]
          obtain ⟨L0, hL0, hN0⟩ := hp00.trans hp2
          rw [hL0]
          (first | refine endA_pure0 ?_ | refine endA_pure ?_ (by rfl)) <;> (simp only [go_sem, Nat.reduceAdd, Nat.reduceMul, Nat.reduceSub, Nat.reduceLT, Nat.reduceLeDiff, Nat.reduceEqDiff, reduceIte, reduceCtorEq, Int.reduceEq, Int.reduceLT, Int.reduceLE, Int.reduceBEq, Int.reduceToNat, Int.reduceAdd, Int.cast_ofNat_Int] <;> try rfl)
        · have e2 : ¬ v.id = z.id := by simpa using e2
          simp only [go_sem, Nat.reduceAdd, Nat.reduceMul, Nat.reduceSub, Nat.reduceLT, Nat.reduceLeDiff, Nat.reduceEqDiff, reduceIte, reduceCtorEq, Int.reduceEq, Int.reduceLT, Int.reduceLE, Int.reduceBEq, Int.reduceToNat, Int.reduceAdd, Int.cast_ofNat_Int, t13]
          exact ⟨n - (j + 1), by omega, j + 1, by omega, (fun q => by
            rw [hstj] at q
            rcases List.mem_append.1 q with q | q
            · exact hin q
            · rw [List.mem_singleton] at q; exact e2 q.symm), t1, t2, t3, t4, t9, t10, t11, t12, t_succ (by omega) rfl, rfl⟩
      · have hjn : n ≤ j := dnlt e
        have hj2 : j = n := by omega
        subst hj2
        have hnd2 : ((l.take (j + 1)).map (·.id)).Nodup := by
          rw [hndN, List.nodup_append]
          refine ⟨hnd, by simp, fun a ha b hb => ?_⟩
          rw [List.mem_singleton] at hb
          subst hb
          exact fun q => hin (q ▸ ha)
        have done0 : ownE w y = false → (turnP l q w (j + 1)) = turnP l q w j := fun q => by rw [hstep, q]; rfl
        cases f1 : y.worker == w
        · simp only [go_sem, Nat.reduceAdd, Nat.reduceMul, Nat.reduceSub, Nat.reduceLT, Nat.reduceLeDiff, Nat.reduceEqDiff, reduceIte, reduceCtorEq, Int.reduceEq, Int.reduceLT, Int.reduceLE, Int.reduceBEq, Int.reduceToNat, Int.reduceAdd, Int.cast_ofNat_Int, t12, hbx0, hbx, t2, f1, bq_t, t11]
          exact ⟨l.length - (j + 1), by omega, j + 1, by omega, hp2, by rw [done0 (by simp [ownE, f1]), t10]; exact ho2, hnd2, t1, t3, t4, t9, t_succ (by omega) rfl, rfl⟩
        · cases f2 : y.kind != 7
          · simp only [go_sem, Nat.reduceAdd, Nat.reduceMul, Nat.reduceSub, Nat.reduceLT, Nat.reduceLeDiff, Nat.reduceEqDiff, reduceIte, reduceCtorEq, Int.reduceEq, Int.reduceLT, Int.reduceLE, Int.reduceBEq, Int.reduceToNat, Int.reduceAdd, Int.cast_ofNat_Int, t12, hbx0, hbx, t2, f1, f2, bq_t, t11]
            exact ⟨l.length - (j + 1), by omega, j + 1, by omega, hp2, by rw [done0 (by simp [ownE, f1, f2]), t10]; exact ho2, hnd2, t1, t3, t4, t9, t_succ (by omega) rfl, rfl⟩
          · have hst2 : turnP l q w (j + 1) = turnP l q w j ++ [y] := by rw [hstep]; simp [ownE, f1, f2]
            rcases ho2 with ⟨hnl, hnil⟩ | ⟨id, st, u1, hnl, u3⟩
            · simp only [go_sem, Nat.reduceAdd, Nat.reduceMul, Nat.reduceSub, Nat.reduceLT, Nat.reduceLeDiff, Nat.reduceEqDiff, reduceIte, reduceCtorEq, Int.reduceEq, Int.reduceLT, Int.reduceLE, Int.reduceBEq, Int.reduceToNat, Int.reduceAdd, Int.cast_ofNat_Int, t12, hbx0, hbx, t2, f1, f2, bq_t, t11, t10, hnl]
              refine ⟨l.length - (j + 1), by omega, j + 1, by omega, hp2.app (noRes_cons rfl (noRes1 rfl)), .inr ⟨_, _, by have := hp2.len; omega, rfl, ?_⟩, hnd2, t1, t3, t4, t9, t_succ (by omega) rfl, rfl⟩
              rw [hst2, List.map_append, hnil, get_new rfl]
              rfl
            · have hcap : ((turnP l q w j).length + 1) * 89 ≤ 140737488355328 := by
                have := turnP_len l q w j
                omega
              have hg' : ∀ M, (h3 ++ M)[id]? = some (.row 35 11 ((turnP l q w j).map evC) st) := fun M => get_app_old u3
              simp only [go_sem, Nat.reduceAdd, Nat.reduceMul, Nat.reduceSub, Nat.reduceLT, Nat.reduceLeDiff, Nat.reduceEqDiff, reduceIte, reduceCtorEq, Int.reduceEq, Int.reduceLT, Int.reduceLE, Int.reduceBEq, Int.reduceToNat, Int.reduceAdd, Int.cast_ofNat_Int, t12, hbx0, hbx, t2, f1, f2, bq_t, t11, t10, hnl, hg', hcap, List.length_map]
              refine ⟨l.length - (j + 1), by omega, j + 1, by omega, (hp2.app (noRes1 rfl)).set u1 rfl, .inr ⟨id, st + 1, u1, rfl, ?_⟩, hnd2, t1, t3, t4, t9, t_succ (by omega) rfl, rfl⟩
              rw [hst2, List.map_append]
              exact get_set_same (hg' _)
    · have hge := dnlt e
      have hn2 : n = l.length := by omega
      subst hn2
      rw [List.take_length] at hnd
      have hg30 : ∀ M, (h' ++ M)[h.length]? = some (.box 30 (setupC s a)) := fun M => by
        obtain ⟨L, rfl, _⟩ := hp
        rw [List.append_assoc]; exact get_app_old h30
      have k2 := hp.sin k1
      have hsame := turn_same (s := s) (q := q) (w := w) hnd
      have htl := turnP_len l q w l.length
      obtain ⟨pl, hpl⟩ : ∃ pl, pl = turnP l q w l.length := ⟨_, rfl⟩
      rw [← hpl] at ho hsame htl
      have hg30' : h'[h.length]? = some (.box 30 (setupC s a)) := by simpa using hg30 []
      simp only [go_sem, Nat.reduceAdd, Nat.reduceMul, Nat.reduceSub, Nat.reduceLT, Nat.reduceLeDiff, Nat.reduceEqDiff, reduceIte, reduceCtorEq, Int.reduceEq, Int.reduceLT, Int.reduceLE, Int.reduceBEq, Int.reduceToNat, Int.reduceAdd, Int.cast_ofNat_Int, t1, t2, t4, hg30', k2.w.one, k2.e.one, k2.c.one, k2.g.one, k2.r.one, k2.t.one]
      refine call_by (c21 _ s a k2 f x l w hx' (by omega)) ?_
      rintro _ h4 ⟨L1, y1, z1, rfl, n1, rfl, ny1, nz1⟩
      have k3 := k2.app L1
      simp only [go_sem, Nat.reduceAdd, Nat.reduceMul, Nat.reduceSub, Nat.reduceLT, Nat.reduceLeDiff, Nat.reduceEqDiff, reduceIte, reduceCtorEq, Int.reduceEq, Int.reduceLT, Int.reduceLE, Int.reduceBEq, Int.reduceToNat, Int.reduceAdd, Int.cast_ofNat_Int, t2, t4, hg30, k3.w.one, k3.e.one, k3.c.one, k3.g.one, k3.r.one, k3.t.one]
      refine call_by (c21 _ s a k3 f (T 10) pl w (ho.app L1).rows (by omega)) ?_
      rintro _ h4 ⟨L2, y2, z2, rfl, n2, rfl, ny2, nz2⟩
      rw [hsame] at ny2 nz2
      obtain ⟨b, hb⟩ : ∃ b, b = (streamP s l w).1 := ⟨_, rfl⟩
      obtain ⟨b1, hb1⟩ : ∃ b1, b1 = (streamP s l w).2 := ⟨_, rfl⟩
      rw [← hb] at ny1 ny2
      rw [← hb1] at nz1 nz2
      have hbl : b.length < 1048576 := by rw [hb]; exact stream_len hl
      have hbl1 : b1.length < 1048576 := by rw [hb1]; exact stream_len2 hl
      have hy2 : SlOf (h' ++ (L1 ++ L2)) y2 5 (b.map segC) := by
        rw [← List.append_assoc]; exact ny2 (h' ++ L1) rfl
      have hy1 : SlOf (h' ++ (L1 ++ L2)) y1 5 (b.map segC) := by
        rw [← List.append_assoc]; exact (ny1 h' rfl).app L2
      have hz2 : SlOf (h' ++ (L1 ++ L2)) z2 2 (b1.map flgC) := by
        rw [← List.append_assoc]; exact nz2 (h' ++ L1) rfl
      have hz1 : SlOf (h' ++ (L1 ++ L2)) z1 2 (b1.map flgC) := by
        rw [← List.append_assoc]; exact (nz1 h' rfl).app L2
      simp only [go_sem, Nat.reduceAdd, Nat.reduceMul, Nat.reduceSub, Nat.reduceLT, Nat.reduceLeDiff, Nat.reduceEqDiff, reduceIte, reduceCtorEq, Int.reduceEq, Int.reduceLT, Int.reduceLE, Int.reduceBEq, Int.reduceToNat, Int.reduceAdd, Int.cast_ofNat_Int, t9]
      refine call_by (c33 _ y1 y2 b b hy1 hy2 (by omega) (by omega)) ?_
      rintro _ h4 ⟨rfl, rfl⟩
      simp only [go_sem, Nat.reduceAdd, Nat.reduceMul, Nat.reduceSub, Nat.reduceLT, Nat.reduceLeDiff, Nat.reduceEqDiff, reduceIte, reduceCtorEq, Int.reduceEq, Int.reduceLT, Int.reduceLE, Int.reduceBEq, Int.reduceToNat, Int.reduceAdd, Int.cast_ofNat_Int, decide_true, bq_t]
      refine call_by (c34 _ z1 z2 b1 b1 hz1 hz2 (by omega) (by omega)) ?_
      rintro _ h4 ⟨rfl, rfl⟩
      simp only [go_sem, Nat.reduceAdd, Nat.reduceMul, Nat.reduceSub, Nat.reduceLT, Nat.reduceLeDiff, Nat.reduceEqDiff, reduceIte, reduceCtorEq, Int.reduceEq, Int.reduceLT, Int.reduceLE, Int.reduceBEq, Int.reduceToNat, Int.reduceAdd, Int.cast_ofNat_Int, decide_true]
      obtain ⟨L0, hL0, hN0⟩ := (hp00.trans hp).app (n1.app n2)
      rw [hL0]
      (first | refine endA_pure0 ?_ | refine endA_pure ?_ (by rfl)) <;> (simp only [go_sem, Nat.reduceAdd, Nat.reduceMul, Nat.reduceSub, Nat.reduceLT, Nat.reduceLeDiff, Nat.reduceEqDiff, reduceIte, reduceCtorEq, Int.reduceEq, Int.reduceLT, Int.reduceLE, Int.reduceBEq, Int.reduceToNat, Int.reduceAdd, Int.cast_ofNat_Int] <;> try rfl)
end Go.Proofs.Ytpdghiplnlhnfaa.Ax
