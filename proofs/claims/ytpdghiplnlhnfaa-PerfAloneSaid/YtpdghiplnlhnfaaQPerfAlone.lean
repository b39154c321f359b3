/-
  PerfAlone: whatever the input, the call returns true and leaves its arguments as they were. No condition.
-/
import Derived.Test.YtpdghiplnlhnfaaNH
import Derived.Test.YtpdghiplnlhnfaaMQ
import Derived.Test.YtpdghiplnlhnfaaRows
import Derived.WalkKit
import Derived.ProofKit
import Derived.OpenShut
import Derived.ShutString
import Derived.ChangeOld
import Derived.Below
import Derived.Deep.Matrix
namespace Go.Proofs.Ytpdghiplnlhnfaa.Ax
set_option linter.unusedSimpArgs false
set_option linter.unusedVariables false
open Go Go.Proofs
set_option maxRecDepth 100000
set_option linter.unusedSimpArgs false
set_option linter.unusedVariables false
def mineE (s : Setup) (w : Int) (e : Ev) : Bool := e.worker == w && evOk s e
theorem mine_not (s : Setup) (w : Int) : (fun e => !notOwn s w e) = mineE s w := by
  funext e
  unfold notOwn mineE
  cases h : e.worker == w
  · have : (e.worker != w) = true := by simpa using h
    rw [this]; rfl
  · have : (e.worker != w) = false := by simpa using h
    rw [this]
    cases evOk s e <;> rfl
set_option maxHeartbeats 2000000 in
theorem c3 (h : List Ob) (s : Setup) (a : SA) (k : SIn h s a) (f0 : SFit0 s) (x : AV) (l : List Ev) (hx : SlOf h x 11 (l.map evC)) (w wk : Int) :
    ACalls Try.prog 3 [setupV s a, x, i64 w, i64 wk] h fun r h' => r = bl true ∧ h' = h := by
  refine acalls_wp Try.f3 [.tmp 8] 95 rfl rfl rfl rfl rfl rfl (by decide) (⟨_, _, ⟨rfl, rfl⟩, .refl⟩) fun B => ?_
  simp only [go_sem, Nat.reduceAdd, Nat.reduceMul, Nat.reduceSub, Nat.reduceLT, Nat.reduceLeDiff, Nat.reduceEqDiff, reduceIte, reduceCtorEq, Int.reduceEq, Int.reduceLT, Int.reduceLE, Int.reduceBEq, Int.reduceToNat, Int.reduceAdd, Int.cast_ofNat_Int, k.w.one, k.e.one, k.c.one, k.g.one, k.r.one, k.t.one]
  refine call_by (c12 _) ?_
  rintro _ h1 ⟨rfl, rfl⟩
  have k1 := k.app [.box 30 (setupC s a)]
  simp only [go_sem, Nat.reduceAdd, Nat.reduceMul, Nat.reduceSub, Nat.reduceLT, Nat.reduceLeDiff, Nat.reduceEqDiff, reduceIte, reduceCtorEq, Int.reduceEq, Int.reduceLT, Int.reduceLE, Int.reduceBEq, Int.reduceToNat, Int.reduceAdd, Int.cast_ofNat_Int, k1.w.one, k1.e.one, k1.c.one, k1.g.one, k1.r.one, k1.t.one]
  refine call_by (c13 _ s a k1 x l (hx.app _)) ?_
  rintro _ h1 ⟨rfl, rfl⟩
  simp only [go_sem, Nat.reduceAdd, Nat.reduceMul, Nat.reduceSub, Nat.reduceLT, Nat.reduceLeDiff, Nat.reduceEqDiff, reduceIte, reduceCtorEq, Int.reduceEq, Int.reduceLT, Int.reduceLE, Int.reduceBEq, Int.reduceToNat, Int.reduceAdd, Int.cast_ofNat_Int]
  refine ways (fun e => ?_) (fun e => ?_)
  · simp only [go_sem, Nat.reduceAdd, Nat.reduceMul, Nat.reduceSub, Nat.reduceLT, Nat.reduceLeDiff, Nat.reduceEqDiff, reduceIte, reduceCtorEq, Int.reduceEq, Int.reduceLT, Int.reduceLE, Int.reduceBEq, Int.reduceToNat, Int.reduceAdd, Int.cast_ofNat_Int]
    (first | refine endA_pure0 ?_ | refine endA_pure ?_ (by rfl)) <;> (simp only [go_sem, Nat.reduceAdd, Nat.reduceMul, Nat.reduceSub, Nat.reduceLT, Nat.reduceLeDiff, Nat.reduceEqDiff, reduceIte, reduceCtorEq, Int.reduceEq, Int.reduceLT, Int.reduceLE, Int.reduceBEq, Int.reduceToNat, Int.reduceAdd, Int.cast_ofNat_Int] <;> try rfl)
  · have e : fewL 60 s l = true := by simpa using e
    simp only [fewL, Bool.and_eq_true, decide_eq_true_eq] at e
    obtain ⟨e1, hl⟩ := e
    have f := f0.few e1
    simp only [go_sem, Nat.reduceAdd, Nat.reduceMul, Nat.reduceSub, Nat.reduceLT, Nat.reduceLeDiff, Nat.reduceEqDiff, reduceIte, reduceCtorEq, Int.reduceEq, Int.reduceLT, Int.reduceLE, Int.reduceBEq, Int.reduceToNat, Int.reduceAdd, Int.cast_ofNat_Int]
    obtain ⟨h0, hh0⟩ : ∃ h0, h0 = h ++ [Ob.box 30 (setupC s a)] := ⟨_, rfl⟩
    have h30 : h0[h.length]? = some (.box 30 (setupC s a)) := by rw [hh0]; exact get_new0 rfl
    have hx0 : SlOf h0 x 11 (l.map evC) := by rw [hh0]; exact hx.app _
    rw [← hh0] at k1 ⊢
    refine wp_loop_a (by decide) (fun m T h' => ∃ n : Nat, n ≤ l.length ∧ Pre h0 h' ∧ OwnS h0 h' 35 11 (T 10) (((l.take n).filter (mineE s w)).map evC) ∧ T 1 = x ∧ T 2 = i64 w ∧ T 3 = i64 wk ∧ T 4 = .ptr h.length 0 ∧ T 9 = bl true ∧ T 11 = i64 n ∧ m = l.length - n) l.length
      ⟨0, by omega, Pre.refl, .inl ⟨by simp only [go_sem, Nat.reduceAdd, Nat.reduceMul, Nat.reduceSub, Nat.reduceLT, Nat.reduceLeDiff, Nat.reduceEqDiff, reduceIte, reduceCtorEq, Int.reduceEq, Int.reduceLT, Int.reduceLE, Int.reduceBEq, Int.reduceToNat, Int.reduceAdd, Int.cast_ofNat_Int], rfl⟩, by simp only [go_sem, Nat.reduceAdd, Nat.reduceMul, Nat.reduceSub, Nat.reduceLT, Nat.reduceLeDiff, Nat.reduceEqDiff, reduceIte, reduceCtorEq, Int.reduceEq, Int.reduceLT, Int.reduceLE, Int.reduceBEq, Int.reduceToNat, Int.reduceAdd, Int.cast_ofNat_Int], by simp only [go_sem, Nat.reduceAdd, Nat.reduceMul, Nat.reduceSub, Nat.reduceLT, Nat.reduceLeDiff, Nat.reduceEqDiff, reduceIte, reduceCtorEq, Int.reduceEq, Int.reduceLT, Int.reduceLE, Int.reduceBEq, Int.reduceToNat, Int.reduceAdd, Int.cast_ofNat_Int], by simp only [go_sem, Nat.reduceAdd, Nat.reduceMul, Nat.reduceSub, Nat.reduceLT, Nat.reduceLeDiff, Nat.reduceEqDiff, reduceIte, reduceCtorEq, Int.reduceEq, Int.reduceLT, Int.reduceLE, Int.reduceBEq, Int.reduceToNat, Int.reduceAdd, Int.cast_ofNat_Int], by simp only [go_sem, Nat.reduceAdd, Nat.reduceMul, Nat.reduceSub, Nat.reduceLT, Nat.reduceLeDiff, Nat.reduceEqDiff, reduceIte, reduceCtorEq, Int.reduceEq, Int.reduceLT, Int.reduceLE, Int.reduceBEq, Int.reduceToNat, Int.reduceAdd, Int.cast_ofNat_Int], by simp only [go_sem, Nat.reduceAdd, Nat.reduceMul, Nat.reduceSub, Nat.reduceLT, Nat.reduceLeDiff, Nat.reduceEqDiff, reduceIte, reduceCtorEq, Int.reduceEq, Int.reduceLT, Int.reduceLE, Int.reduceBEq, Int.reduceToNat, Int.reduceAdd, Int.cast_ofNat_Int], by (simp only [go_sem, Nat.reduceAdd, Nat.reduceMul, Nat.reduceSub, Nat.reduceLT, Nat.reduceLeDiff, Nat.reduceEqDiff, reduceIte, reduceCtorEq, Int.reduceEq, Int.reduceLT, Int.reduceLE, Int.reduceBEq, Int.reduceToNat, Int.reduceAdd, Int.cast_ofNat_Int] <;> rfl), rfl⟩ ?_
    rintro m T h' ⟨n, hn, hp, ho, t1, t2, t3, t4, t9, t11, rfl⟩
    have hx' := hp.sl hx0
    have k' := hp.sin k1
    have hg30 : h'[h.length]? = some (.box 30 (setupC s a)) := by
      obtain ⟨L, rfl, _⟩ := hp
      exact get_app_old h30
    simp only [go_sem, Nat.reduceAdd, Nat.reduceMul, Nat.reduceSub, Nat.reduceLT, Nat.reduceLeDiff, Nat.reduceEqDiff, reduceIte, reduceCtorEq, Int.reduceEq, Int.reduceLT, Int.reduceLE, Int.reduceBEq, Int.reduceToNat, Int.reduceAdd, Int.cast_ofNat_Int, t1, t11, hx'.rows, List.length_map]
    refine ways (fun e => ?_) (fun e => ?_)
    · have hlt := dlt e
      have hee := hx'.at (i := n) (by simpa using hlt)
      have hrow : (l.map evC)[n]? = some (evC l[n]) := row_get (List.getElem?_eq_getElem hlt)
      have hkl : (n : Int) < l.length := by omega
      have hstep : (l.take (n + 1)).filter (mineE s w) = if mineE s w l[n] then (l.take n).filter (mineE s w) ++ [l[n]] else (l.take n).filter (mineE s w) := by
        rw [← List.take_append_getElem hlt, List.filter_append]
        cases hq : mineE s w l[n] <;> simp [hq]
      obtain ⟨y, hy⟩ : ∃ y, y = l[n] := ⟨_, rfl⟩
      rw [← hy] at hrow hstep
      have fin : n + 1 ≤ l.length := by omega
      have hA : List.length (evC y) = 11 := rfl
      have hcap : (((l.take n).filter (mineE s w)).length + 1) * 89 ≤ 140737488355328 := by
        have := List.length_filter_le (mineE s w) (l.take n)
        rw [List.length_take] at this
        omega
      simp only [go_sem, Nat.reduceAdd, Nat.reduceMul, Nat.reduceSub, Nat.reduceLT, Nat.reduceLeDiff, Nat.reduceEqDiff, reduceIte, reduceCtorEq, Int.reduceEq, Int.reduceLT, Int.reduceLE, Int.reduceBEq, Int.reduceToNat, Int.reduceAdd, Int.cast_ofNat_Int]
      refine wp_draw rfl [] 0 [(0, 0, []), (1, 0, []), (5, 0, []), (2, 0, []), (3, 0, []), (4, 0, []), (6, 0, []), (7, 0, []), (9, 0, []), (10, 0, []), (8, 0, []), (11, 0, []), (12, 0, []), (13, 0, []), (14, 0, [])] rfl (by decide) (by decide) ?_
      cases f1 : y.worker == w
      · have hm : mineE s w y = false := by simp [mineE, f1]
        rw [hm] at hstep
        simp only [Bool.false_eq_true, if_false] at hstep
        simp only [go_sem, Nat.reduceAdd, Nat.reduceMul, Nat.reduceSub, Nat.reduceLT, Nat.reduceLeDiff, Nat.reduceEqDiff, reduceIte, reduceCtorEq, Int.reduceEq, Int.reduceLT, Int.reduceLE, Int.reduceBEq, Int.reduceToNat, Int.reduceAdd, Int.cast_ofNat_Int, t1, t2, t11, hee, hx'.rows, hrow, hkl, List.length_map, Int.toNat_natCast, Int.natCast_nonneg, f1, bq_t]
        exact ⟨l.length - (n + 1), by omega, n + 1, fin, hp, by rw [hstep]; exact ho, t3, t4, t9, t_succ (by omega) rfl, rfl⟩
      · simp only [go_sem, Nat.reduceAdd, Nat.reduceMul, Nat.reduceSub, Nat.reduceLT, Nat.reduceLeDiff, Nat.reduceEqDiff, reduceIte, reduceCtorEq, Int.reduceEq, Int.reduceLT, Int.reduceLE, Int.reduceBEq, Int.reduceToNat, Int.reduceAdd, Int.cast_ofNat_Int, t1, t2, t4, t11, hg30, hee, hx'.rows, hrow, hkl, List.length_map, Int.toNat_natCast, Int.natCast_nonneg, f1, bq_t, k'.w.one, k'.e.one, k'.c.one, k'.g.one, k'.r.one, k'.t.one]
        refine call_by (c14 _ s a k' y) ?_
        rintro _ h4 ⟨rfl, e4⟩
        rw [e4]
        clear e4 h4
        cases f2 : evOk s y
        · have hm : mineE s w y = false := by simp [mineE, f2]
          rw [hm] at hstep
          simp only [Bool.false_eq_true, if_false] at hstep
          simp only [go_sem, Nat.reduceAdd, Nat.reduceMul, Nat.reduceSub, Nat.reduceLT, Nat.reduceLeDiff, Nat.reduceEqDiff, reduceIte, reduceCtorEq, Int.reduceEq, Int.reduceLT, Int.reduceLE, Int.reduceBEq, Int.reduceToNat, Int.reduceAdd, Int.cast_ofNat_Int, t1, t2, t4, t11, hg30, hee, hx'.rows, hrow, hkl, List.length_map, Int.toNat_natCast, Int.natCast_nonneg, f1, f2, bq_t]
          exact ⟨l.length - (n + 1), by omega, n + 1, fin, hp, by rw [hstep]; exact ho, t3, t9, t_succ (by omega) rfl, rfl⟩
        · have hm : mineE s w y = true := by
            unfold mineE; rw [f1, f2]; rfl
          rw [hm] at hstep
          simp only [if_true] at hstep
          rcases ho with ⟨t10, hnil⟩ | ⟨id, st, u1, t10, u3⟩
          · simp only [go_sem, Nat.reduceAdd, Nat.reduceMul, Nat.reduceSub, Nat.reduceLT, Nat.reduceLeDiff, Nat.reduceEqDiff, reduceIte, reduceCtorEq, Int.reduceEq, Int.reduceLT, Int.reduceLE, Int.reduceBEq, Int.reduceToNat, Int.reduceAdd, Int.cast_ofNat_Int, t1, t2, t4, t10, t11, hg30, hee, hx'.rows, hrow, hkl, List.length_map, Int.toNat_natCast, Int.natCast_nonneg, f1, f2, bq_t]
            refine ⟨l.length - (n + 1), by omega, n + 1, fin, hp.app (noRes_cons rfl (noRes1 rfl)), .inr ⟨_, _, by have := hp.len; omega, rfl, ?_⟩, t3, t9, t_succ (by omega) rfl, rfl⟩
            rw [hstep, List.map_append, hnil, get_new rfl]
            rfl
          · have hg : ∀ M, (h' ++ M)[id]? = some (.row 35 11 (((l.take n).filter (mineE s w)).map evC) st) := fun M => get_app_old u3
            simp only [go_sem, Nat.reduceAdd, Nat.reduceMul, Nat.reduceSub, Nat.reduceLT, Nat.reduceLeDiff, Nat.reduceEqDiff, reduceIte, reduceCtorEq, Int.reduceEq, Int.reduceLT, Int.reduceLE, Int.reduceBEq, Int.reduceToNat, Int.reduceAdd, Int.cast_ofNat_Int, t1, t2, t4, t10, t11, hg, hcap, hg30, hee, hx'.rows, hrow, hkl, List.length_map, Int.toNat_natCast, Int.natCast_nonneg, f1, f2, bq_t]
            refine ⟨l.length - (n + 1), by omega, n + 1, fin, (hp.app (noRes1 rfl)).set u1 rfl, .inr ⟨id, st + 1, u1, rfl, ?_⟩, t3, t9, t_succ (by omega) rfl, rfl⟩
            rw [hstep, List.map_append]
            exact get_set_same (hg _)
    · have hge := dnlt e
      have hn2 : n = l.length := by omega
      subst hn2
      rw [List.take_length] at ho
      obtain ⟨pl, hpl⟩ : ∃ pl, pl = l.filter (mineE s w) := ⟨_, rfl⟩
      rw [← hpl] at ho
      have hpll : pl.length ≤ 60 := by rw [hpl]; exact Nat.le_trans (List.length_filter_le _ _) hl
      have hsame : perfP s pl w wk = perfP s l w wk := by
        have := perf_own (s := s) (l := l) (w := w) (k := wk)
        rw [mine_not] at this
        rw [hpl]; exact this
      simp only [go_sem, Nat.reduceAdd, Nat.reduceMul, Nat.reduceSub, Nat.reduceLT, Nat.reduceLeDiff, Nat.reduceEqDiff, reduceIte, reduceCtorEq, Int.reduceEq, Int.reduceLT, Int.reduceLE, Int.reduceBEq, Int.reduceToNat, Int.reduceAdd, Int.cast_ofNat_Int, t1, t2, t3, t4, hg30, k'.w.one, k'.e.one, k'.c.one, k'.g.one, k'.r.one, k'.t.one]
      refine call_by (c15 _ s a k' f x l w wk hx' (by omega)) ?_
      rintro _ h4 ⟨rfl, e4⟩
      rw [e4]
      clear e4 h4
      have kM : ∀ M, SIn (h' ++ M) s a := fun M => k'.app M
      have gM : ∀ M, (h' ++ M)[h.length]? = some (.box 30 (setupC s a)) := fun M => get_app_old hg30
      simp only [go_sem, Nat.reduceAdd, Nat.reduceMul, Nat.reduceSub, Nat.reduceLT, Nat.reduceLeDiff, Nat.reduceEqDiff, reduceIte, reduceCtorEq, Int.reduceEq, Int.reduceLT, Int.reduceLE, Int.reduceBEq, Int.reduceToNat, Int.reduceAdd, Int.cast_ofNat_Int, t2, t3, t4, gM, (kM _).w.one, (kM _).e.one, (kM _).c.one, (kM _).g.one, (kM _).r.one, (kM _).t.one]
      refine call_by (c15 _ s a (kM _) f (T 10) pl w wk (ho.app _).rows (by omega)) ?_
      rintro _ h4 ⟨rfl, e4⟩
      rw [e4, hsame]
      clear e4 h4
      obtain ⟨pv, hpv⟩ : ∃ pv, pv = perfP s l w wk := ⟨_, rfl⟩
      rw [← hpv]
      simp only [go_sem, Nat.reduceAdd, Nat.reduceMul, Nat.reduceSub, Nat.reduceLT, Nat.reduceLeDiff, Nat.reduceEqDiff, reduceIte, reduceCtorEq, Int.reduceEq, Int.reduceLT, Int.reduceLE, Int.reduceBEq, Int.reduceToNat, Int.reduceAdd, Int.cast_ofNat_Int, t9, beq_self_eq_true, bq_t, Bool.and_self, Bool.and_true]
      have hph : Pre h h0 := ⟨_, hh0, noRes1 rfl⟩
      obtain ⟨L, hL, _⟩ := hph.trans hp
      rw [hL]
      simp only [List.append_assoc]
      (first | refine endA_pure0 ?_ | refine endA_pure ?_ (by rfl)) <;> (simp only [go_sem, Nat.reduceAdd, Nat.reduceMul, Nat.reduceSub, Nat.reduceLT, Nat.reduceLeDiff, Nat.reduceEqDiff, reduceIte, reduceCtorEq, Int.reduceEq, Int.reduceLT, Int.reduceLE, Int.reduceBEq, Int.reduceToNat, Int.reduceAdd, Int.cast_ofNat_Int] <;> try rfl)
end Go.Proofs.Ytpdghiplnlhnfaa.Ax

namespace Go.Proofs.Ytpdghiplnlhnfaa.perfAlone
set_option linter.unusedSimpArgs false
set_option linter.unusedVariables false
open Go.ChangeShapes Go.WideShapes Go.ChangeAt Go.RowKit
open Go.ChangeMaps (open_string shut_string)
set_option linter.unusedVariables false

theorem own : ownKnob Try.prog.godebug = none := by kernel_rfl
theorem laidOut : laidOutB Try.prog = true := by kernel_rfl

/-- A slice of integers that came in. -/
def IsRow (k : IntKind) (w : World) (a : Option Addr) (len cap : Nat) (zs : List Int) : Prop :=
  (a = none ∧ len = 0 ∧ cap = 0 ∧ zs = []) ∨
  ∃ x, a = some x ∧ len ≤ cap ∧ cap ≤ maxLen ∧ zs.length = cap ∧ (∀ i, i < zs.length → w.cell? (x.add i) = some (.int k (zs.getD i 0))) ∧ ∀ n ∈ zs, (Lit.int k n).wf = true

/-! ### The walk. -/
theorem walk (x0 : Value) (x1 : Value) (a2 : Int) (a3 : Int) (w : World) (w0 : Ax.InSet w x0) (w1 : Ax.InEvs w x1) (w2 : (Lit.int .i64 a2).wf = true) (w3 : (Lit.int .i64 a3).wf = true) :
    Calls Try.prog 3 #[x0, x1, .int .i64 a2, .int .i64 a3] w fun e w' => e = .returned (.bool true) ∧ Below w.heap.size w w' := by
  obtain ⟨s, a, ha, ks, fs⟩ := w0
  obtain ⟨x, l, hx, sl⟩ := w1
  exact Ax.run_law (Ax.c3 [] s a ks fs x l sl a2 a3) ⟨_, _, rfl, ha, _, _, rfl, hx, _, _, rfl, rfl, _, _, rfl, rfl, rfl⟩

/-! ### The row's step. -/
set_option maxRecDepth 100000 in
theorem lifted (os : Os) (started : os.Started) (H : Type) (enc : TypeId × Value → H) :
    ReturnsInHanded {} Try.checked os 3 .any (Rows.perfAloneSpec.pre6 enc Try.prog Try.f3 Rows.perfAloneRow.domain false) (Rows.perfAloneSpec.post enc Try.prog Try.f3 false true false false) := by
  refine returnsInHanded_of_change (C := Try.checked) own started (by kernel_rfl) Try.func3
    (ChangeSpec.witness6 (enc := enc) (C := Try.checked) false ⟨#[], #[.agg #[.int .i64 0, .slice none 0 0, .int .i64 0, .int .i64 0, .slice none 0 0, .slice none 0 0, .slice none 0 0, .int .i64 0, .int .i64 0, .int .i64 0, .int .i64 0, .int .i64 0, .int .i64 0, .int .i64 0, .int .i64 0, .int .i64 0, .int .i64 0, .int .i64 0, .slice none 0 0, .int .i64 0, .int .i64 0, .int .i64 0, .slice none 0 0], .slice none 0 0, .int .i64 0, .int .i64 0], []⟩ 8 (by kernel_rfl) (by kernel_rfl) (by kernel_rfl) (by kernel_rfl)) ?_
  intro W base args ds gs before hval0 hW hcnd _
  have hval : ∀ (j : Nat) t v, Try.f3.params[j]? = some t → args[j]? = some v → Value.okWide Try.prog W .any base t v := hval0
  have hW' := hW
  obtain ⟨p, q, hA0, hV, rfl, hfz, hnd⟩ := hW
  have hA : DataW.TrodAll enc Try.prog W 0 (fun _ => true) true Try.f3.params.toList args.toList ds p := hA0
  rw [Try.params3] at hA hval
  obtain ⟨v0, vs0, d0, ds0, p0, q0, hargs, rfl, rfl, h0, r0⟩ := trodAll_cons hA
  obtain ⟨v1, vs1, d1, ds1, p1, q1, rfl, rfl, rfl, h1, r1⟩ := trodAll_cons r0
  obtain ⟨v2, vs2, d2, ds2, p2, q2, rfl, rfl, rfl, h2, r2⟩ := trodAll_cons r1
  obtain ⟨v3, vs3, d3, ds3, p3, q3, rfl, rfl, rfl, h3, r3⟩ := trodAll_cons r2
  obtain ⟨rfl, rfl, rfl⟩ := trodAll_nil r3
  obtain rfl : args = #[v0, v1, v2, v3] := by cases args; simp_all
  obtain ⟨rfl, rfl⟩ := trodVars_none hV
  have k0 := h0
  have lt0 : ∀ x ∈ p0, x.block < W.heap.size := by obtain ⟨m, hm⟩ := k0; exact DataW.trod_lt m _ _ _ hm
  have w0 := Ax.setup_in (hval 0 30 v0 rfl rfl) h0
  have k1 := h1
  have lt1 : ∀ x ∈ p1, x.block < W.heap.size := by obtain ⟨m, hm⟩ := k1; exact DataW.trod_lt m _ _ _ hm
  obtain ⟨sa1, sl1, sc1, rfl⟩ := okWide_slice Try.underlying31 (hval 1 31 v1 rfl rfl)
  have w1 := (by obtain ⟨fuel, hf⟩ := h1; exact Ax.evs_in (v := .slice sa1 sl1 sc1) (by simpa [Value.cells] using hf) : Ax.InEvs W (.slice sa1 sl1 sc1))
  obtain ⟨a2, rfl, rfl, rfl, w2⟩ := open_int Try.underlying3 (hval 2 3 v2 rfl rfl) h2
  obtain ⟨a3, rfl, rfl, rfl, w3⟩ := open_int Try.underlying3 (hval 3 3 v3 rfl rfl) h3
  clear hA0 hval0
  refine (walk v0 (.slice sa1 sl1 sc1) a2 a3 W w0 w1 w2 w3).mono fun e W' ⟨he, bel⟩ => ?_
  subst he
  exact ⟨_, rfl, _, _, _, [], _, [], hW', trodAll_mk1 (shut_bool Try.underlying4 _), (trodAll_cons_mk (Below.trod laidOut (by kernel_rfl) (of_decide_eq_true (by kernel_rfl)) k0 bel lt0) (trodAll_cons_mk (Below.trod laidOut (by kernel_rfl) (of_decide_eq_true (by kernel_rfl)) k1 bel lt1) (trodAll_cons_mk (shut_int Try.underlying3 w2) (trodAll_cons_mk (shut_int Try.underlying3 w3) trodAll_mk0)))), rfl, bel.frame _, fun h => by cases h⟩

theorem over : Rows.perfAloneRow.holds Try.pinned (OpenSpec.ofChange Rows.perfAloneSpec) :=
  OpenClaim.holds_of_wide 3 Try.f3 rfl rfl rfl rfl rfl rfl rfl ⟨rfl, rfl, rfl, rfl, rfl⟩ rfl rfl rfl rfl rfl (by kernel_rfl) Try.func3 (by kernel_rfl)
    (of_decide_eq_true (by kernel_rfl)) (by unfold Func.isWrapper; first | (rw [if_pos (by decide +kernel)]; kernel_rfl) | (rw [if_neg (by decide +kernel)]; exact ⟨rfl, rfl⟩))
    (fun os started H enc _ => lifted os started H enc)

/-- The statement. -/
theorem proved : Rows.PerfAloneSaid := over
#print axioms proved
end Go.Proofs.Ytpdghiplnlhnfaa.perfAlone
