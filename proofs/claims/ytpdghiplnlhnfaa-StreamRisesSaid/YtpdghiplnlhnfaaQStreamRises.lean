/-
  StreamRises: whatever the input, the call returns true and leaves its arguments as they were. No condition.
-/
import Derived.Test.YtpdghiplnlhnfaaMY
import Derived.Test.YtpdghiplnlhnfaaRows
import Derived.WalkKit
import Derived.ProofKit
import Derived.OpenShut
import Derived.ShutString
import Derived.ChangeOld
import Derived.Below
import Derived.Deep.Matrix
namespace Go.Proofs.Ytpdghiplnlhnfaa.Ax
set_option linter.unusedSimpArgs false
set_option linter.unusedVariables false
open Go Go.Proofs
set_option maxRecDepth 100000
set_option linter.unusedSimpArgs false
set_option linter.unusedVariables false
theorem guardK_un {want : Bool} {p q : Prop} : @guardK (.v undef) want ⟨p⟩ ⟨q⟩ = q := id rfl
theorem valK_un {want : Bool} {x : Option AV} : valK (.v undef) want x = some (.v undef) := id rfl
attribute [go_sem] guardK_un valK_un
def codeB (e : Ev) (g : Seg) : Bool := e.kind == 4 || g.code == 0
def gapB (e : Ev) (g : Seg) : Bool := (e.kind == 1 || e.kind == 6) && g.kind == 0
def workB (e : Ev) (g : Seg) : Bool := (e.kind == 3 && g.kind == 1) || ((e.kind == 4 && g.kind == 2 && g.code == e.code) || (e.kind == 5 && g.kind == 3))
def isP (g : Seg) (w : Int) (e : Ev) : Bool := e.id == g.id && e.worker == w && codeB e g && (gapB e g || workB e g)
theorem is_of {s : Setup} {w : Int} {e : Ev} {g : Seg} (h : selP s w e = true) (h2 : e.kind ≠ 2) (hg : SegOf e g) : isP g w e = true := by
  obtain ⟨h3, h4, h5⟩ := selP_iff.1 h
  obtain ⟨f1, _, _, _, f2⟩ := fair_fields (evOk_fair h5)
  obtain ⟨g1, g2, g3⟩ := hg
  unfold isP codeB gapB workB
  rw [g1, g2, g3, h3]
  have hk : e.kind = 1 ∨ e.kind = 3 ∨ e.kind = 4 ∨ e.kind = 5 ∨ e.kind = 6 := by omega
  rcases hk with q | q | q | q | q
  · simp [q, kindI, f2 (by omega)]
  · simp [q, kindI, f2 (by omega)]
  · simp [q, kindI]
  · simp [q, kindI, f2 (by omega)]
  · simp [q, kindI, f2 (by omega)]
theorem rise_all {s : Setup} {l : List Ev} {w : Int} : RiseTo (streamP s l w).1 32054400 ∧ ∀ g ∈ (streamP s l w).1, l.any (isP g w) = true ∧ (g.kind = 0 ∨ g.kind = 1 ∨ g.kind = 2 ∨ g.kind = 3) := by
  cases hs : setupOk s
  · simp only [streamP, hs]
    exact ⟨⟨fun _ h => (by cases h), .nil⟩, fun _ h => (by cases h)⟩
  · obtain ⟨h1, h2⟩ := stream_rise (l := l) (w := w) hs
    refine ⟨h1, fun g hg => ?_⟩
    obtain ⟨e, ⟨q1, q2, q3⟩, q4⟩ := h2 g hg
    refine ⟨List.any_eq_true.2 ⟨e, q1, is_of q2 q3 q4⟩, ?_⟩
    rw [q4.2.1]
    unfold kindI
    split
    · omega
    · split
      · omega
      · split <;> omega
theorem size_rise {l : List Seg} (h : RiseTo l 32054400) : sizeS (normS (normS (l.map spS))) = sizeS (l.map spS) := by
  rw [norm_size normS_in, norm_size]
  · intro s hs
    obtain ⟨g, hg, rfl⟩ := List.mem_map.1 hs
    exact h.each g hg
  · rw [List.pairwise_map]
    exact h.gap
  · exact ((normS_plain (l.map spS)).gap).imp fun h => by omega
theorem RiseTo.filter {l : List Seg} {hi : Int} (h : RiseTo l hi) (p : Seg → Bool) : RiseTo (l.filter p) hi := ⟨fun g hg => h.each g (List.mem_filter.1 hg).1, h.gap.filter p⟩
theorem size_kinds : ∀ {l : List Seg}, (∀ g ∈ l, g.kind = 0 ∨ g.kind = 1 ∨ g.kind = 2 ∨ g.kind = 3) → sizeS (l.map spS) = sizeS ((l.filter fun g => g.kind == 0).map spS) + sizeS ((l.filter fun g => g.kind == 1).map spS) + sizeS ((l.filter fun g => g.kind == 2).map spS) + sizeS ((l.filter fun g => g.kind == 3).map spS)
  | [], _ => by simp [sizeS]
  | g :: l, h => by
    have ih := size_kinds (l := l) fun x hx => h x (.tail _ hx)
    have key : ∀ (k : Int), sizeS (((g :: l).filter fun g => g.kind == k).map spS) = (if g.kind = k then g.to_ - g.from_ else 0) + sizeS ((l.filter fun g => g.kind == k).map spS) := fun k => by
      rw [List.filter_cons]
      by_cases q : g.kind = k
      · simp [q, sizeS, spS]
      · simp [q]
    rw [key, key, key, key, show sizeS ((g :: l).map spS) = (g.to_ - g.from_) + sizeS (l.map spS) by simp [sizeS, spS], ih]
    rcases h g (.head _) with q | q | q | q <;> simp [q] <;> omega
set_option maxHeartbeats 2000000 in
theorem c7 (h : List Ob) (s : Setup) (a : SA) (k : SIn h s a) (f0 : SFit0 s) (x : AV) (l : List Ev) (hx : SlOf h x 11 (l.map evC)) (w : Int) :
    ACalls Try.prog 7 [setupV s a, x, i64 w] h fun r h' => r = bl true ∧ h' = h := by
  refine acalls_wp Try.f7 [.tmp 6] 217 rfl rfl rfl rfl rfl rfl (by decide) (⟨_, _, ⟨rfl, rfl⟩, .refl⟩) fun B => ?_
  simp only [go_sem, Nat.reduceAdd, Nat.reduceMul, Nat.reduceSub, Nat.reduceLT, Nat.reduceLeDiff, Nat.reduceEqDiff, reduceIte, reduceCtorEq, Int.reduceEq, Int.reduceLT, Int.reduceLE, Int.reduceBEq, Int.reduceToNat, Int.reduceAdd, Int.cast_ofNat_Int, k.w.one, k.e.one, k.c.one, k.g.one, k.r.one, k.t.one]
  refine call_by (c28 _) ?_
  rintro _ h1 ⟨rfl, rfl⟩
  have k1 := k.app [.box 30 (setupC s a)]
  simp only [go_sem, Nat.reduceAdd, Nat.reduceMul, Nat.reduceSub, Nat.reduceLT, Nat.reduceLeDiff, Nat.reduceEqDiff, reduceIte, reduceCtorEq, Int.reduceEq, Int.reduceLT, Int.reduceLE, Int.reduceBEq, Int.reduceToNat, Int.reduceAdd, Int.cast_ofNat_Int, k1.w.one, k1.e.one, k1.c.one, k1.g.one, k1.r.one, k1.t.one]
  refine call_by (c29 _ s a k1 x l (hx.app _)) ?_
  rintro _ h1 ⟨rfl, rfl⟩
  simp only [go_sem, Nat.reduceAdd, Nat.reduceMul, Nat.reduceSub, Nat.reduceLT, Nat.reduceLeDiff, Nat.reduceEqDiff, reduceIte, reduceCtorEq, Int.reduceEq, Int.reduceLT, Int.reduceLE, Int.reduceBEq, Int.reduceToNat, Int.reduceAdd, Int.cast_ofNat_Int]
  refine ways (fun e => ?_) (fun e => ?_)
  · simp only [go_sem, Nat.reduceAdd, Nat.reduceMul, Nat.reduceSub, Nat.reduceLT, Nat.reduceLeDiff, Nat.reduceEqDiff, reduceIte, reduceCtorEq, Int.reduceEq, Int.reduceLT, Int.reduceLE, Int.reduceBEq, Int.reduceToNat, Int.reduceAdd, Int.cast_ofNat_Int]
    (first | refine endA_pure0 ?_ | refine endA_pure ?_ (by rfl)) <;> (simp only [go_sem, Nat.reduceAdd, Nat.reduceMul, Nat.reduceSub, Nat.reduceLT, Nat.reduceLeDiff, Nat.reduceEqDiff, reduceIte, reduceCtorEq, Int.reduceEq, Int.reduceLT, Int.reduceLE, Int.reduceBEq, Int.reduceToNat, Int.reduceAdd, Int.cast_ofNat_Int] <;> try rfl)
  · have e : fewL 100 s l = true := by simpa using e
    simp only [fewL, Bool.and_eq_true, decide_eq_true_eq] at e
    obtain ⟨e1, hl⟩ := e
    have f := f0.few e1
    simp only [go_sem, Nat.reduceAdd, Nat.reduceMul, Nat.reduceSub, Nat.reduceLT, Nat.reduceLeDiff, Nat.reduceEqDiff, reduceIte, reduceCtorEq, Int.reduceEq, Int.reduceLT, Int.reduceLE, Int.reduceBEq, Int.reduceToNat, Int.reduceAdd, Int.cast_ofNat_Int, k1.w.one, k1.e.one, k1.c.one, k1.g.one, k1.r.one, k1.t.one]
    refine call_by (c21 _ s a k1 f x l w (hx.app _) (by omega)) ?_
    rintro _ h4 ⟨L1, y1, z1, rfl, n1, rfl, ny1, nz1⟩
    obtain ⟨b, hb⟩ : ∃ b, b = (streamP s l w).1 := ⟨_, rfl⟩
    rw [← hb] at ny1
    have hbl : b.length < 1048576 := by rw [hb]; exact stream_len hl
    obtain ⟨hr1, hr2⟩ := rise_all (s := s) (l := l) (w := w)
    rw [← hb] at hr1 hr2
    obtain ⟨h0, hh0⟩ : ∃ h0, h0 = h ++ [Ob.box 30 (setupC s a)] ++ L1 := ⟨_, rfl⟩
    have hx0 : SlOf h0 x 11 (l.map evC) := by rw [hh0]; exact (hx.app _).app _
    have hy0 : SlOf h0 y1 5 (b.map segC) := by rw [hh0]; exact ny1 _ rfl
    have hp00 : Pre h h0 := ⟨.box 30 (setupC s a) :: L1, by rw [hh0]; simp, noRes_cons rfl n1⟩
    simp only [go_sem, Nat.reduceAdd, Nat.reduceMul, Nat.reduceSub, Nat.reduceLT, Nat.reduceLeDiff, Nat.reduceEqDiff, reduceIte, reduceCtorEq, Int.reduceEq, Int.reduceLT, Int.reduceLE, Int.reduceBEq, Int.reduceToNat, Int.reduceAdd, Int.cast_ofNat_Int]
    have hh1 : h ++ .box 30 (setupC s a) :: L1 = h0 := by rw [hh0]; simp
    rw [hh1]
    refine wp_loop_a (by decide) (fun m T h' => ∃ i : Nat, i ≤ b.length ∧ Pre h0 h' ∧ T 1 = x ∧ T 2 = i64 w ∧ T 7 = bl true ∧ T 8 = y1 ∧ T 10 = i64 i ∧ m = b.length - i) b.length
      ⟨0, by omega, Pre.refl, by simp only [go_sem, Nat.reduceAdd, Nat.reduceMul, Nat.reduceSub, Nat.reduceLT, Nat.reduceLeDiff, Nat.reduceEqDiff, reduceIte, reduceCtorEq, Int.reduceEq, Int.reduceLT, Int.reduceLE, Int.reduceBEq, Int.reduceToNat, Int.reduceAdd, Int.cast_ofNat_Int], by simp only [go_sem, Nat.reduceAdd, Nat.reduceMul, Nat.reduceSub, Nat.reduceLT, Nat.reduceLeDiff, Nat.reduceEqDiff, reduceIte, reduceCtorEq, Int.reduceEq, Int.reduceLT, Int.reduceLE, Int.reduceBEq, Int.reduceToNat, Int.reduceAdd, Int.cast_ofNat_Int], by simp only [go_sem, Nat.reduceAdd, Nat.reduceMul, Nat.reduceSub, Nat.reduceLT, Nat.reduceLeDiff, Nat.reduceEqDiff, reduceIte, reduceCtorEq, Int.reduceEq, Int.reduceLT, Int.reduceLE, Int.reduceBEq, Int.reduceToNat, Int.reduceAdd, Int.cast_ofNat_Int], by simp only [go_sem, Nat.reduceAdd, Nat.reduceMul, Nat.reduceSub, Nat.reduceLT, Nat.reduceLeDiff, Nat.reduceEqDiff, reduceIte, reduceCtorEq, Int.reduceEq, Int.reduceLT, Int.reduceLE, Int.reduceBEq, Int.reduceToNat, Int.reduceAdd, Int.cast_ofNat_Int], by (simp only [go_sem, Nat.reduceAdd, Nat.reduceMul, Nat.reduceSub, Nat.reduceLT, Nat.reduceLeDiff, Nat.reduceEqDiff, reduceIte, reduceCtorEq, Int.reduceEq, Int.reduceLT, Int.reduceLE, Int.reduceBEq, Int.reduceToNat, Int.reduceAdd, Int.cast_ofNat_Int] <;> rfl), rfl⟩ ?_
    rintro m T h' ⟨i, hi, hp, t1, t2, t7, t8, t10, rfl⟩
    have hy' := hp.sl hy0
    simp only [go_sem, Nat.reduceAdd, Nat.reduceMul, Nat.reduceSub, Nat.reduceLT, Nat.reduceLeDiff, Nat.reduceEqDiff, reduceIte, reduceCtorEq, Int.reduceEq, Int.reduceLT, Int.reduceLE, Int.reduceBEq, Int.reduceToNat, Int.reduceAdd, Int.cast_ofNat_Int, t8, t10, hy'.rows, List.length_map]
    refine ways (fun e => ?_) (fun e => ?_)
    · have hlt := dlt e
      have hrowG : (b.map segC)[i]? = some (segC b[i]) := by rw [List.getElem?_map, List.getElem?_eq_getElem hlt]; rfl
      have hklG : (i : Int) < b.length := by omega
      have hgm := hr2 b[i] (List.getElem_mem hlt)
      have hge := hr1.each b[i] (List.getElem_mem hlt)
      have hprev : ∀ (q : 0 < i), (b[i - 1]'(by omega)).to_ ≤ b[i].from_ := fun q => List.pairwise_iff_getElem.1 hr1.gap (i - 1) i (by omega) hlt (by omega)
      obtain ⟨g, hg⟩ : ∃ g, g = b[i] := ⟨_, rfl⟩
      rw [← hg] at hrowG hgm hge hprev
      simp only [go_sem, Nat.reduceAdd, Nat.reduceMul, Nat.reduceSub, Nat.reduceLT, Nat.reduceLeDiff, Nat.reduceEqDiff, reduceIte, reduceCtorEq, Int.reduceEq, Int.reduceLT, Int.reduceLE, Int.reduceBEq, Int.reduceToNat, Int.reduceAdd, Int.cast_ofNat_Int]
      refine wp_loop_a (by decide) (fun m T h' => ∃ j : Nat, j ≤ l.length ∧ Pre h0 h' ∧ T 1 = x ∧ T 2 = i64 w ∧ T 7 = bl true ∧ T 8 = y1 ∧ T 10 = i64 i ∧ T 11 = bl ((l.take j).any (isP g w)) ∧ T 12 = i64 j ∧ m = l.length - j) l.length
        ⟨0, by omega, hp, by simp only [go_sem, Nat.reduceAdd, Nat.reduceMul, Nat.reduceSub, Nat.reduceLT, Nat.reduceLeDiff, Nat.reduceEqDiff, reduceIte, reduceCtorEq, Int.reduceEq, Int.reduceLT, Int.reduceLE, Int.reduceBEq, Int.reduceToNat, Int.reduceAdd, Int.cast_ofNat_Int, t1], by simp only [go_sem, Nat.reduceAdd, Nat.reduceMul, Nat.reduceSub, Nat.reduceLT, Nat.reduceLeDiff, Nat.reduceEqDiff, reduceIte, reduceCtorEq, Int.reduceEq, Int.reduceLT, Int.reduceLE, Int.reduceBEq, Int.reduceToNat, Int.reduceAdd, Int.cast_ofNat_Int, t2], by simp only [go_sem, Nat.reduceAdd, Nat.reduceMul, Nat.reduceSub, Nat.reduceLT, Nat.reduceLeDiff, Nat.reduceEqDiff, reduceIte, reduceCtorEq, Int.reduceEq, Int.reduceLT, Int.reduceLE, Int.reduceBEq, Int.reduceToNat, Int.reduceAdd, Int.cast_ofNat_Int, t7], by simp only [go_sem, Nat.reduceAdd, Nat.reduceMul, Nat.reduceSub, Nat.reduceLT, Nat.reduceLeDiff, Nat.reduceEqDiff, reduceIte, reduceCtorEq, Int.reduceEq, Int.reduceLT, Int.reduceLE, Int.reduceBEq, Int.reduceToNat, Int.reduceAdd, Int.cast_ofNat_Int, t8], by simp only [go_sem, Nat.reduceAdd, Nat.reduceMul, Nat.reduceSub, Nat.reduceLT, Nat.reduceLeDiff, Nat.reduceEqDiff, reduceIte, reduceCtorEq, Int.reduceEq, Int.reduceLT, Int.reduceLE, Int.reduceBEq, Int.reduceToNat, Int.reduceAdd, Int.cast_ofNat_Int, t10], by (simp only [go_sem, Nat.reduceAdd, Nat.reduceMul, Nat.reduceSub, Nat.reduceLT, Nat.reduceLeDiff, Nat.reduceEqDiff, reduceIte, reduceCtorEq, Int.reduceEq, Int.reduceLT, Int.reduceLE, Int.reduceBEq, Int.reduceToNat, Int.reduceAdd, Int.cast_ofNat_Int] <;> rfl), by (simp only [go_sem, Nat.reduceAdd, Nat.reduceMul, Nat.reduceSub, Nat.reduceLT, Nat.reduceLeDiff, Nat.reduceEqDiff, reduceIte, reduceCtorEq, Int.reduceEq, Int.reduceLT, Int.reduceLE, Int.reduceBEq, Int.reduceToNat, Int.reduceAdd, Int.cast_ofNat_Int] <;> rfl), rfl⟩ ?_
      clear t1 t2 t7 t8 t10 hp hy'
      rintro m T h' ⟨j, hj, hp, t1, t2, t7, t8, t10, t11, t12, rfl⟩
      have hx' := hp.sl hx0
      have hy' := hp.sl hy0
      simp only [go_sem, Nat.reduceAdd, Nat.reduceMul, Nat.reduceSub, Nat.reduceLT, Nat.reduceLeDiff, Nat.reduceEqDiff, reduceIte, reduceCtorEq, Int.reduceEq, Int.reduceLT, Int.reduceLE, Int.reduceBEq, Int.reduceToNat, Int.reduceAdd, Int.cast_ofNat_Int, t1, t12, hx'.rows, List.length_map]
      refine ways (fun e => ?_) (fun e => ?_)
      · have hjl : j < l.length := dlt e
        have heeM := hx'.at (i := j) (by simpa using hjl)
        have heeG0 := hy'.at (i := i) (by simpa using hlt)
        have hrowM : (l.map evC)[j]? = some (evC l[j]) := row_get (List.getElem?_eq_getElem hjl)
        have hklM : (j : Int) < l.length := by omega
        have hany : (l.take (j + 1)).any (isP g w) = ((l.take j).any (isP g w) || isP g w l[j]) := by
          rw [← List.take_append_getElem hjl, List.any_append]; simp
        obtain ⟨ev, hev⟩ : ∃ ev, ev = l[j] := ⟨_, rfl⟩
        rw [← hev] at hrowM hany
        obtain ⟨bb, hbb⟩ : ∃ bb, bb = (l.take j).any (isP g w) := ⟨_, rfl⟩
        rw [← hbb] at t11 hany
        have hA : List.length (evC ev) = 11 := rfl
        obtain ⟨hB, hhB⟩ : ∃ hB, hB = h' ++ [Ob.box 35 (evC ev)] := ⟨_, rfl⟩
        have hpB : Pre h0 hB := by rw [hhB]; exact hp.app (noRes1 rfl)
        have hyB := hpB.sl hy0
        have heeG := hyB.at (i := i) (by simpa using hlt)
        have hb35 : ∀ M, (hB ++ M)[h'.length]? = some (.box 35 (evC ev)) := fun M => by rw [hhB, List.append_assoc, get_new0 rfl]; rfl
        have hb350 : hB[h'.length]? = some (.box 35 (evC ev)) := by simpa using hb35 []
        rw [wpC_skip, thenA_n, wpC_seq, wpC_block, wpC_assoc, wpC_assoc, wpC_assoc]
        refine wpC_cut (fun T h2 => h2 = hB ∧ T 1 = x ∧ T 2 = i64 w ∧ T 7 = bl true ∧ T 8 = y1 ∧ T 10 = i64 i ∧ T 11 = bl bb ∧ T 12 = i64 j ∧ T 13 = .ptr h'.length 0 ∧ T 14 = bl (codeB ev g) ∧ T 15 = bl (gapB ev g) ∧ T 16 = bl (workB ev g)) ?_ ?_
        · refine wpC_cut (fun T h2 => h2 = hB ∧ T 1 = x ∧ T 2 = i64 w ∧ T 7 = bl true ∧ T 8 = y1 ∧ T 10 = i64 i ∧ T 11 = bl bb ∧ T 12 = i64 j ∧ T 13 = .ptr h'.length 0 ∧ T 14 = bl (codeB ev g) ∧ T 15 = bl (gapB ev g)) ?_ ?_
          · refine wpC_cut (fun T h2 => h2 = hB ∧ T 1 = x ∧ T 2 = i64 w ∧ T 7 = bl true ∧ T 8 = y1 ∧ T 10 = i64 i ∧ T 11 = bl bb ∧ T 12 = i64 j ∧ T 13 = .ptr h'.length 0 ∧ T 14 = bl (codeB ev g)) ?_ ?_
            · have heeG2 : eOf (h' ++ [Ob.box 35 (evC ev)]) y1 = some 5 := by rw [← hhB]; exact heeG
              have hyB2 : rowsOf (h' ++ [Ob.box 35 (evC ev)]) y1 = some (b.map segC) := by rw [← hhB]; exact hyB.rows
              cases f1 : ev.kind == 4
              · simp only [go_sem, Nat.reduceAdd, Nat.reduceMul, Nat.reduceSub, Nat.reduceLT, Nat.reduceLeDiff, Nat.reduceEqDiff, reduceIte, reduceCtorEq, Int.reduceEq, Int.reduceLT, Int.reduceLE, Int.reduceBEq, Int.reduceToNat, Int.reduceAdd, Int.cast_ofNat_Int, t1, t8, t10, t12, heeM, hx'.rows, hrowM, hklM, heeG2, hyB2, hrowG, hklG, List.length_map, Int.toNat_natCast, Int.natCast_nonneg, f1, bq_t]
                exact ⟨hhB.symm, t2, t7, t11, by simp [codeB, f1]⟩
              · simp only [go_sem, Nat.reduceAdd, Nat.reduceMul, Nat.reduceSub, Nat.reduceLT, Nat.reduceLeDiff, Nat.reduceEqDiff, reduceIte, reduceCtorEq, Int.reduceEq, Int.reduceLT, Int.reduceLE, Int.reduceBEq, Int.reduceToNat, Int.reduceAdd, Int.cast_ofNat_Int, t1, t8, t10, t12, heeM, hx'.rows, hrowM, hklM, heeG2, hyB2, hrowG, hklG, List.length_map, Int.toNat_natCast, Int.natCast_nonneg, f1, bq_t]
                exact ⟨hhB.symm, t2, t7, t11, by simp [codeB, f1]⟩
            · rintro T h2 ⟨rfl, t1, t2, t7, t8, t10, t11, t12, t13, t14⟩
              cases f1 : ev.kind == 1
              · cases f6 : ev.kind == 6
                · simp only [go_sem, Nat.reduceAdd, Nat.reduceMul, Nat.reduceSub, Nat.reduceLT, Nat.reduceLeDiff, Nat.reduceEqDiff, reduceIte, reduceCtorEq, Int.reduceEq, Int.reduceLT, Int.reduceLE, Int.reduceBEq, Int.reduceToNat, Int.reduceAdd, Int.cast_ofNat_Int, t8, t10, t13, hb35, hb350, heeG, hyB.rows, hrowG, hklG, List.length_map, Int.toNat_natCast, Int.natCast_nonneg, bq_t, f1, f6]
                  exact ⟨t1, t2, t7, t11, t12, t14, by simp [gapB, f1, f6]⟩
                · simp only [go_sem, Nat.reduceAdd, Nat.reduceMul, Nat.reduceSub, Nat.reduceLT, Nat.reduceLeDiff, Nat.reduceEqDiff, reduceIte, reduceCtorEq, Int.reduceEq, Int.reduceLT, Int.reduceLE, Int.reduceBEq, Int.reduceToNat, Int.reduceAdd, Int.cast_ofNat_Int, t8, t10, t13, hb35, hb350, heeG, hyB.rows, hrowG, hklG, List.length_map, Int.toNat_natCast, Int.natCast_nonneg, bq_t, f1, f6]
                  exact ⟨t1, t2, t7, t11, t12, t14, by simp [gapB, f1, f6]⟩
              · simp only [go_sem, Nat.reduceAdd, Nat.reduceMul, Nat.reduceSub, Nat.reduceLT, Nat.reduceLeDiff, Nat.reduceEqDiff, reduceIte, reduceCtorEq, Int.reduceEq, Int.reduceLT, Int.reduceLE, Int.reduceBEq, Int.reduceToNat, Int.reduceAdd, Int.cast_ofNat_Int, t8, t10, t13, hb35, hb350, heeG, hyB.rows, hrowG, hklG, List.length_map, Int.toNat_natCast, Int.natCast_nonneg, bq_t, f1]
                exact ⟨t1, t2, t7, t11, t12, t14, by simp [gapB, f1]⟩
          · rintro T h2 ⟨rfl, t1, t2, t7, t8, t10, t11, t12, t13, t14, t15⟩
            simp only [go_sem, Nat.reduceAdd, Nat.reduceMul, Nat.reduceSub, Nat.reduceLT, Nat.reduceLeDiff, Nat.reduceEqDiff, reduceIte, reduceCtorEq, Int.reduceEq, Int.reduceLT, Int.reduceLE, Int.reduceBEq, Int.reduceToNat, Int.reduceAdd, Int.cast_ofNat_Int]
            refine wp_draw rfl [] 0 [(0, 0, []), (1, 0, []), (2, 0, []), (3, 0, []), (4, 0, []), (5, 0, []), (6, 0, []), (7, 0, []), (8, 0, []), (9, 0, []), (10, 0, []), (11, 0, []), (12, 0, []), (13, 0, []), (14, 0, []), (15, 0, []), (16, 0, []), (17, 0, []), (18, 0, []), (19, 0, []), (20, 0, []), (21, 0, []), (22, 0, []), (23, 0, []), (24, 0, []), (25, 0, []), (29, 0, []), (26, 0, []), (27, 0, []), (28, 0, []), (30, 0, []), (31, 0, []), (32, 0, []), (33, 0, []), (34, 0, []), (35, 0, []), (36, 0, []), (37, 0, []), (38, 0, []), (39, 0, []), (40, 0, []), (41, 0, []), (42, 0, []), (43, 0, []), (44, 0, []), (45, 0, []), (46, 0, []), (47, 0, [])] rfl (by decide) (by decide) ?_
            have fin : ∀ {v : Bool}, v = workB ev g → AV.v (.bool v) = bl (workB ev g) := fun q => by rw [q]
            by_cases g3 : ev.kind = 3
            · have f3 : (ev.kind == 3) = true := by simpa using g3
              have f4 : (ev.kind == 4) = false := by simp [g3]
              have f5 : (ev.kind == 5) = false := by simp [g3]
              cases q1 : g.kind == 1
              · simp only [go_sem, Nat.reduceAdd, Nat.reduceMul, Nat.reduceSub, Nat.reduceLT, Nat.reduceLeDiff, Nat.reduceEqDiff, reduceIte, reduceCtorEq, Int.reduceEq, Int.reduceLT, Int.reduceLE, Int.reduceBEq, Int.reduceToNat, Int.reduceAdd, Int.cast_ofNat_Int, t8, t10, t13, hb35, hb350, heeG, hyB.rows, hrowG, hklG, List.length_map, Int.toNat_natCast, Int.natCast_nonneg, bq_t, f3, f4, f5, q1]
                exact ⟨t1, t2, t7, t11, t12, t14, t15, by simp [workB, f3, f4, f5, q1]⟩
              · simp only [go_sem, Nat.reduceAdd, Nat.reduceMul, Nat.reduceSub, Nat.reduceLT, Nat.reduceLeDiff, Nat.reduceEqDiff, reduceIte, reduceCtorEq, Int.reduceEq, Int.reduceLT, Int.reduceLE, Int.reduceBEq, Int.reduceToNat, Int.reduceAdd, Int.cast_ofNat_Int, t8, t10, t13, hb35, hb350, heeG, hyB.rows, hrowG, hklG, List.length_map, Int.toNat_natCast, Int.natCast_nonneg, bq_t, f3, q1]
                exact ⟨t1, t2, t7, t11, t12, t14, t15, by simp [workB, f3, q1]⟩
            · have f3 : (ev.kind == 3) = false := by simpa using g3
              by_cases g4 : ev.kind = 4
              · have f4 : (ev.kind == 4) = true := by simpa using g4
                have f5 : (ev.kind == 5) = false := by simp [g4]
                cases q2 : g.kind == 2
                · simp only [go_sem, Nat.reduceAdd, Nat.reduceMul, Nat.reduceSub, Nat.reduceLT, Nat.reduceLeDiff, Nat.reduceEqDiff, reduceIte, reduceCtorEq, Int.reduceEq, Int.reduceLT, Int.reduceLE, Int.reduceBEq, Int.reduceToNat, Int.reduceAdd, Int.cast_ofNat_Int, t8, t10, t13, hb35, hb350, heeG, hyB.rows, hrowG, hklG, List.length_map, Int.toNat_natCast, Int.natCast_nonneg, bq_t, f3, f4, f5, q2]
                  exact ⟨t1, t2, t7, t11, t12, t14, t15, by simp [workB, f3, f4, f5, q2]⟩
                · cases q3 : g.code == ev.code
                  · simp only [go_sem, Nat.reduceAdd, Nat.reduceMul, Nat.reduceSub, Nat.reduceLT, Nat.reduceLeDiff, Nat.reduceEqDiff, reduceIte, reduceCtorEq, Int.reduceEq, Int.reduceLT, Int.reduceLE, Int.reduceBEq, Int.reduceToNat, Int.reduceAdd, Int.cast_ofNat_Int, t8, t10, t13, hb35, hb350, heeG, hyB.rows, hrowG, hklG, List.length_map, Int.toNat_natCast, Int.natCast_nonneg, bq_t, f3, f4, f5, q2, q3]
                    exact ⟨t1, t2, t7, t11, t12, t14, t15, by simp [workB, f3, f4, f5, q2, q3]⟩
                  · simp only [go_sem, Nat.reduceAdd, Nat.reduceMul, Nat.reduceSub, Nat.reduceLT, Nat.reduceLeDiff, Nat.reduceEqDiff, reduceIte, reduceCtorEq, Int.reduceEq, Int.reduceLT, Int.reduceLE, Int.reduceBEq, Int.reduceToNat, Int.reduceAdd, Int.cast_ofNat_Int, t8, t10, t13, hb35, hb350, heeG, hyB.rows, hrowG, hklG, List.length_map, Int.toNat_natCast, Int.natCast_nonneg, bq_t, f3, f4, f5, q2, q3]
                    exact ⟨t1, t2, t7, t11, t12, t14, t15, by simp [workB, f3, f4, f5, q2, q3]⟩
              · have f4 : (ev.kind == 4) = false := by simpa using g4
                cases f5 : ev.kind == 5
                · simp only [go_sem, Nat.reduceAdd, Nat.reduceMul, Nat.reduceSub, Nat.reduceLT, Nat.reduceLeDiff, Nat.reduceEqDiff, reduceIte, reduceCtorEq, Int.reduceEq, Int.reduceLT, Int.reduceLE, Int.reduceBEq, Int.reduceToNat, Int.reduceAdd, Int.cast_ofNat_Int, t8, t10, t13, hb35, hb350, heeG, hyB.rows, hrowG, hklG, List.length_map, Int.toNat_natCast, Int.natCast_nonneg, bq_t, f3, f4, f5]
                  exact ⟨t1, t2, t7, t11, t12, t14, t15, by simp [workB, f3, f4, f5]⟩
                · simp only [go_sem, Nat.reduceAdd, Nat.reduceMul, Nat.reduceSub, Nat.reduceLT, Nat.reduceLeDiff, Nat.reduceEqDiff, reduceIte, reduceCtorEq, Int.reduceEq, Int.reduceLT, Int.reduceLE, Int.reduceBEq, Int.reduceToNat, Int.reduceAdd, Int.cast_ofNat_Int, t8, t10, t13, hb35, hb350, heeG, hyB.rows, hrowG, hklG, List.length_map, Int.toNat_natCast, Int.natCast_nonneg, bq_t, f3, f4, f5]
                  exact ⟨t1, t2, t7, t11, t12, t14, t15, by simp [workB, f3, f4, f5]⟩
        · rintro T h2 ⟨rfl, t1, t2, t7, t8, t10, t11, t12, t13, t14, t15, t16⟩
          simp only [go_sem, Nat.reduceAdd, Nat.reduceMul, Nat.reduceSub, Nat.reduceLT, Nat.reduceLeDiff, Nat.reduceEqDiff, reduceIte, reduceCtorEq, Int.reduceEq, Int.reduceLT, Int.reduceLE, Int.reduceBEq, Int.reduceToNat, Int.reduceAdd, Int.cast_ofNat_Int]
          refine wp_draw rfl [] 0 [(0, 0, []), (1, 0, []), (2, 0, []), (4, 0, []), (5, 0, []), (3, 0, []), (6, 0, []), (7, 0, []), (8, 0, []), (9, 0, []), (10, 0, []), (11, 0, []), (13, 0, []), (12, 0, []), (14, 0, []), (15, 0, []), (16, 0, []), (17, 0, []), (18, 0, []), (19, 0, []), (20, 0, []), (21, 0, []), (22, 0, []), (23, 0, []), (24, 0, []), (25, 0, []), (26, 0, [])] rfl (by decide) (by decide) ?_
          cases bb
          · cases q1 : ev.id == g.id
            · simp only [go_sem, Nat.reduceAdd, Nat.reduceMul, Nat.reduceSub, Nat.reduceLT, Nat.reduceLeDiff, Nat.reduceEqDiff, reduceIte, reduceCtorEq, Int.reduceEq, Int.reduceLT, Int.reduceLE, Int.reduceBEq, Int.reduceToNat, Int.reduceAdd, Int.cast_ofNat_Int, t8, t10, t13, hb35, hb350, heeG, hyB.rows, hrowG, hklG, List.length_map, Int.toNat_natCast, Int.natCast_nonneg, bq_t, t2, t11, t12, t14, t15, t16, q1]
              exact ⟨l.length - (j + 1), by omega, j + 1, by omega, hpB, t1, t7, by rw [hany]; simp [isP, q1], t_succ (by omega) rfl, rfl⟩
            · cases q2 : ev.worker == w
              · simp only [go_sem, Nat.reduceAdd, Nat.reduceMul, Nat.reduceSub, Nat.reduceLT, Nat.reduceLeDiff, Nat.reduceEqDiff, reduceIte, reduceCtorEq, Int.reduceEq, Int.reduceLT, Int.reduceLE, Int.reduceBEq, Int.reduceToNat, Int.reduceAdd, Int.cast_ofNat_Int, t8, t10, t13, hb35, hb350, heeG, hyB.rows, hrowG, hklG, List.length_map, Int.toNat_natCast, Int.natCast_nonneg, bq_t, t2, t11, t12, t14, t15, t16, q1, q2]
                exact ⟨l.length - (j + 1), by omega, j + 1, by omega, hpB, t1, t7, by rw [hany]; simp [isP, q1, q2], t_succ (by omega) rfl, rfl⟩
              · cases q3 : codeB ev g
                · simp only [go_sem, Nat.reduceAdd, Nat.reduceMul, Nat.reduceSub, Nat.reduceLT, Nat.reduceLeDiff, Nat.reduceEqDiff, reduceIte, reduceCtorEq, Int.reduceEq, Int.reduceLT, Int.reduceLE, Int.reduceBEq, Int.reduceToNat, Int.reduceAdd, Int.cast_ofNat_Int, t8, t10, t13, hb35, hb350, heeG, hyB.rows, hrowG, hklG, List.length_map, Int.toNat_natCast, Int.natCast_nonneg, bq_t, t2, t11, t12, t14, t15, t16, q1, q2, q3]
                  exact ⟨l.length - (j + 1), by omega, j + 1, by omega, hpB, t1, t7, by rw [hany]; simp [isP, q1, q2, q3], t_succ (by omega) rfl, rfl⟩
                · cases q4 : gapB ev g
                  · simp only [go_sem, Nat.reduceAdd, Nat.reduceMul, Nat.reduceSub, Nat.reduceLT, Nat.reduceLeDiff, Nat.reduceEqDiff, reduceIte, reduceCtorEq, Int.reduceEq, Int.reduceLT, Int.reduceLE, Int.reduceBEq, Int.reduceToNat, Int.reduceAdd, Int.cast_ofNat_Int, t8, t10, t13, hb35, hb350, heeG, hyB.rows, hrowG, hklG, List.length_map, Int.toNat_natCast, Int.natCast_nonneg, bq_t, t2, t11, t12, t14, t15, t16, q1, q2, q3, q4]
                    exact ⟨l.length - (j + 1), by omega, j + 1, by omega, hpB, t1, t7, by rw [hany]; simp [isP, q1, q2, q3, q4], t_succ (by omega) rfl, rfl⟩
                  · simp only [go_sem, Nat.reduceAdd, Nat.reduceMul, Nat.reduceSub, Nat.reduceLT, Nat.reduceLeDiff, Nat.reduceEqDiff, reduceIte, reduceCtorEq, Int.reduceEq, Int.reduceLT, Int.reduceLE, Int.reduceBEq, Int.reduceToNat, Int.reduceAdd, Int.cast_ofNat_Int, t8, t10, t13, hb35, hb350, heeG, hyB.rows, hrowG, hklG, List.length_map, Int.toNat_natCast, Int.natCast_nonneg, bq_t, t2, t11, t12, t14, t15, t16, q1, q2, q3, q4]
                    exact ⟨l.length - (j + 1), by omega, j + 1, by omega, hpB, t1, t7, by rw [hany]; simp [isP, q1, q2, q3, q4], t_succ (by omega) rfl, rfl⟩
          · simp only [go_sem, Nat.reduceAdd, Nat.reduceMul, Nat.reduceSub, Nat.reduceLT, Nat.reduceLeDiff, Nat.reduceEqDiff, reduceIte, reduceCtorEq, Int.reduceEq, Int.reduceLT, Int.reduceLE, Int.reduceBEq, Int.reduceToNat, Int.reduceAdd, Int.cast_ofNat_Int, t8, t10, t13, hb35, hb350, heeG, hyB.rows, hrowG, hklG, List.length_map, Int.toNat_natCast, Int.natCast_nonneg, bq_t, t2, t11, t12, t14, t15, t16]
            exact ⟨l.length - (j + 1), by omega, j + 1, by omega, hpB, t1, t7, by rw [hany]; simp [isP], t_succ (by omega) rfl, rfl⟩
      · have hjl : l.length ≤ j := dnlt e
        have hj2 : j = l.length := by omega
        subst hj2
        rw [List.take_length, hgm.1] at t11
        have heeG := hy'.at (i := i) (by simpa using hlt)
        have d1 : decide (g.from_ < 0) = false := by simp; omega
        have d2 : decide (g.from_ ≥ g.to_) = false := by simp; omega
        have d3 : decide (g.to_ > 32054400) = false := by simp; omega
        simp only [go_sem, Nat.reduceAdd, Nat.reduceMul, Nat.reduceSub, Nat.reduceLT, Nat.reduceLeDiff, Nat.reduceEqDiff, reduceIte, reduceCtorEq, Int.reduceEq, Int.reduceLT, Int.reduceLE, Int.reduceBEq, Int.reduceToNat, Int.reduceAdd, Int.cast_ofNat_Int]
        refine wp_draw rfl [] 0 [(0, 0, []), (1, 0, []), (2, 0, []), (3, 0, []), (4, 0, []), (5, 0, []), (6, 0, []), (7, 0, []), (8, 0, []), (9, 0, []), (10, 0, []), (11, 0, []), (12, 0, []), (16, 0, []), (17, 0, []), (13, 0, []), (14, 0, []), (15, 0, []), (18, 0, []), (19, 0, []), (20, 0, []), (21, 0, []), (22, 0, []), (23, 0, []), (24, 0, []), (25, 0, []), (26, 0, []), (27, 0, []), (28, 0, []), (29, 0, []), (30, 0, []), (31, 0, []), (32, 0, []), (33, 0, []), (34, 0, []), (35, 0, []), (36, 0, []), (37, 0, []), (41, 0, []), (42, 0, []), (38, 0, []), (39, 0, []), (40, 0, []), (43, 0, []), (44, 0, []), (45, 0, []), (46, 0, []), (47, 0, []), (48, 0, [])] rfl (by decide) (by decide) ?_
        by_cases hi0 : i = 0
        · have d4 : decide ((i : Int) > 0) = false := by simp; omega
          simp only [go_sem, Nat.reduceAdd, Nat.reduceMul, Nat.reduceSub, Nat.reduceLT, Nat.reduceLeDiff, Nat.reduceEqDiff, reduceIte, reduceCtorEq, Int.reduceEq, Int.reduceLT, Int.reduceLE, Int.reduceBEq, Int.reduceToNat, Int.reduceAdd, Int.cast_ofNat_Int, t8, t10, t11, heeG, hy'.rows, hrowG, hklG, List.length_map, Int.toNat_natCast, Int.natCast_nonneg, bq_t, d1, d2, d3, d4, Bool.not_true]
          exact ⟨b.length - (i + 1), by omega, i + 1, by omega, hp, t1, t2, t7, t_succ (by omega) rfl, rfl⟩
        · have d4 : decide ((i : Int) > 0) = true := by simp; omega
          have hi1 : i - 1 < b.length := by omega
          have hrowQ : (b.map segC)[i - 1]? = some (segC b[i - 1]) := by rw [List.getElem?_map, List.getElem?_eq_getElem hi1]; rfl
          have hklQ : ((i - 1 : Nat) : Int) < b.length := by omega
          have hw : IntKind.wrap .i64 ((i : Int) - 1) = ((i - 1 : Nat) : Int) := wr_pred (by omega) (by omega)
          have hpv := hprev (by omega)
          obtain ⟨pg, hpg⟩ : ∃ pg, pg = b[i - 1] := ⟨_, rfl⟩
          rw [← hpg] at hrowQ hpv
          have d5 : decide (pg.to_ > g.from_) = false := by simp; omega
          simp only [go_sem, Nat.reduceAdd, Nat.reduceMul, Nat.reduceSub, Nat.reduceLT, Nat.reduceLeDiff, Nat.reduceEqDiff, reduceIte, reduceCtorEq, Int.reduceEq, Int.reduceLT, Int.reduceLE, Int.reduceBEq, Int.reduceToNat, Int.reduceAdd, Int.cast_ofNat_Int, t8, t10, t11, heeG, hy'.rows, hrowG, hklG, hrowQ, hklQ, hw, List.length_map, Int.toNat_natCast, Int.natCast_nonneg, bq_t, d1, d2, d3, d4, d5, Bool.not_true]
          exact ⟨b.length - (i + 1), by omega, i + 1, by omega, hp, t1, t2, t7, t_succ (by omega) rfl, rfl⟩
    · have hge := dnlt e
      have hi2 : i = b.length := by omega
      subst hi2
      have hC : sizeS (normS (clockP b)) = sizeS (b.map spS) := size_rise hr1
      have hK : ∀ k : Int, sizeS (normS (onlyP b k)) = sizeS ((b.filter fun g => g.kind == k).map spS) := fun k => size_rise (hr1.filter fun g => g.kind == k)
      have hsum := size_kinds fun g hg => (hr2 g hg).2
      have hbd : ∀ k : Int, 0 ≤ sizeS ((b.filter fun g => g.kind == k).map spS) ∧ sizeS ((b.filter fun g => g.kind == k).map spS) ≤ 32054400 * 1048576 := fun k => by
        have hin : ∀ s ∈ (b.filter fun g => g.kind == k).map spS, 0 ≤ s.from_ ∧ s.from_ < s.to_ ∧ s.to_ ≤ 32054400 := fun s hs => by
          obtain ⟨g, hg, rfl⟩ := List.mem_map.1 hs
          exact (hr1.filter _).each g hg
        have h1 := sizeS_le hin
        have h2 := List.length_filter_le (fun g : Seg => g.kind == k) b
        rw [List.length_map] at h1
        omega
      have hnc : (clockP b).length < 1048576 := by
        have := normS_len (b.map spS)
        rw [List.length_map] at this
        unfold clockP; omega
      have hno : ∀ k : Int, (onlyP b k).length < 1048576 := fun k => by
        have := normS_len ((b.filter fun g => g.kind == k).map spS)
        have h2 := List.length_filter_le (fun g : Seg => g.kind == k) b
        rw [List.length_map] at this
        unfold onlyP; omega
      simp only [go_sem, Nat.reduceAdd, Nat.reduceMul, Nat.reduceSub, Nat.reduceLT, Nat.reduceLeDiff, Nat.reduceEqDiff, reduceIte, reduceCtorEq, Int.reduceEq, Int.reduceLT, Int.reduceLE, Int.reduceBEq, Int.reduceToNat, Int.reduceAdd, Int.cast_ofNat_Int, t7, t8]
      refine call_by (c31 _ y1 b hy' hbl) ?_
      rintro r3 h4 ⟨L3, rfl, n3, nr3⟩
      simp only [go_sem, Nat.reduceAdd, Nat.reduceMul, Nat.reduceSub, Nat.reduceLT, Nat.reduceLeDiff, Nat.reduceEqDiff, reduceIte, reduceCtorEq, Int.reduceEq, Int.reduceLT, Int.reduceLE, Int.reduceBEq, Int.reduceToNat, Int.reduceAdd, Int.cast_ofNat_Int]
      refine call_by (c30 _ r3 (clockP b) (nr3 _ rfl) hnc) ?_
      rintro _ h4 ⟨rfl, rfl⟩
      simp only [go_sem, Nat.reduceAdd, Nat.reduceMul, Nat.reduceSub, Nat.reduceLT, Nat.reduceLeDiff, Nat.reduceEqDiff, reduceIte, reduceCtorEq, Int.reduceEq, Int.reduceLT, Int.reduceLE, Int.reduceBEq, Int.reduceToNat, Int.reduceAdd, Int.cast_ofNat_Int, t8]
      refine call_by (c32 _ y1 b 0 (hy'.app _) hbl) ?_
      rintro r4 h4 ⟨L4, rfl, n4, nr4⟩
      simp only [go_sem, Nat.reduceAdd, Nat.reduceMul, Nat.reduceSub, Nat.reduceLT, Nat.reduceLeDiff, Nat.reduceEqDiff, reduceIte, reduceCtorEq, Int.reduceEq, Int.reduceLT, Int.reduceLE, Int.reduceBEq, Int.reduceToNat, Int.reduceAdd, Int.cast_ofNat_Int]
      refine call_by (c30 _ r4 (onlyP b 0) (by simpa only [List.append_assoc] using nr4 _ rfl) (hno 0)) ?_
      rintro _ h4 ⟨rfl, rfl⟩
      simp only [go_sem, Nat.reduceAdd, Nat.reduceMul, Nat.reduceSub, Nat.reduceLT, Nat.reduceLeDiff, Nat.reduceEqDiff, reduceIte, reduceCtorEq, Int.reduceEq, Int.reduceLT, Int.reduceLE, Int.reduceBEq, Int.reduceToNat, Int.reduceAdd, Int.cast_ofNat_Int, t8]
      refine call_by (c32 _ y1 b 1 (hy'.app _) hbl) ?_
      rintro r5 h4 ⟨L5, rfl, n5, nr5⟩
      simp only [go_sem, Nat.reduceAdd, Nat.reduceMul, Nat.reduceSub, Nat.reduceLT, Nat.reduceLeDiff, Nat.reduceEqDiff, reduceIte, reduceCtorEq, Int.reduceEq, Int.reduceLT, Int.reduceLE, Int.reduceBEq, Int.reduceToNat, Int.reduceAdd, Int.cast_ofNat_Int]
      refine call_by (c30 _ r5 (onlyP b 1) (by simpa only [List.append_assoc] using nr5 _ rfl) (hno 1)) ?_
      rintro _ h4 ⟨rfl, rfl⟩
      simp only [go_sem, Nat.reduceAdd, Nat.reduceMul, Nat.reduceSub, Nat.reduceLT, Nat.reduceLeDiff, Nat.reduceEqDiff, reduceIte, reduceCtorEq, Int.reduceEq, Int.reduceLT, Int.reduceLE, Int.reduceBEq, Int.reduceToNat, Int.reduceAdd, Int.cast_ofNat_Int, t8]
      refine call_by (c32 _ y1 b 2 (hy'.app _) hbl) ?_
      rintro r6 h4 ⟨L6, rfl, n6, nr6⟩
      simp only [go_sem, Nat.reduceAdd, Nat.reduceMul, Nat.reduceSub, Nat.reduceLT, Nat.reduceLeDiff, Nat.reduceEqDiff, reduceIte, reduceCtorEq, Int.reduceEq, Int.reduceLT, Int.reduceLE, Int.reduceBEq, Int.reduceToNat, Int.reduceAdd, Int.cast_ofNat_Int]
      refine call_by (c30 _ r6 (onlyP b 2) (by simpa only [List.append_assoc] using nr6 _ rfl) (hno 2)) ?_
      rintro _ h4 ⟨rfl, rfl⟩
      simp only [go_sem, Nat.reduceAdd, Nat.reduceMul, Nat.reduceSub, Nat.reduceLT, Nat.reduceLeDiff, Nat.reduceEqDiff, reduceIte, reduceCtorEq, Int.reduceEq, Int.reduceLT, Int.reduceLE, Int.reduceBEq, Int.reduceToNat, Int.reduceAdd, Int.cast_ofNat_Int, t8]
      refine call_by (c32 _ y1 b 3 (hy'.app _) hbl) ?_
      rintro r7 h4 ⟨L7, rfl, n7, nr7⟩
      simp only [go_sem, Nat.reduceAdd, Nat.reduceMul, Nat.reduceSub, Nat.reduceLT, Nat.reduceLeDiff, Nat.reduceEqDiff, reduceIte, reduceCtorEq, Int.reduceEq, Int.reduceLT, Int.reduceLE, Int.reduceBEq, Int.reduceToNat, Int.reduceAdd, Int.cast_ofNat_Int]
      refine call_by (c30 _ r7 (onlyP b 3) (by simpa only [List.append_assoc] using nr7 _ rfl) (hno 3)) ?_
      rintro _ h4 ⟨rfl, rfl⟩
      rw [hC, hK, hK, hK, hK, hsum]
      have b0 := hbd 0
      have b1 := hbd 1
      have b2 := hbd 2
      have b3 := hbd 3
      generalize sizeS ((b.filter fun g => g.kind == 0).map spS) = v0 at *
      generalize sizeS ((b.filter fun g => g.kind == 1).map spS) = v1 at *
      generalize sizeS ((b.filter fun g => g.kind == 2).map spS) = v2 at *
      generalize sizeS ((b.filter fun g => g.kind == 3).map spS) = v3 at *
      have w1 : IntKind.wrap .i64 (v0 + v1) = v0 + v1 := wr_fit (by unfold Fit; omega)
      have w2 : IntKind.wrap .i64 (v0 + v1 + v2) = v0 + v1 + v2 := wr_fit (by unfold Fit; omega)
      have w3 : IntKind.wrap .i64 (v0 + v1 + v2 + v3) = v0 + v1 + v2 + v3 := wr_fit (by unfold Fit; omega)
      simp only [go_sem, Nat.reduceAdd, Nat.reduceMul, Nat.reduceSub, Nat.reduceLT, Nat.reduceLeDiff, Nat.reduceEqDiff, reduceIte, reduceCtorEq, Int.reduceEq, Int.reduceLT, Int.reduceLE, Int.reduceBEq, Int.reduceToNat, Int.reduceAdd, Int.cast_ofNat_Int, w1, w2, w3, beq_self_eq_true]
      obtain ⟨L0, hL0, hN0⟩ := hp00.trans hp
      rw [hL0, List.append_assoc]
      (first | refine endA_pure0 ?_ | refine endA_pure ?_ (by rfl)) <;> (simp only [go_sem, Nat.reduceAdd, Nat.reduceMul, Nat.reduceSub, Nat.reduceLT, Nat.reduceLeDiff, Nat.reduceEqDiff, reduceIte, reduceCtorEq, Int.reduceEq, Int.reduceLT, Int.reduceLE, Int.reduceBEq, Int.reduceToNat, Int.reduceAdd, Int.cast_ofNat_Int] <;> try rfl)
end Go.Proofs.Ytpdghiplnlhnfaa.Ax

namespace Go.Proofs.Ytpdghiplnlhnfaa.streamRises
set_option linter.unusedSimpArgs false
set_option linter.unusedVariables false
open Go.ChangeShapes Go.WideShapes Go.ChangeAt Go.RowKit
open Go.ChangeMaps (open_string shut_string)
set_option linter.unusedVariables false

theorem own : ownKnob Try.prog.godebug = none := by kernel_rfl
theorem laidOut : laidOutB Try.prog = true := by kernel_rfl

/-- A slice of integers that came in. -/
def IsRow (k : IntKind) (w : World) (a : Option Addr) (len cap : Nat) (zs : List Int) : Prop :=
  (a = none ∧ len = 0 ∧ cap = 0 ∧ zs = []) ∨
  ∃ x, a = some x ∧ len ≤ cap ∧ cap ≤ maxLen ∧ zs.length = cap ∧ (∀ i, i < zs.length → w.cell? (x.add i) = some (.int k (zs.getD i 0))) ∧ ∀ n ∈ zs, (Lit.int k n).wf = true

/-! ### The walk. -/
theorem walk (x0 : Value) (x1 : Value) (a2 : Int) (w : World) (w0 : Ax.InSet w x0) (w1 : Ax.InEvs w x1) (w2 : (Lit.int .i64 a2).wf = true) :
    Calls Try.prog 7 #[x0, x1, .int .i64 a2] w fun e w' => e = .returned (.bool true) ∧ Below w.heap.size w w' := by
  obtain ⟨s, a, ha, ks, fs⟩ := w0
  obtain ⟨x, l, hx, sl⟩ := w1
  exact Ax.run_law (Ax.c7 [] s a ks fs x l sl a2) ⟨_, _, rfl, ha, _, _, rfl, hx, _, _, rfl, rfl, rfl⟩

/-! ### The row's step. -/
set_option maxRecDepth 100000 in
theorem lifted (os : Os) (started : os.Started) (H : Type) (enc : TypeId × Value → H) :
    ReturnsInHanded {} Try.checked os 7 .any (Rows.streamRisesSpec.pre6 enc Try.prog Try.f7 Rows.streamRisesRow.domain false) (Rows.streamRisesSpec.post enc Try.prog Try.f7 false true false false) := by
  refine returnsInHanded_of_change (C := Try.checked) own started (by kernel_rfl) Try.func7
    (ChangeSpec.witness6 (enc := enc) (C := Try.checked) false ⟨#[], #[.agg #[.int .i64 0, .slice none 0 0, .int .i64 0, .int .i64 0, .slice none 0 0, .slice none 0 0, .slice none 0 0, .int .i64 0, .int .i64 0, .int .i64 0, .int .i64 0, .int .i64 0, .int .i64 0, .int .i64 0, .int .i64 0, .int .i64 0, .int .i64 0, .int .i64 0, .slice none 0 0, .int .i64 0, .int .i64 0, .int .i64 0, .slice none 0 0], .slice none 0 0, .int .i64 0], []⟩ 8 (by kernel_rfl) (by kernel_rfl) (by kernel_rfl) (by kernel_rfl)) ?_
  intro W base args ds gs before hval0 hW hcnd _
  have hval : ∀ (j : Nat) t v, Try.f7.params[j]? = some t → args[j]? = some v → Value.okWide Try.prog W .any base t v := hval0
  have hW' := hW
  obtain ⟨p, q, hA0, hV, rfl, hfz, hnd⟩ := hW
  have hA : DataW.TrodAll enc Try.prog W 0 (fun _ => true) true Try.f7.params.toList args.toList ds p := hA0
  rw [Try.params7] at hA hval
  obtain ⟨v0, vs0, d0, ds0, p0, q0, hargs, rfl, rfl, h0, r0⟩ := trodAll_cons hA
  obtain ⟨v1, vs1, d1, ds1, p1, q1, rfl, rfl, rfl, h1, r1⟩ := trodAll_cons r0
  obtain ⟨v2, vs2, d2, ds2, p2, q2, rfl, rfl, rfl, h2, r2⟩ := trodAll_cons r1
  obtain ⟨rfl, rfl, rfl⟩ := trodAll_nil r2
  obtain rfl : args = #[v0, v1, v2] := by cases args; simp_all
  obtain ⟨rfl, rfl⟩ := trodVars_none hV
  have k0 := h0
  have lt0 : ∀ x ∈ p0, x.block < W.heap.size := by obtain ⟨m, hm⟩ := k0; exact DataW.trod_lt m _ _ _ hm
  have w0 := Ax.setup_in (hval 0 30 v0 rfl rfl) h0
  have k1 := h1
  have lt1 : ∀ x ∈ p1, x.block < W.heap.size := by obtain ⟨m, hm⟩ := k1; exact DataW.trod_lt m _ _ _ hm
  obtain ⟨sa1, sl1, sc1, rfl⟩ := okWide_slice Try.underlying31 (hval 1 31 v1 rfl rfl)
  have w1 := (by obtain ⟨fuel, hf⟩ := h1; exact Ax.evs_in (v := .slice sa1 sl1 sc1) (by simpa [Value.cells] using hf) : Ax.InEvs W (.slice sa1 sl1 sc1))
  obtain ⟨a2, rfl, rfl, rfl, w2⟩ := open_int Try.underlying3 (hval 2 3 v2 rfl rfl) h2
  clear hA0 hval0
  refine (walk v0 (.slice sa1 sl1 sc1) a2 W w0 w1 w2).mono fun e W' ⟨he, bel⟩ => ?_
  subst he
  exact ⟨_, rfl, _, _, _, [], _, [], hW', trodAll_mk1 (shut_bool Try.underlying4 _), (trodAll_cons_mk (Below.trod laidOut (by kernel_rfl) (of_decide_eq_true (by kernel_rfl)) k0 bel lt0) (trodAll_cons_mk (Below.trod laidOut (by kernel_rfl) (of_decide_eq_true (by kernel_rfl)) k1 bel lt1) (trodAll_cons_mk (shut_int Try.underlying3 w2) trodAll_mk0))), rfl, bel.frame _, fun h => by cases h⟩

theorem over : Rows.streamRisesRow.holds Try.pinned (OpenSpec.ofChange Rows.streamRisesSpec) :=
  OpenClaim.holds_of_wide 7 Try.f7 rfl rfl rfl rfl rfl rfl rfl ⟨rfl, rfl, rfl, rfl, rfl⟩ rfl rfl rfl rfl rfl (by kernel_rfl) Try.func7 (by kernel_rfl)
    (of_decide_eq_true (by kernel_rfl)) (by unfold Func.isWrapper; first | (rw [if_pos (by decide +kernel)]; kernel_rfl) | (rw [if_neg (by decide +kernel)]; exact ⟨rfl, rfl⟩))
    (fun os started H enc _ => lifted os started H enc)

/-- The statement. -/
theorem proved : Rows.StreamRisesSaid := over
#print axioms proved
end Go.Proofs.Ytpdghiplnlhnfaa.streamRises
