/-
  PerfWeeks: the seconds of all weeks together are those of direct work, and in weeks without any nothing was done.
-/
import Derived.Test.YtpdghiplnlhnfaaGreatNH
import Derived.Test.YtpdghiplnlhnfaaGreatMQ
import Derived.Test.YtpdghiplnlhnfaaGreatZ0
import Derived.Test.YtpdghiplnlhnfaaGreatRows
import Derived.WalkKit
import Derived.ProofKit
import Derived.OpenShut
import Derived.ShutString
import Derived.ChangeOld
import Derived.Below
import Derived.Deep.Matrix
namespace Go.Proofs.YtpdghiplnlhnfaaGreat.Ax
set_option linter.unusedSimpArgs false
set_option linter.unusedVariables false
open Go Go.Proofs
set_option maxRecDepth 100000
set_option linter.unusedSimpArgs false
set_option linter.unusedVariables false
theorem any_snoc {p : Seg → Bool} {b : List Seg} {i : Nat} (hi : i < b.length) : (b.take (i + 1)).any p = ((b.take i).any p || p b[i]) := by
  rw [← List.take_append_getElem hi, List.any_append]; simp
set_option maxHeartbeats 8000000 in
theorem cPerfWeeks (h : List Ob) (s : Setup) (a : SA) (k : SIn h s a) (f0 : SFit0 s) (x : AV) (l : List Ev) (hx : SlOf h x 11 (l.map evC)) (w : Int) :
    ACalls Tryz.prog 5 [setupV s a, x, i64 w] h fun r h' => r = bl true ∧ h' = h := by
  refine acalls_wp Tryz.f5 [.tmp 6] 109 rfl rfl rfl rfl rfl rfl (by decide) (⟨_, _, ⟨rfl, rfl⟩, .refl⟩) fun B => ?_
  simp only [go_sem, k.w.one, k.e.one, k.c.one, k.g.one, k.r.one, k.t.one]
  refine call_by (c12 _) ?_
  rintro _ h1 ⟨rfl, rfl⟩
  have k1 := k.app [.box 30 (setupC s a)]
  simp only [go_sem, k1.w.one, k1.e.one, k1.c.one, k1.g.one, k1.r.one, k1.t.one]
  refine call_by (c13 _ s a k1 x l (hx.app _)) ?_
  rintro _ h1 ⟨rfl, rfl⟩
  cases q1 : fewL 60 s l
  · simp only [go_sem, q1, bq_t, Bool.not_false]
    (first | refine endA_pure0 ?_ | refine endA_pure ?_ (by rfl)) <;> (simp only [go_sem] <;> try rfl)
  have q1' := q1
  simp only [fewL, Bool.and_eq_true, decide_eq_true_eq] at q1'
  obtain ⟨e1, hl⟩ := q1'
  have f := f0.few e1
  simp only [go_sem, q1, bq_t, Bool.not_true, k1.w.one, k1.e.one, k1.c.one, k1.g.one, k1.r.one, k1.t.one]
  refine call_by (c16 _ s a k1 f) ?_
  rintro _ h1 ⟨rfl, e2⟩
  rw [e2]
  clear e2 h1
  cases q2 : setupOk s
  · simp only [go_sem, q2, bq_t, Bool.not_false]
    (first | refine endA_pure0 ?_ | refine endA_pure ?_ (by rfl)) <;> (simp only [go_sem] <;> try rfl)
  obtain ⟨h0, hh0⟩ : ∃ h0, h0 = h ++ [Ob.box 30 (setupC s a)] := ⟨_, rfl⟩
  have h30 : h0[h.length]? = some (.box 30 (setupC s a)) := by rw [hh0]; exact get_new0 rfl
  have hx0 : SlOf h0 x 11 (l.map evC) := by rw [hh0]; exact hx.app _
  rw [← hh0] at k1 ⊢
  simp only [go_sem, q2, bq_t, Bool.not_true, h30, k1.w.one, k1.e.one, k1.c.one, k1.g.one, k1.r.one, k1.t.one]
  refine call_by (c21 _ s a k1 f x l w hx0 (by omega)) ?_
  rintro _ h4 ⟨L1, y1, z1, rfl, m1, rfl, ny1, nz1⟩
  obtain ⟨b, hb⟩ : ∃ b, b = (streamP s l w).1 := ⟨_, rfl⟩
  rw [← hb] at ny1
  have hbl : b.length < 1048576 := by rw [hb]; have := stream_len3 (s := s) (l := l) (w := w); omega
  have hrise : RiseTo b 32054400 := by rw [hb]; exact (stream_rise q2).1
  obtain ⟨h5, hh5⟩ : ∃ h5, h5 = h0 ++ L1 := ⟨_, rfl⟩
  have hy5 : SlOf h5 y1 5 (b.map segC) := by rw [hh5]; exact ny1 _ rfl
  simp only [go_sem, h30]
  rw [← hh5]
  refine call_by (c32 _ y1 b 1 hy5 hbl) ?_
  rintro r6 h6 ⟨L2, rfl, m2, n2⟩
  obtain ⟨h7, hh7⟩ : ∃ h7, h7 = h5 ++ L2 := ⟨_, rfl⟩
  have hx7 : SlOf h7 x 11 (l.map evC) := by rw [hh7, hh5]; exact (hx0.app _).app _
  have hy7 : SlOf h7 y1 5 (b.map segC) := by rw [hh7]; exact hy5.app _
  have hr7 : SlOf h7 r6 2 ((onlyP b 1).map spnC) := by rw [hh7]; exact n2 _ rfl
  have k7 : SIn h7 s a := by rw [hh7, hh5]; exact (k1.app _).app _
  have h730 : h7[h.length]? = some (.box 30 (setupC s a)) := by rw [hh7, hh5]; exact get_app_old (get_app_old h30)
  have hp7 : Pre h h7 := ⟨.box 30 (setupC s a) :: (L1 ++ L2), by rw [hh7, hh5, hh0]; simp, noRes_cons rfl (m1.app m2)⟩
  simp only [go_sem]
  rw [← hh7]
  refine wp_loop_a (by decide) (fun m T h' => ∃ n : Nat, n ≤ 53 ∧ Pre h7 h' ∧ T 1 = x ∧ T 2 = i64 w ∧ T 3 = .ptr h.length 0 ∧ T 7 = bl true ∧ T 8 = y1 ∧ T 10 = r6 ∧ T 11 = i64 (sumS (b.filter (untilP n))) ∧ T 12 = i64 n ∧ m = 53 - n) 53
    ⟨0, by omega, Pre.refl, by simp only [go_sem], by simp only [go_sem], by simp only [go_sem], by simp only [go_sem], by simp only [go_sem], by simp only [go_sem], by (simp only [go_sem]; rw [until_zero]; rfl), by (simp only [go_sem] <;> rfl), rfl⟩ ?_
  rintro m T h' ⟨n, hn, hp, t1, t2, t3, t7, t8, t10, t11, t12, rfl⟩
  simp only [go_sem, t12]
  have hx' := hp.sl hx7
  have hy' := hp.sl hy7
  have k' := hp.sin k7
  have hg30 : h'[h.length]? = some (.box 30 (setupC s a)) := by
    obtain ⟨L, rfl, _⟩ := hp
    exact get_app_old h730
  have helig := week_elig (l := l) (w := w) (k := (n : Int)) q2
  rw [← hb] at helig
  obtain ⟨hebd, hepos⟩ := elig_pos hrise (n : Int)
  rw [← helig] at hebd hepos
  refine ways (fun e => ?_) (fun e => ?_)
  · have hlt : n < 53 := by have := of_decide_eq_true e; omega
    simp only [go_sem, t1, t2, t3, t12, hg30, k'.w.one, k'.e.one, k'.c.one, k'.g.one, k'.r.one, k'.t.one]
    refine call_by (c15 _ s a k' f x l w n hx' (by omega)) ?_
    rintro _ h8 ⟨rfl, e8⟩
    rw [e8]
    clear e8 h8
    have hnone : b.any (partOf n) = false → perfP s l w n = ⟨(0, 1), 0, (0, 1), 0⟩ := fun ha => by
      refine week_none q2 hl ?_
      rw [← hb, List.filter_eq_nil_iff]
      intro g hg hpg
      rw [List.any_eq_false] at ha
      exact ha g hg hpg
    have huntil := until_succ n b
    have hulo := sumS_nn (L := b.filter (untilP n)) fun g hg => (hrise.each g (List.mem_filter.1 hg).1).2.1
    have huhi := sumS_sub (p := untilP n) fun g hg => (hrise.each g hg).2.1
    have hrs := rise_sum hrise
    rw [← helig] at huntil
    obtain ⟨pv, hpv⟩ : ∃ pv, pv = perfP s l w n := ⟨_, rfl⟩
    rw [← hpv] at hebd hepos hnone huntil
    rw [← hpv]
    simp only [go_sem]
    obtain ⟨h9, hh9⟩ : ∃ h9, h9 = h' ++ [Ob.box 24 [i64 pv.earned.1, i64 pv.earned.2], Ob.box 24 [i64 pv.perf.1, i64 pv.perf.2]] := ⟨_, rfl⟩
    rw [← hh9]
    have hp9 : Pre h7 h9 := by rw [hh9]; exact hp.app (noRes_cons rfl (noRes1 rfl))
    have hy9 := hp9.sl hy7
    have hb15 : h9[h'.length + 1]? = some (Ob.box 24 [i64 pv.perf.1, i64 pv.perf.2]) := by rw [hh9, get_new (k := 1) rfl]; rfl
    refine wp_loop_a (by decide) (fun m T h3 => h3 = h9 ∧ ∃ i : Nat, i ≤ b.length ∧ T 1 = x ∧ T 2 = i64 w ∧ T 3 = .ptr h.length 0 ∧ T 7 = bl true ∧ T 8 = y1 ∧ T 10 = r6 ∧ T 11 = i64 (sumS (b.filter (untilP n))) ∧ T 12 = i64 n ∧ T 14 = i64 pv.eligible ∧ T 15 = .ptr (h'.length + 1) 0 ∧ T 16 = i64 pv.err ∧ T 17 = bl ((b.take i).any (partOf n)) ∧ T 18 = i64 i ∧ m = b.length - i) b.length
      ⟨rfl, 0, by omega, by simp only [go_sem, t1], by simp only [go_sem, t2], by simp only [go_sem, t3], by simp only [go_sem, t7], by simp only [go_sem, t8], by simp only [go_sem, t10], by simp only [go_sem, t11], by simp only [go_sem, t12], by simp only [go_sem], by simp only [go_sem], by simp only [go_sem], by (simp only [go_sem] <;> rfl), by (simp only [go_sem] <;> rfl), rfl⟩ ?_
    clear t1 t2 t3 t7 t8 t10 t11 t12
    rintro m T h3 ⟨rfl, i, hi, t1, t2, t3, t7, t8, t10, t11, t12, t14, t15, t16, t17, t18, rfl⟩
    simp only [go_sem, t8, t18, hy9.rows, List.length_map]
    refine ways (fun e => ?_) (fun e => ?_)
    · have hil := dlt e
      have hrowG : (b.map segC)[i]? = some (segC b[i]) := by rw [List.getElem?_map, List.getElem?_eq_getElem hil]; rfl
      have hklG : (i : Int) < b.length := by omega
      have heeG := hy9.at (i := i) (by simpa using hil)
      have hst := any_snoc (p := partOf n) hil
      obtain ⟨g, hg⟩ : ∃ g, g = b[i] := ⟨_, rfl⟩
      rw [← hg] at hrowG hst
      have hpart : partOf n g = (g.kind == 1 && weekI g.from_ == (n : Int)) := rfl
      simp only [go_sem]
      cases f0 : (b.take i).any (partOf n)
      · rw [f0] at hst
        cases f1 : g.kind == 1
        · rw [f1] at hpart
          simp only [go_sem, t8, t12, t17, t18, f0, f1, hy9.rows, heeG, hrowG, hklG, List.length_map, bq_t, Int.toNat_natCast, Int.natCast_nonneg]
          exact ⟨b.length - (i + 1), by omega, i + 1, by omega, t1, t2, t3, t7, t10, t11, t14, t15, t16, by rw [hst, hpart]; rfl, t_succ (by omega) rfl, rfl⟩
        · simp only [go_sem, t8, t12, t17, t18, f0, f1, hy9.rows, heeG, hrowG, hklG, List.length_map, bq_t, Int.toNat_natCast, Int.natCast_nonneg]
          refine call_by (c17 _ _) ?_
          rintro _ h6 ⟨rfl, e6⟩
          rw [e6]
          clear e6 h6
          rw [f1] at hpart
          simp only [go_sem, t8, t12, t17, t18, f0, f1, hy9.rows, heeG, hrowG, hklG, List.length_map, bq_t, Int.toNat_natCast, Int.natCast_nonneg]
          exact ⟨b.length - (i + 1), by omega, i + 1, by omega, t1, t2, t3, t7, t10, t11, t14, t15, t16, by rw [hst, hpart]; rfl, t_succ (by omega) rfl, rfl⟩
      · rw [f0] at hst
        simp only [go_sem, t8, t12, t17, t18, f0, hy9.rows, heeG, hrowG, hklG, List.length_map, bq_t, Int.toNat_natCast, Int.natCast_nonneg]
        exact ⟨b.length - (i + 1), by omega, i + 1, by omega, t1, t2, t3, t7, t10, t11, t14, t15, t16, by rw [hst]; rfl, t_succ (by omega) rfl, rfl⟩
    · have hge := dnlt e
      have hi2 : i = b.length := by omega
      subst hi2
      rw [List.take_length] at t17
      have hlt0 : decide (pv.eligible < 0) = false := by simp; omega
      have hwr : wr (sumS (b.filter (untilP n)) + pv.eligible) = sumS (b.filter (untilP ((n + 1 : Nat) : Int))) := by
        rw [wr_fit (by unfold Fit; omega), ← huntil]; rfl
      have hwr2 : IntKind.wrap .i64 (sumS (b.filter (untilP n)) + pv.eligible) = sumS (b.filter (untilP ((n + 1 : Nat) : Int))) := hwr
      cases f0 : b.any (partOf n)
      · have hpv0 := hnone f0
        have f1 : decide (pv.eligible > 0) = false := by rw [hepos, f0]
        have he0 : (pv.err != 0) = false := by rw [hpv0]; rfl
        have hq0 : pv.perf = (0, 1) := by rw [hpv0]
        simp only [go_sem, t12, t14, t15, t16, t17, t11, f0, f1, hlt0, bq_t, hb15, he0, hq0, hwr2]
        exact ⟨53 - (n + 1), by omega, n + 1, by omega, hp9, t1, t2, t3, t7, t8, t10, rfl, t_succ (by omega) rfl, rfl⟩
      · have f1 : decide (pv.eligible > 0) = true := by rw [hepos, f0]
        simp only [go_sem, t12, t14, t15, t16, t17, t11, f0, f1, hlt0, bq_t, hwr2]
        exact ⟨53 - (n + 1), by omega, n + 1, by omega, hp9, t1, t2, t3, t7, t8, t10, rfl, t_succ (by omega) rfl, rfl⟩
  · have hn2 : n = 53 := by have := of_decide_eq_false e; omega
    subst hn2
    have hr' := hp.sl hr7
    have hol : (onlyP b 1).length < 1048576 := by
      have := normS_len ((b.filter fun g => g.kind == 1).map spS)
      rw [List.length_map] at this
      have := List.length_filter_le (fun g : Seg => g.kind == 1) b
      unfold onlyP; omega
    have hsum : sumS (b.filter (untilP 53)) = sizeS (normS (onlyP b 1)) := by
      rw [only_size hrise]; exact congrArg sumS (until_all b)
    simp only [go_sem, t7, t10, t11]
    refine call_by (c30 _ r6 (onlyP b 1) hr' hol) ?_
    rintro _ h6 ⟨rfl, e6⟩
    rw [e6]
    clear e6 h6
    simp only [go_sem, t7, t11, hsum, beq_self_eq_true]
    obtain ⟨L, hL, _⟩ := hp7.trans hp
    rw [hL]
    (first | refine endA_pure0 ?_ | refine endA_pure ?_ (by rfl)) <;> (simp only [go_sem] <;> try rfl)
end Go.Proofs.YtpdghiplnlhnfaaGreat.Ax

namespace Go.Proofs.YtpdghiplnlhnfaaGreat.perfWeeks
set_option linter.unusedSimpArgs false
set_option linter.unusedVariables false
open Go.ChangeShapes Go.WideShapes Go.ChangeAt Go.RowKit
open Go.ChangeMaps (open_string shut_string)
set_option linter.unusedVariables false

theorem own : ownKnob Tryz.prog.godebug = none := by kernel_rfl
theorem laidOut : laidOutB Tryz.prog = true := by kernel_rfl

/-- A slice of integers that came in. -/
def IsRow (k : IntKind) (w : World) (a : Option Addr) (len cap : Nat) (zs : List Int) : Prop :=
  (a = none ∧ len = 0 ∧ cap = 0 ∧ zs = []) ∨
  ∃ x, a = some x ∧ len ≤ cap ∧ cap ≤ maxLen ∧ zs.length = cap ∧ (∀ i, i < zs.length → w.cell? (x.add i) = some (.int k (zs.getD i 0))) ∧ ∀ n ∈ zs, (Lit.int k n).wf = true

/-! ### The walk. -/
theorem walk (x0 : Value) (x1 : Value) (a2 : Int) (w : World) (w0 : Ax.InSet w x0) (w1 : Ax.InEvs w x1) (w2 : (Lit.int .i64 a2).wf = true) :
    Calls Tryz.prog 5 #[x0, x1, .int .i64 a2] w fun e w' => e = .returned (.bool true) ∧ Below w.heap.size w w' := by
  obtain ⟨s, a, ha, ks, fs⟩ := w0
  obtain ⟨x, l, hx, sl⟩ := w1
  exact Ax.run_law (Ax.cPerfWeeks [] s a ks fs x l sl a2) ⟨_, _, rfl, ha, _, _, rfl, hx, _, _, rfl, rfl, rfl⟩

/-! ### The row's step. -/
set_option maxRecDepth 100000 in
theorem lifted (os : Os) (started : os.Started) (H : Type) (enc : TypeId × Value → H) :
    ReturnsInHanded {} Tryz.checked os 5 .any (Rows.perfWeeksSpec.pre6 enc Tryz.prog Tryz.f5 Rows.perfWeeksRow.domain false) (Rows.perfWeeksSpec.post enc Tryz.prog Tryz.f5 false true false false) := by
  refine returnsInHanded_of_change (C := Tryz.checked) own started (by kernel_rfl) Tryz.func5
    (ChangeSpec.witness6 (enc := enc) (C := Tryz.checked) false ⟨#[], #[.agg #[.int .i64 0, .slice none 0 0, .int .i64 0, .int .i64 0, .slice none 0 0, .slice none 0 0, .slice none 0 0, .int .i64 0, .int .i64 0, .int .i64 0, .int .i64 0, .int .i64 0, .int .i64 0, .int .i64 0, .int .i64 0, .int .i64 0, .int .i64 0, .int .i64 0, .slice none 0 0, .int .i64 0, .int .i64 0, .int .i64 0, .slice none 0 0], .slice none 0 0, .int .i64 0], []⟩ 8 (by kernel_rfl) (by kernel_rfl) (by kernel_rfl) (by kernel_rfl)) ?_
  intro W base args ds gs before hval0 hW hcnd _
  have hval : ∀ (j : Nat) t v, Tryz.f5.params[j]? = some t → args[j]? = some v → Value.okWide Tryz.prog W .any base t v := hval0
  have hW' := hW
  obtain ⟨p, q, hA0, hV, rfl, hfz, hnd⟩ := hW
  have hA : DataW.TrodAll enc Tryz.prog W 0 (fun _ => true) true Tryz.f5.params.toList args.toList ds p := hA0
  rw [Tryz.params5] at hA hval
  obtain ⟨v0, vs0, d0, ds0, p0, q0, hargs, rfl, rfl, h0, r0⟩ := trodAll_cons hA
  obtain ⟨v1, vs1, d1, ds1, p1, q1, rfl, rfl, rfl, h1, r1⟩ := trodAll_cons r0
  obtain ⟨v2, vs2, d2, ds2, p2, q2, rfl, rfl, rfl, h2, r2⟩ := trodAll_cons r1
  obtain ⟨rfl, rfl, rfl⟩ := trodAll_nil r2
  obtain rfl : args = #[v0, v1, v2] := by cases args; simp_all
  obtain ⟨rfl, rfl⟩ := trodVars_none hV
  have k0 := h0
  have lt0 : ∀ x ∈ p0, x.block < W.heap.size := by obtain ⟨m, hm⟩ := k0; exact DataW.trod_lt m _ _ _ hm
  have w0 := Ax.setup_in (hval 0 30 v0 rfl rfl) h0
  have k1 := h1
  have lt1 : ∀ x ∈ p1, x.block < W.heap.size := by obtain ⟨m, hm⟩ := k1; exact DataW.trod_lt m _ _ _ hm
  obtain ⟨sa1, sl1, sc1, rfl⟩ := okWide_slice Tryz.underlying31 (hval 1 31 v1 rfl rfl)
  have w1 := (by obtain ⟨fuel, hf⟩ := h1; exact Ax.evs_in (v := .slice sa1 sl1 sc1) (by simpa [Value.cells] using hf) : Ax.InEvs W (.slice sa1 sl1 sc1))
  obtain ⟨a2, rfl, rfl, rfl, w2⟩ := open_int Tryz.underlying3 (hval 2 3 v2 rfl rfl) h2
  clear hA0 hval0
  refine (walk v0 (.slice sa1 sl1 sc1) a2 W w0 w1 w2).mono fun e W' ⟨he, bel⟩ => ?_
  subst he
  exact ⟨_, rfl, _, _, _, [], _, [], hW', trodAll_mk1 (shut_bool Tryz.underlying4 _), (trodAll_cons_mk (Below.trod laidOut (by kernel_rfl) (of_decide_eq_true (by kernel_rfl)) k0 bel lt0) (trodAll_cons_mk (Below.trod laidOut (by kernel_rfl) (of_decide_eq_true (by kernel_rfl)) k1 bel lt1) (trodAll_cons_mk (shut_int Tryz.underlying3 w2) trodAll_mk0))), rfl, bel.frame _, fun h => by cases h⟩

theorem over : Rows.perfWeeksRow.holds Tryz.pinned (OpenSpec.ofChange Rows.perfWeeksSpec) :=
  OpenClaim.holds_of_wide 5 Tryz.f5 rfl rfl rfl rfl rfl rfl rfl ⟨rfl, rfl, rfl, rfl, rfl⟩ rfl rfl rfl rfl rfl (by kernel_rfl) Tryz.func5 (by kernel_rfl)
    (of_decide_eq_true (by kernel_rfl)) (by unfold Func.isWrapper; first | (rw [if_pos (by decide +kernel)]; kernel_rfl) | (rw [if_neg (by decide +kernel)]; exact ⟨rfl, rfl⟩))
    (fun os started H enc _ => lifted os started H enc)

/-- The statement. -/
theorem proved : Rows.PerfWeeksSaid := over
#print axioms proved
end Go.Proofs.YtpdghiplnlhnfaaGreat.perfWeeks
