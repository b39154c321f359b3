/-
  Joined: Ax11. Nothing is proved here of a statement.
-/
import Derived.Test.YtpdghiplnlhnfaaGreatMC
import Derived.Tactics
namespace Go.Proofs.YtpdghiplnlhnfaaGreat.Ax
set_option linter.unusedSimpArgs false
set_option linter.unusedVariables false
open Go Go.RowKit

abbrev Env := Nat → AV
def upd (T : Env) (d : Nat) (x : AV) : Env := fun i => if i = d then x else T i
def putA (T : Env) (d : Option Nat) (x : AV) : Env := match d with
  | some d => upd T d x
  | none => T
abbrev PostA := Exit → Env → List Ob → Prop

structure Rel (N B : Nat) (w : World) (g : Gh) (h : List Ob) (a : Act) (T : Env) : Prop where
  ok : HOk B w g h
  hB : B ≤ w.heap.size
  t : TRel (ctx w g h) T a
  d : a.defers = []
  n : a.tmps.size = N

def okFn (P : Program) (f : FuncId) : Bool := match P.funcs[f]? with
  | some fn => fn.name != "runtime.NumGoroutine" && fn.body.isSome
  | none => false
/-- What stands behind: φ is what the walk does not know. -/
def Aft (N B : Nat) (φ : Nat → Ob) (w : World) (g : Gh) (h : List Ob) (T' : Env) (h' : List Ob) (a' : Act) (w' : World) : Prop :=
  ∃ g', ResK h h' ∧ Rel N B w' g' (fill φ h') a' T' ∧ Good B w g (fill φ h) w' g' (fill φ h')
theorem good_len {B : Nat} {φ : Nat → Ob} {w w' : World} {g g' : Gh} {h h' : List Ob} (k : Good B w g (fill φ h) w' g' (fill φ h')) : h.length ≤ h'.length := by
  have := k.le.n; simpa [ctx, fill_len] using this
theorem Aft.len {N B : Nat} {φ : Nat → Ob} {w w' : World} {g : Gh} {h h' : List Ob} {T' : Env} {a' : Act} (k : Aft N B φ w g h T' h' a' w') : h.length ≤ h'.length := by
  obtain ⟨g', _, _, k⟩ := k; exact good_len k
theorem Aft.refl {N B : Nat} {φ : Nat → Ob} {w : World} {g : Gh} {h : List Ob} {T : Env} {a : Act} (r : Rel N B w g (fill φ h) a T) : Aft N B φ w g h T h a w := ⟨g, .refl, r, Good.refl r.ok r.hB⟩
/-- A call, said of values as they read. -/
def ACalls (P : Program) (f : FuncId) (as : List AV) (h : List Ob) (R : AV → List Ob → Prop) : Prop :=
  okFn P f = true ∧ (∃ r h', R r h' ∧ ResK h h') ∧ ∀ (φ : Nat → Ob), Upto φ h.length → ∀ (B : Nat) (w : World) (g : Gh) (vs : List Value), HOk B w g (fill φ h) → B ≤ w.heap.size → ARs (ctx w g (fill φ h)) as vs →
    Calls P f vs.toArray w fun e w' => ∃ v r h' g', e = .returned v ∧ R r h' ∧ ResK h h' ∧ Good B w g (fill φ h) w' g' (fill φ h') ∧ AR (ctx w' g' (fill φ h')) r v
theorem ACalls.mono {P : Program} {f : FuncId} {as : List AV} {h : List Ob} {R R' : AV → List Ob → Prop} (c : ACalls P f as h R) (hr : ∀ r h', R r h' → R' r h') : ACalls P f as h R' :=
  ⟨c.1, let ⟨r, h', q1, q2⟩ := c.2.1; ⟨r, h', hr _ _ q1, q2⟩, fun φ hu B w g vs h1 h2 h3 => (c.2.2 φ hu B w g vs h1 h2 h3).mono fun e w' ⟨v, r, h', g', e1, e2, e3⟩ => ⟨v, r, h', g', e1, hr _ _ e2, e3⟩⟩

def AWp (P : Program) (N B : Nat) (c : Code) (Q : PostA) (T : Env) (h : List Ob) : Prop :=
  ∀ (φ : Nat → Ob), Upto φ h.length → ∀ (w : World) (g : Gh) (a : Act), Rel N B w g (fill φ h) a T → c.wp P (fun e a' w' => ∃ T' h', Q e T' h' ∧ Aft N B φ w g h T' h' a' w') a w

section
variable {P : Program} {N B : Nat} {Q Q' : PostA} {T : Env} {h : List Ob} {c c' : Code}

theorem AWp.mono (k : AWp P N B c Q T h) (hq : ∀ e T h, Q e T h → Q' e T h) : AWp P N B c Q' T h :=
  fun φ hu w g a r => wp_mono (k φ hu w g a r) fun _ _ _ ⟨T', h', e1, e2⟩ => ⟨T', h', hq _ _ _ e1, e2⟩
theorem Aft.trans {φ : Nat → Ob} {w w' w'' : World} {g g' : Gh} {h h' h'' : List Ob} {T'' : Env} {a'' : Act} (hk : ResK h h') (k : Good B w g (fill φ h) w' g' (fill φ h')) (b : Aft N B φ w' g' h' T'' h'' a'' w'') : Aft N B φ w g h T'' h'' a'' w'' := by
  obtain ⟨g2, q1, q2, q3⟩ := b
  exact ⟨g2, hk.trans q1, q2, k.trans q3⟩
theorem awp_pre {T' : Env} {h' : List Ob} (k : AWp P N B c Q T' h') (hr : ∀ (φ : Nat → Ob), Upto φ h.length → ∀ w g a, Rel N B w g (fill φ h) a T → Aft N B φ w g h T' h' a w) : AWp P N B c Q T h := fun φ hu w g a r => by
  have af := hr φ hu w g a r
  have hl := af.len
  obtain ⟨g', q, r', k'⟩ := af
  exact wp_mono (k φ (hu.mono hl) w g' a r') fun _ _ _ ⟨T2, h2, e1, e2⟩ => ⟨T2, h2, e1, e2.trans q k'⟩
theorem awp_now {e : Exit} (hq : Q e T h) {φ : Nat → Ob} {w : World} {g : Gh} {a : Act} (r : Rel N B w g (fill φ h) a T) : ∃ T' h', Q e T' h' ∧ Aft N B φ w g h T' h' a w :=
  ⟨T, h, hq, .refl r⟩
theorem awp_skip (hq : Q .normal T h) : AWp P N B .skip Q T h := fun _ _ _ _ _ r => wp_skip (awp_now hq r)
theorem awp_label {l : Nat} (hq : Q .normal T h) : AWp P N B (.label l) Q T h := fun _ _ _ _ _ r => wp_label (awp_now hq r)
theorem awp_exit {id : Nat} (hq : Q (.exit id) T h) : AWp P N B (.exit id) Q T h := fun _ _ _ _ _ r => wp_exit (awp_now hq r)
theorem awp_ret (hq : Q .ret T h) : AWp P N B .ret Q T h := fun _ _ _ _ _ r => wp_ret (awp_now hq r)
def thenA (next : Env → List Ob → Prop) (Q : PostA) : PostA
  | .normal, T, h => next T h
  | e, T, h => Q e T h
def blockA (id : Nat) (Q : PostA) : PostA
  | .exit i, T, h => if i = id then Q .normal T h else Q (.exit i) T h
  | e, T, h => Q e T h
theorem awp_seq (k : AWp P N B c (thenA (AWp P N B c' Q) Q) T h) : AWp P N B (.seq c c') Q T h := fun φ hu w g a r => by
  refine wp_seq (wp_mono (k φ hu w g a r) fun e a' w' ⟨T', h', e1, e2⟩ => ?_)
  have hl := e2.len
  cases e <;> first
    | (obtain ⟨g', q1, q2, q3⟩ := e2; exact wp_mono (e1 φ (hu.mono hl) w' g' a' q2) fun _ _ _ ⟨T2, h2, z1, z2⟩ => ⟨T2, h2, z1, z2.trans q1 q3⟩)
    | exact ⟨T', h', e1, e2⟩
theorem awp_cond {x : Operand} {t : Bool} (hx : ev T x = .v (.bool t)) (k1 : t = true → AWp P N B c Q T h) (k2 : t = false → AWp P N B c' Q T h) : AWp P N B (.cond x c c') Q T h := fun φ hu w g a r =>
  wp_cond_split (ev_v r.t hx) (fun e => k1 e φ hu w g a r) (fun e => k2 e φ hu w g a r)
theorem awp_block {id : Nat} (k : AWp P N B c (blockA id Q) T h) : AWp P N B (.block id c) Q T h := fun φ hu w g a r => by
  refine wp_block (wp_mono (k φ hu w g a r) fun e a' w' ⟨T', h', e1, e2⟩ => ?_)
  cases e with
  | exit i =>
    simp only [blockA] at e1
    simp only [Exit.inBlock]
    split
    · rename_i hi; rw [if_pos hi] at e1; exact ⟨T', h', e1, e2⟩
    · rename_i hi; rw [if_neg hi] at e1; exact ⟨T', h', e1, e2⟩
  | _ => exact ⟨T', h', e1, e2⟩
theorem least {J : Nat → Prop} (e : ∃ n, J n) : ∃ n, J n ∧ ∀ m, J m → n ≤ m := by
  obtain ⟨n, hn⟩ := e
  induction n using Nat.strongRecOn with
  | _ n ih =>
    by_cases hm : ∃ m, m < n ∧ J m
    · obtain ⟨m, h1, h2⟩ := hm
      exact ih m h1 h2
    · exact ⟨n, hn, fun m h => Nat.le_of_not_lt fun hlt => hm ⟨m, hlt, h⟩⟩
/-- A loop: what holds ahead of a round, with a number that falls. -/
theorem awp_loop (I : Nat → Env → List Ob → Prop) (n : Nat) (h0 : I n T h)
    (round : ∀ n T h, I n T h → AWp P N B c (thenA (fun T' h' => ∃ n', n' < n ∧ I n' T' h') Q) T h) : AWp P N B (.loop c) Q T h := fun φ hu w g a r => by
  let J : Nat → Act → World → Prop := fun n a' w' => ∃ T' h', I n T' h' ∧ Aft N B φ w g h T' h' a' w'
  let I' : Act → World → Prop := fun a' w' => ∃ n, J n a' w'
  have hI0 : I' a w := ⟨n, T, h, h0, .refl r⟩
  classical
  let μ : Act → World → Nat := fun a' w' => if e : ∃ n, J n a' w' then Classical.choose (least e) else 0
  have hμ : ∀ a' w' (e : ∃ n, J n a' w'), J (μ a' w') a' w' ∧ ∀ m, J m a' w' → μ a' w' ≤ m := fun a' w' e => by
    have : μ a' w' = Classical.choose (least e) := dif_pos e
    rw [this]
    exact Classical.choose_spec (least e)
  refine wp_loop I' μ hI0 fun a1 w1 hI => ?_
  obtain ⟨T1, h1, q1, q2⟩ := (hμ a1 w1 hI).1
  have hl := q2.len
  obtain ⟨g1, q3, q4, q5⟩ := q2
  refine wp_mono (round _ T1 h1 q1 φ (hu.mono hl) w1 g1 a1 q4) fun e a2 w2 ⟨T2, h2, z1, z2⟩ => ?_
  have z2 := z2.trans q3 q5
  cases e with
  | normal =>
    obtain ⟨n', hlt, hn'⟩ := z1
    have hJ : J n' a2 w2 := ⟨T2, h2, hn', z2⟩
    exact ⟨⟨n', hJ⟩, Nat.lt_of_le_of_lt ((hμ a2 w2 ⟨n', hJ⟩).2 n' hJ) hlt⟩
  | _ => exact ⟨T2, h2, z1, z2⟩
end

/-! Operations, one behind the other. -/
def targetA (T : Env) (c : Call) : Option (FuncId × List AV) := match c.callee with
  | .value x => match ev T x with
    | .fn (.func f) fs cs => some (f, fs ++ evl T c.args.toList ++ cs)
    | _ => none
  | _ => none
def runA (P : Program) (T : Env) (h : List Ob) (o : Oper) (K : Env → List Ob → Prop) : Prop :=
  match evalOp P T h o.op with
  | some (x, h') => K (putA T o.dst x) h'
  | none => match o.op with
    | .call c => match targetA T c with
      | some (f, as) => ACalls P f as h fun r h' => K (putA T o.dst r) h'
      | none => False
    | _ => False
def dstOk (N : Nat) (o : Oper) : Bool := match o.dst with
  | some d => decide (d < N)
  | none => true
def wpA (P : Program) (ops : Array Oper) (Q : Env → List Ob → Prop) : List Oper → Env → List Ob → Prop
  | [], T, h => Q T h
  | o :: r, T, h => match o.guard with
    | none => runA P T h o (wpA P ops Q r)
    | some (j, want) => match (ops[j]?).bind (·.dst) with
      | some d => match T d with
        | .v (.bool b) => (b = want → runA P T h o (wpA P ops Q r)) ∧ (b ≠ want → wpA P ops Q r (putA T o.dst (.v undef)) h)
        | .v (.tuple _) => wpA P ops Q r (putA T o.dst (.v undef)) h
        | _ => False
      | none => False

section
variable {P : Program} {N B : Nat} {T : Env} {h : List Ob}
theorem upd_rel {c : Ctx} {a : Act} {d : Nat} {x : AV} {v : Value} (hT : TRel c T a) (hx : AR c x v) (hd : d < a.tmps.size) : TRel c (upd T d x) { a with tmps := a.tmps.setIfInBounds d v } := fun i => by
  simp only [upd, Array.getD_eq_getD_getElem?]
  split
  · rename_i e
    subst e
    simpa [Array.getElem?_setIfInBounds, hd] using hx
  · rename_i e
    have := hT i
    rw [Array.getD_eq_getD_getElem?] at this
    rw [Array.getElem?_setIfInBounds_ne (fun h => e h.symm)]
    exact this
theorem put_rel {w w' : World} {g g' : Gh} {h' : List Ob} {a : Act} {o : Oper} {x : AV} {v : Value} (r : Rel N B w g h a T) (k : Good B w g h w' g' h') (hx : AR (ctx w' g' h') x v) (hd : dstOk N o = true) : Rel N B w' g' h' (a.put o.dst v) (putA T o.dst x) := by
  have hT : TRel (ctx w' g' h') T a := fun i => AR.le k.le _ _ (r.t i)
  cases e : o.dst with
  | none => exact ⟨k.ok, k.size, hT, r.d, r.n⟩
  | some d =>
    simp only [dstOk, e, decide_eq_true_eq] at hd
    exact ⟨k.ok, k.size, upd_rel hT hx (by rw [r.n]; exact hd), r.d, by simp [Act.put, r.n]⟩
theorem runA_sound {φ : Nat → Ob} (hu : Upto φ h.length) {o : Oper} {K : Env → List Ob → Prop} (hd : dstOk N o = true) (k : runA P T h o K) {Q : Exit → Act → World → Prop} {w : World} {g : Gh} {a : Act} (r : Rel N B w g (fill φ h) a T)
    {next : Act → World → Prop} (hn : ∀ T' h' w' a', K T' h' → Aft N B φ w g h T' h' a' w' → next a' w') : o.wp P a w next Q := by
  unfold runA at k
  unfold Oper.wp
  split at k
  · rename_i x h' hx
    obtain ⟨hxf, hrk⟩ := evalOp_fill hu _ hx
    obtain ⟨nx, v, w', g', e1, e2, e3, e4⟩ := evalOp_sound r.ok r.hB r.t o hxf
    rw [e1]
    rcases e2 with rfl | ⟨rfl, rfl⟩
    · exact hn _ _ _ _ k ⟨g', hrk, put_rel r e3 e4 hd, e3⟩
    · exact hn _ _ _ _ k ⟨g', hrk, put_rel r e3 e4 hd, e3⟩
  · split at k
    · rename_i c hc
      split at k
      · rename_i f as ht
        obtain ⟨k1, _, k2⟩ := k
        unfold targetA at ht
        split at ht
        · rename_i X hcal
          split at ht
          · rename_i f' fs cs hX
            injection ht with ht
            injection ht with ht1 ht2
            subst ht1 ht2
            have hx := ev_ar r.t X
            rw [hX] at hx
            obtain ⟨us, vs, e1, e2, e3⟩ := hx
            have hargs : ARs (ctx w g (fill φ h)) (fs ++ evl T c.args.toList ++ cs) (us.toList ++ c.args.toList.map a.eval ++ vs.toList) := ars_append (ars_append e2 (evl_ar r.t _)) e3
            have hcall := k2 φ hu B w g _ r.ok r.hB hargs
            have hfn : ∃ fn, P.funcs[f']? = some fn ∧ fn.name ≠ "runtime.NumGoroutine" ∧ fn.body.isSome = true := by
              unfold okFn at k1
              split at k1
              · rename_i fn hfn
                simp only [Bool.and_eq_true, bne_iff_ne, ne_eq] at k1
                exact ⟨fn, hfn, k1.1, k1.2⟩
              · cases k1
            obtain ⟨fn, f1, f2, f3⟩ := hfn
            have f5 : (fn.name == "runtime.NumGoroutine") = false := by simpa using f2
            have f4 : fn.body.isNone = false := by cases hb : fn.body <;> simp [hb] at f3 ⊢
            have hrun : (execOp a.eval o).run P w = .ok (.enter f' (us.toList ++ c.args.toList.map a.eval ++ vs.toList).toArray) w := by
              obtain ⟨dst, op, type, pos, after, guard⟩ := o
              simp only at hc
              subst hc
              simp only [execOp, resolve, hcal, e1, Deferred.ofValue, Sem.run_bind, Sem.run_pure, Result.andThen_ok, invoke, callFunc, run_program, f1, f4, f5, Bool.false_eq_true, if_false]
              simp
            rw [hrun]
            refine Calls.mono hcall fun e w' ⟨v, rr, h', g', q1, q2, qk, q3, q4⟩ => ?_
            subst q1
            exact hn _ _ _ _ q2 ⟨g', qk, put_rel r q3 q4 hd, q3⟩
          · cases ht
        · cases ht
      · exact k.elim
    · exact k.elim
theorem wpA_sound {φ : Nat → Ob} {ops : Array Oper} {K : Env → List Ob → Prop} : ∀ (l : List Oper), (l.all (dstOk N)) = true → ∀ {T : Env} {h : List Ob}, Upto φ h.length → wpA P ops K l T h → ∀ {w : World} {g : Gh} {a : Act}, Rel N B w g (fill φ h) a T →
    ∀ {Q : Exit → Act → World → Prop}, (∀ T' h' w' a', K T' h' → Aft N B φ w g h T' h' a' w' → Q .normal a' w') → wpList P ops Q l a w
  | [], _, T, h, _, k, w, g, a, r, Q, hQ => hQ _ _ _ _ k (.refl r)
  | o :: l, hd, T, h, hu, k, w, g, a, r, Q, hQ => by
    rw [List.all_cons, Bool.and_eq_true] at hd
    have hrun : runA P T h o (wpA P ops K l) → o.wp P a w (wpList P ops Q l) Q := fun k =>
      runA_sound hu hd.1 k r fun T' h' w' a' k' q => by
        have hl := q.len
        obtain ⟨g', q1, q2, q3⟩ := q
        exact wpA_sound l hd.2 (hu.mono hl) k' q2 fun T2 h2 w2 a2 k2 z2 => hQ _ _ _ _ k2 (z2.trans q1 q3)
    have hskip : wpA P ops K l (putA T o.dst (.v undef)) h → wpList P ops Q l (a.put o.dst undef) w := fun k =>
      wpA_sound l hd.2 hu k (put_rel r (Good.refl r.ok r.hB) (x := .v undef) rfl hd.1) fun T2 h2 w2 a2 k2 z2 => hQ _ _ _ _ k2 z2
    unfold wpA at k
    unfold wpList
    split at k
    · rename_i hg
      rw [if_pos (by simp [Region.wanted, hg])]
      exact .inl (hrun k)
    · rename_i j want hg
      split at k
      · rename_i d hdst
        have hy : yielded ops a.tmps j = match a.tmps[d]? with | some (.bool b) => some b | _ => none := by
          simp only [yielded, hdst, Option.bind_some]
          rfl
        have hval := r.t d
        rw [Array.getD_eq_getD_getElem?] at hval
        split at k
        · rename_i b hb
          rw [hb] at hval
          have hval : (a.tmps[d]?).getD undef = .bool b := hval
          have hv : a.tmps[d]? = some (.bool b) := by
            cases e : a.tmps[d]? with
            | none => rw [e] at hval; cases hval
            | some u => rw [e] at hval; exact congrArg some hval
          rw [hv] at hy
          by_cases hw : b = want
          · rw [if_pos (by simp [Region.wanted, hg, hy, hw])]
            exact .inl (hrun (k.1 hw))
          · rw [if_neg (by simp [Region.wanted, hg, hy, hw])]
            exact hskip (k.2 hw)
        · rename_i vs hb
          rw [hb] at hval
          have hval : (a.tmps[d]?).getD undef = .tuple vs := hval
          have hy' : yielded ops a.tmps j = none := by
            rw [hy]
            cases e : a.tmps[d]? with
            | none => rfl
            | some u => rw [e] at hval; have : u = .tuple vs := hval; subst this; rfl
          rw [if_neg (by simp [Region.wanted, hg, hy'])]
          exact hskip k
        · exact k.elim
      · exact k.elim
theorem awp_region {id : Nat} {ops : Array Oper} {Q : PostA} (hd : (ops.toList.all (dstOk N)) = true) (k : wpA P ops (Q .normal) ops.toList T h) : AWp P N B (.region id ops false) Q T h := fun φ hu w g a r =>
  wp_region_list (wpA_sound ops.toList hd hu k r fun T' h' w' a' k' q => ⟨T', h', k', q⟩)
end

/-! A function. -/
def resOne (P : Program) (T : Env) (h : List Ob) : ResultVar → Option AV
  | .tmp t => some (T t)
  | .cell a t => match T a with
    | .ptr id off => loadA h (tyOf P t) (.ptr id off)
    | _ => none
def resAll (P : Program) (T : Env) (h : List Ob) : List ResultVar → Option (List AV)
  | [] => some []
  | r :: rs => (resOne P T h r).bind fun x => (resAll P T h rs).map (x :: ·)
def tupA : List AV → AV
  | [x] => x
  | xs => .tup xs
def resA (P : Program) (T : Env) (h : List Ob) (rs : List ResultVar) : Option AV :=
  (resAll P T h rs).map tupA
def retA (P : Program) (fn : Func) (R : AV → List Ob → Prop) : PostA
  | .normal, T, h | .ret, T, h => ∃ r, resA P T h fn.results.toList = some r ∧ R r h
  | _, _, _ => False
section
variable {P : Program} {N B : Nat} {T : Env} {h : List Ob}
def resF (tmps : Array Value) : ResultVar → Sem Value
  | .tmp t => pure (tmps.getD t undef)
  | .cell b t => do loadVar t (← asAddr (tmps.getD b undef))
theorem results_eq (fn : Func) (tmps : Array Value) : results fn tmps = (do let vs ← fn.results.mapM (resF tmps); pure (if h : vs.size = 1 then vs[0] else .tuple vs)) := by
  unfold results
  first | rfl | (congr 1; first | done | (congr 1; funext r; cases r <;> rfl))
theorem resAll_sound {w : World} {g : Gh} {a : Act} (hh : HOk B w g h) (hB : B ≤ w.heap.size) (hT : TRel (ctx w g h) T a) : ∀ (rs : List ResultVar) (xs : List AV), resAll P T h rs = some xs →
    ∃ vs, (rs.mapM (resF a.tmps)).run P w = .ok vs w ∧ ARs (ctx w g h) xs vs
  | [], xs, e => by injection e with e; subst e; exact ⟨[], by simp, rfl⟩
  | r :: rs, xs, e => by
    simp only [resAll] at e
    cases h1 : resOne P T h r with
    | none => rw [h1] at e; cases e
    | some x =>
      rw [h1] at e
      simp only [Option.bind_some] at e
      cases h2 : resAll P T h rs with
      | none => rw [h2] at e; cases e
      | some ys =>
        rw [h2] at e
        injection e with e
        subst e
        obtain ⟨vs, q1, q2⟩ := resAll_sound hh hB hT rs ys h2
        cases r with
        | tmp t =>
          injection h1 with h1
          subst h1
          exact ⟨a.tmps.getD t undef :: vs, by simp only [List.mapM_cons, Sem.run_bind, resF, Sem.run_pure, Result.andThen_ok, q1], ⟨_, _, rfl, hT t, q2⟩⟩
        | cell b t =>
          simp only [resOne] at h1
          split at h1
          · rename_i id off hb
            have hp := hT b
            rw [hb] at hp
            obtain ⟨v, w', g', z1, z2, z3⟩ := did_load (P := P) hh hB hp h1
            have hp' : a.tmps.getD b undef = .pointer (some ⟨g.β id, off, none⟩) := hp.2
            have hq : ∃ v, (loadVar t ⟨g.β id, off, none⟩).run P w = .ok v w ∧ AR (ctx w g h) x v := by
              simp only [loadA] at h1
              split at h1
              · rename_i ty cs ho
                split at h1
                · rename_i ht
                  obtain ⟨v, y1, y2⟩ := load_part (P := P) ht (box_part hh ho) h1
                  rw [Addr.add_lit, Nat.zero_add] at y1
                  exact ⟨v, y1, y2⟩
                · cases h1
              · cases h1
            obtain ⟨v, y1, y2⟩ := hq
            exact ⟨v :: vs, by simp only [List.mapM_cons, Sem.run_bind, resF, hp', asAddr, Sem.run_pure, Result.andThen_ok, y1, q1], ⟨_, _, rfl, y2, q2⟩⟩
          · cases h1
theorem resAll_fill {φ : Nat → Ob} : ∀ (rs : List ResultVar) {xs : List AV}, resAll P T h rs = some xs → resAll P T (fill φ h) rs = some xs
  | [], _, e => e
  | r :: rs, xs, e => by
    simp only [resAll] at e ⊢
    cases h1 : resOne P T h r with
    | none => rw [h1] at e; cases e
    | some x =>
      rw [h1] at e
      cases h2 : resAll P T h rs with
      | none => rw [h2] at e; cases e
      | some ys =>
        rw [h2] at e
        have : resOne P T (fill φ h) r = some x := by
          cases r with
          | tmp t => exact h1
          | cell b t =>
            simp only [resOne] at h1 ⊢
            split at h1
            · exact loadA_fill _ h1
            · cases h1
        rw [this, resAll_fill rs h2]
        exact e
theorem acalls_of_awp {f : FuncId} {fn : Func} {c : Code} {as : List AV} {R : AV → List Ob → Prop} (hf : P.funcs[f]? = some fn) (hb : fn.body = some c) (hn : as.length ≤ fn.ntmps) (hok : okFn P f = true) (hex : ∃ r h', R r h' ∧ ResK h h')
    (k : ∀ B, AWp P fn.ntmps B c (retA P fn R) (nth as) h) : ACalls P f as h R := ⟨hok, hex, fun φ hu B w g vs hh hB hargs => by
  have hlen := ars_len hargs
  refine calls_of_wp hf hb ?_
  have hrel : Rel fn.ntmps B w g (fill φ h) { tmps := vs.toArray ++ Array.replicate (fn.ntmps - vs.toArray.size) undef, defers := [] } (nth as) := by
    refine ⟨hh, hB, fun i => ?_, rfl, by simp; omega⟩
    by_cases hi : i < as.length
    · obtain ⟨u, e1, e2⟩ := ars_get? hargs i hi
      have : (vs.toArray ++ Array.replicate (fn.ntmps - vs.toArray.size) undef).getD i undef = u := by
        rw [Array.getD_eq_getD_getElem?, Array.getElem?_append_left (by simp; omega)]
        simp [e1]
      simp only [this]
      exact e2
    · have : nth as i = .bad := by
        clear hlen hargs k hn
        induction as generalizing i with
        | nil => rfl
        | cons x as ih =>
          cases i with
          | zero => simp at hi
          | succ i => exact ih i (by simpa using hi)
      rw [this]
      trivial
  refine wp_mono (k B φ hu w g _ hrel) fun e a' w' ⟨T', h', e1, g', ek, e2, e3⟩ => ?_
  have fin : (∃ r, resA P T' h' fn.results.toList = some r ∧ R r h') → a'.defers = [] ∧ ∃ v, (results fn a'.tmps).run P w' = .ok v w' ∧ ∃ v' r h'' g'', Ending.returned v = .returned v' ∧ R r h'' ∧ ResK h h'' ∧ Good B w g (fill φ h) w' g'' (fill φ h'') ∧ AR (ctx w' g'' (fill φ h'')) r v' := by
    rintro ⟨r, q1, q2⟩
    refine ⟨e2.d, ?_⟩
    unfold resA at q1
    cases hr : resAll P T' h' fn.results.toList with
    | none => rw [hr] at q1; cases q1
    | some xs =>
      rw [hr] at q1
      injection q1 with q1
      obtain ⟨us, z1, z2⟩ := resAll_sound e2.ok e2.hB e2.t _ xs (resAll_fill _ hr)
      have hm : (fn.results.mapM (resF a'.tmps)).run P w' = .ok us.toArray w' := by
        rw [Array.mapM_eq_mapM_toList]
        simp [z1]
      have hres : (results fn a'.tmps).run P w' = .ok (if h : us.toArray.size = 1 then us.toArray[0] else .tuple us.toArray) w' := by
        rw [results_eq, Sem.run_bind, hm]
        rfl
      refine ⟨_, hres, _, r, h', g', rfl, q2, ek, e3, ?_⟩
      have hl := ars_len z2
      unfold tupA at q1
      split at q1
      · rename_i x
        subst q1
        obtain ⟨u, q, y1, y2, y3⟩ := z2
        have y3 : q = [] := y3
        subst y3 y1
        simpa using y2
      · rename_i hne
        subst q1
        rw [dif_neg]
        · exact ⟨us.toArray, rfl, by simpa using z2⟩
        · intro h1
          have h1 : us.length = 1 := by simpa using h1
          rw [← hl] at h1
          match xs, h1 with
          | [x], _ => exact hne x rfl
  cases e with
  | normal => exact fin e1
  | ret => exact fin e1
  | _ => exact e1.elim⟩
end
end Go.Proofs.YtpdghiplnlhnfaaGreat.Ax
