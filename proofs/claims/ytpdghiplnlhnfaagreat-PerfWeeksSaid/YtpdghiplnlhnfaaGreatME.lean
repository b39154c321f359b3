/-
  Joined: Ax16. Nothing is proved here of a statement.
-/
import Derived.Test.YtpdghiplnlhnfaaGreatMU
namespace Go.Proofs.YtpdghiplnlhnfaaGreat.Ax
set_option linter.unusedSimpArgs false
set_option linter.unusedVariables false
open Go Go.RowKit

/-- An operation of a list: its number, the room kept for what it makes, and what reads again behind it as it read before. -/
abbrev Ent := Nat × Nat × List Nat
def againA (P : Program) (ops : Array Oper) (T : Env) (h : List Ob) (l : Nat) : Prop := match ops[l]? with
  | some o => match o.dst with
    | some d => valG P ops T h o = some (T d)
    | none => False
  | none => False
def againAll (P : Program) (ops : Array Oper) (T : Env) (h : List Ob) : List Nat → Prop
  | [] => True
  | l :: r => againA P ops T h l ∧ againAll P ops T h r
def stepE (P : Program) (ops : Array Oper) (b : Nat) (q : Ent) (o : Oper) (K : Env → List Ob → Prop) (T : Env) (h : List Ob) : Prop :=
  if cls o.op = 3 then stepAt P ops (b + q.2.1) o K T h else stepG P ops o (fun T h => againAll P ops T h q.2.2 ∧ K T h) T h
def wpE (P : Program) (ops : Array Oper) (b : Nat) (K : Env → List Ob → Prop) : List Ent → Env → List Ob → Prop
  | [], T, h => K T h
  | q :: r, T, h => match ops[q.1]? with
    | some o => stepE P ops b q o (wpE P ops b K r) T h
    | none => False
def depsOf (o : Oper) : List Nat := (o.after.toList.filter (Region.binds .any)).map (·.on)
def reach (ops : Array Oper) : Nat → Nat → Nat → Bool
  | 0, j, i => match ops[i]? with
    | some o => (depsOf o).contains j
    | none => false
  | f + 1, j, i => match ops[i]? with
    | some o => (depsOf o).contains j || (depsOf o).any fun k => decide (j < k) && reach ops f j k
    | none => false
/-- Two keys laid into one map. -/
def insPair (x y : Oper) : Bool := match x.op, y.op with
  | .insert t m (.const (.int k n)) _, .insert t' m' (.const (.int k' n')) _ => (match m, m' with
    | .tmp a, .tmp b => a == b
    | _, _ => false) && t == t' && k == k' && n != n' && x.guard.isNone && y.guard.isNone
  | _, _ => false
/-- A block that is no map, and a key laid into a map. -/
def noMap : Op → Bool
  | .alloc .. | .box .. | .buildSlice .. | .makeSlice .. => true
  | _ => false
def isIns : Op → Bool
  | .insert .. => true
  | _ => false
def alIns (x y : Oper) : Bool := noMap x.op && isIns y.op && y.guard.isNone
def untouched (ops : Array Oper) (l p : Nat) : Bool := match ops[l]?, ops[p]? with
  | some a, some b => match b.dst with
    | some d => !looks ops a d && a.dst != some d
    | none => true
  | _, _ => false
def swapOk (ops : Array Oper) (p q : Ent) (x y : Oper) : Bool := aside ops x y &&
  ((cls x.op == 0 && cls y.op != 3) || (cls x.op == 1 && decide (cls y.op ≤ 1)) || cls y.op == 3 || (cls x.op == 1 && cls y.op == 2 && q.2.2.contains p.1) || (insPair x y && p.2.2.isEmpty && q.2.2.isEmpty) || (alIns x y && p.2.2.isEmpty && q.2.2.isEmpty))
def okPairE (ops : Array Oper) (p q : Ent) : Bool := match ops[p.1]?, ops[q.1]? with
  | some x, some y => (reach ops 8 p.1 q.1 || swapOk ops p q x y) && !reach ops 8 q.1 p.1 && !p.2.2.contains q.1 && (cls x.op != 3 || cls y.op != 3 || p.2.1 != q.2.1)
  | _, _ => false
def okPairsE (ops : Array Oper) : List Ent → Bool
  | [] => true
  | x :: r => r.all (okPairE ops x) && okPairsE ops r
def backOk (ops : Array Oper) : Nat → List Oper → Bool
  | _, [] => true
  | i, o :: r => (depsOf o).all (fun j => decide (j < i)) && backOk ops (i + 1) r
/-- What is looked at again: nobody writes what it looks at, but those that it waits for. -/
def okAgain (ops : Array Oper) (l : Nat) : Bool := (match ops[l]? with
  | some o => decide (cls o.op ≤ 1) && (match o.dst with
    | some d => !looks ops o d
    | none => false)
  | none => false) && (List.range ops.size).all fun p => p == l || reach ops 8 p l || untouched ops l p
def okEnt (ops : Array Oper) (k : Nat) (q : Ent) : Bool := match ops[q.1]? with
  | some o => (cls o.op == 2 || q.2.2.isEmpty) && (cls o.op != 3 || decide (q.2.1 < k)) && !q.2.2.contains q.1 && q.2.2.all (okAgain ops)
  | none => false
def okOrdE (ops : Array Oper) (k : Nat) (ord : List Ent) : Bool :=
  okPairsE ops ord && backOk ops 0 ops.toList && ord.all (okEnt ops k) && (List.range ops.size).all (fun i => (ord.map (·.1)).contains i) && decide (ord.map (·.1)).Nodup && decide (ord.length ≤ ops.size)
section
variable {P : Program} {N B : Nat} {ops : Array Oper} {T : Env} {h : List Ob} {K K' : Env → List Ob → Prop} {b : Nat} {p q : Ent} {x y : Oper}
theorem againAll_iff {l : List Nat} : againAll P ops T h l ↔ ∀ i ∈ l, againA P ops T h i := by
  induction l with
  | nil => simp [againAll]
  | cons i l ih => simp [againAll, ih]
theorem quiet_run {o : Oper} (hc : cls o.op ≤ 1) : runA P T h o K ↔ ∃ x, (evalOp P T h o.op).map (·.1) = some x ∧ K (putA T o.dst x) h := by
  unfold runA
  cases he : evalOp P T h o.op with
  | some q =>
    obtain ⟨x, h'⟩ := q
    have := quiet_heap hc he
    subst this
    simp
  | none =>
    simp only [Option.map_none]
    constructor
    · intro k
      generalize o.op = op at k hc he
      cases op <;> first
        | exact k.elim
        | skip
      rename_i c
      obtain ⟨callee, args, tys⟩ := c
      cases callee with
      | builtin b => exact k.elim
      | value x => simp [cls] at hc
      | invoke r m => exact k.elim
    · rintro ⟨x, e, _⟩; cases e
theorem quiet_step {o : Oper} (hc : cls o.op ≤ 1) : stepG P ops o K T h ↔ ∃ x, valG P ops T h o = some x ∧ K (putA T o.dst x) h := by
  unfold stepG guardG valG runO
  cases o.guard with
  | none => exact quiet_run hc
  | some q =>
    obtain ⟨j, want⟩ := q
    simp only []
    cases (ops[j]?).bind (·.dst) with
    | none => simp
    | some d =>
      simp only []
      split
      · rename_i b _
        by_cases hb : b = want
        · subst hb
          simp only [true_implies, ne_eq, not_true_eq_false, false_implies, and_true, if_true]
          exact quiet_run hc
        · simp [hb]
      · simp
      · simp
theorem pure_heap {op : Op} (hc : cls op = 0) (h h' : List Ob) : (evalOp P T h op).map (·.1) = (evalOp P T h' op).map (·.1) := by
  cases op <;> simp only [cls] at hc <;> try (omega; done)
  case binOp op t y z u =>
    have hn : ¬ isNilOp z = true := fun h => by rw [if_pos h] at hc; omega
    simp only [evalOp, if_neg hn]
    simp [Option.map_map, Function.comp_def]
  case build t ps =>
    simp only [evalOp]
    repeat' split
    all_goals first | rfl | skip
    cases (tyOf P t).zero with
    | none => rfl
    | some z => simp only [Option.bind_some]; simp [Option.map_map, Function.comp_def]
  case fieldAddr t y i =>
    simp only [evalOp]
    split
    · rename_i fs _
      cases fs[i]? with
      | none => rfl
      | some f =>
        simp only [Option.bind_some]
        split
        · split <;> rfl
        · rfl
    · rfl
  case field t y i =>
    simp only [evalOp]
    split
    · rename_i fs _ _ _
      cases fs[i]? with
      | none => rfl
      | some f =>
        simp only [Option.bind_some]
        split
        · simp [Option.map_map, Function.comp_def]
        · rfl
    · rfl
  case call c =>
    obtain ⟨callee, args, tys⟩ := c
    cases callee with
    | builtin b =>
      cases b <;> simp at hc
      · simp only [evalOp, callA]
        split <;> simp_all [Function.comp_def]
      · simp only [evalOp, callA]
        split <;> simp_all [Function.comp_def]
    | value x => simp at hc
    | invoke r m => simp at hc
  all_goals
    simp only [evalOp]
    repeat' split
  all_goals first | rfl | simp [Option.map_map, Function.comp_def]
theorem valG_heap {o : Oper} (hc : cls o.op = 0) (h h' : List Ob) : valG P ops T h o = valG P ops T h' o := by
  unfold valG
  rw [pure_heap hc h h']
theorem valG_upd {o : Oper} {d : Nat} {x : AV} (hl : looks ops o d = false) : valG P ops (upd T d x) h o = valG P ops T h o := by
  unfold looks at hl
  rw [Bool.or_eq_false_iff] at hl
  unfold valG
  cases hg : o.guard with
  | none => simp only [evalOp_upd o.op hl.1]
  | some q =>
    obtain ⟨j, want⟩ := q
    rw [hg] at hl
    simp only []
    cases hj : (ops[j]?).bind (·.dst) with
    | none => rfl
    | some e =>
      have hne : e ≠ d := fun h => by
        have := hl.2
        simp [hj, h] at this
      have hT : upd T d x e = T e := by simp [upd, hne]
      simp only [hT, evalOp_upd o.op hl.1]
theorem valG_put {o y : Oper} {v : AV} (hl : ∀ d, y.dst = some d → looks ops o d = false) : valG P ops (putA T y.dst v) h o = valG P ops T h o := by
  cases hd : y.dst with
  | none => rfl
  | some d => exact valG_upd (hl d hd)
theorem put_put {x y : Oper} {u v : AV} (hne : ∀ d, x.dst = some d → y.dst ≠ some d) : putA (putA T x.dst u) y.dst v = putA (putA T y.dst v) x.dst u := by
  cases hx : x.dst with
  | none => rfl
  | some d =>
    have := hne d hx
    exact putA_upd (T := T) (x := u) (y := v) this
/-- The room that was kept for others stays, and a slot is written. -/
theorem runA_dst {o : Oper} (k : runA P T h o K) : runA P T h o fun T2 h2 => K T2 h2 ∧ (∃ v, T2 = putA T o.dst v) ∧ ResK h h2 := by
  unfold runA at *
  split
  · rename_i x h' hx
    rw [hx] at k
    exact ⟨k, ⟨x, rfl⟩, (evalOp_fill (φ := fun _ => .res) (fun _ _ => rfl) _ hx).2⟩
  · rename_i hx
    rw [hx] at k
    clear hx
    generalize o.op = op at k ⊢
    cases op <;> first
      | exact k.elim
      | skip
    rename_i c
    simp only at k ⊢
    cases ht : targetA T c with
    | none => rw [ht] at k; exact k.elim
    | some q =>
      rw [ht] at k
      obtain ⟨k1, ⟨r, h', k2, k3⟩, k4⟩ := k
      refine ⟨k1, ⟨r, h', ⟨k2, ⟨r, rfl⟩, k3⟩, k3⟩, fun φ hu B w g vs q1 q2 q3 => (k4 φ hu B w g vs q1 q2 q3).mono fun e w' ⟨v, r, h', g', e1, e2, e3, e4⟩ => ⟨v, r, h', g', e1, ⟨e2, ⟨r, rfl⟩, e3⟩, e3, e4⟩⟩
theorem stepG_dst {o : Oper} (k : stepG P ops o K T h) : stepG P ops o (fun T2 h2 => K T2 h2 ∧ (∃ v, T2 = putA T o.dst v) ∧ ResK h h2) T h :=
  guardG_mono k runA_dst fun k => ⟨k, ⟨_, rfl⟩, .refl⟩
theorem single_upto {id : Nat} {ob : Ob} (hi : h[id]? = some .res) : Upto (fun i => if i = id then ob else .res) h.length := fun i hi' => by
  have := (List.getElem?_eq_some_iff.1 hi).1
  exact if_neg (by omega)
theorem fill_one {φ : Nat → Ob} {id : Nat} {ob : Ob} (hi : h[id]? = some .res) (ho : ob.isRes = false) : fill (fun i => if i = id then ob else φ i) h = fill φ (h.set id ob) := by
  apply List.ext_getElem?
  intro j
  rw [fill_get, fill_get]
  by_cases hj : id = j
  · subst hj
    rw [hi, List.getElem?_set_self (List.getElem?_eq_some_iff.1 hi).1]
    simp only [Option.map_some, fillO]
    rw [if_pos (show (Ob.res).isRes = true from rfl), if_pos trivial, if_neg (by rw [ho]; simp)]
  · rw [List.getElem?_set_ne hj]
    cases h[j]? with
    | none => rfl
    | some o => simp [fillO, show j ≠ id from fun e => hj e.symm]
theorem fill_single {id : Nat} {ob : Ob} (hi : h[id]? = some .res) (ho : ob.isRes = false) : fill (fun i => if i = id then ob else .res) h = h.set id ob := by
  rw [fill_one (φ := fun _ => .res) hi ho, fill_none]
theorem evalOp_at {id : Nat} {ob : Ob} {op : Op} {x : AV} {h' : List Ob} (hx : evalOp P T h op = some (x, h')) (hi : h[id]? = some .res) (ho : ob.isRes = false) : evalOp P T (h.set id ob) op = some (x, h'.set id ob) ∧ ResK h h' := by
  obtain ⟨q1, q2⟩ := evalOp_fill (single_upto (ob := ob) hi) op hx
  rw [fill_single hi ho, fill_single (q2 id hi) ho] at q1
  exact ⟨q1, q2⟩
theorem valG_at {o : Oper} {id : Nat} {ob : Ob} {v : AV} (hx : valG P ops T h o = some v) (hi : h[id]? = some .res) (ho : ob.isRes = false) : valG P ops T (h.set id ob) o = some v := by
  have key : ∀ v, (evalOp P T h o.op).map (·.1) = some v → (evalOp P T (h.set id ob) o.op).map (·.1) = some v := fun v hv => by
    cases he : evalOp P T h o.op with
    | none => rw [he] at hv; cases hv
    | some q =>
      obtain ⟨y, h'⟩ := q
      rw [he] at hv
      rw [(evalOp_at he hi ho).1]
      exact hv
  unfold valG at *
  cases hg : o.guard with
  | none => simp only [hg] at hx ⊢; exact key v hx
  | some q =>
    obtain ⟨j, want⟩ := q
    simp only [hg] at hx ⊢
    cases hd : (ops[j]?).bind (·.dst) with
    | none => simp only [hd] at hx; cases hx
    | some d =>
      simp only [hd] at hx ⊢
      split at hx
      · split at hx
        · rename_i hb; rw [if_pos hb]; exact key v hx
        · rename_i hb; rw [if_neg hb]; exact hx
      · exact hx
      · cases hx
theorem resK_at {id : Nat} {ob : Ob} {h' : List Ob} (k : ResK h h') : ResK (h.set id ob) (h'.set id ob) ∨ (h.set id ob)[id]? = some .res := by
  by_cases hr : (h.set id ob)[id]? = some .res
  · exact .inr hr
  · refine .inl fun j hj => ?_
    by_cases e : id = j
    · subst e; exact absurd hj hr
    · rw [List.getElem?_set_ne e] at hj ⊢; exact k j hj
/-- A call does not look at what was nothing yet. -/
theorem acalls_at {f : FuncId} {as : List AV} {R : AV → List Ob → Prop} {id : Nat} {ob : Ob} (c : ACalls P f as h R) (hi : h[id]? = some .res) (ho : ob.isRes = false) : ACalls P f as (h.set id ob) fun r h'' => ∃ h', h'' = h'.set id ob ∧ R r h' ∧ ResK h h' := by
  have hlt := (List.getElem?_eq_some_iff.1 hi).1
  have hne : (h.set id ob)[id]? ≠ some .res := fun e => by
    rw [List.getElem?_set_self hlt] at e; injection e with e; subst e; cases ho
  have hrk : ∀ h', ResK h h' → ResK (h.set id ob) (h'.set id ob) := fun h' k => by
    rcases resK_at (id := id) (ob := ob) k with k | k
    · exact k
    · exact absurd k hne
  obtain ⟨c1, ⟨r, h', c2, c3⟩, c4⟩ := c
  refine ⟨c1, ⟨r, h'.set id ob, ⟨h', rfl, c2, c3⟩, hrk h' c3⟩, fun φ hu B w g vs q1 q2 q3 => ?_⟩
  have hu' : Upto (fun i => if i = id then ob else φ i) h.length := fun i hi' => by
    have : i ≠ id := by omega
    simp only [if_neg this]
    exact hu i (by simpa using hi')
  rw [← fill_one hi ho] at q1 q3
  refine (c4 _ hu' B w g vs q1 q2 q3).mono fun e w' ⟨v, r, h', g', e1, e2, e3, e4, e5⟩ => ?_
  rw [fill_one hi ho, fill_one (e3 id hi) ho] at e4
  rw [fill_one (e3 id hi) ho] at e5
  exact ⟨v, r, h'.set id ob, g', e1, ⟨h', rfl, e2, e3⟩, hrk h' e3, e4, e5⟩
theorem runA_at {o : Oper} {id : Nat} {ob : Ob} (k : runA P T h o K) (hi : h[id]? = some .res) (ho : ob.isRes = false) : runA P T (h.set id ob) o fun T2 h2 => ∃ h', h2 = h'.set id ob ∧ K T2 h' ∧ (∃ v, T2 = putA T o.dst v) ∧ ResK h h' := by
  have k := runA_dst k
  unfold runA at k ⊢
  split at k
  · rename_i x h' hx
    rw [(evalOp_at hx hi ho).1]
    exact ⟨h', rfl, k⟩
  · rename_i hx
    split at k
    · rename_i c hc
      have hno : evalOp P T (h.set id ob) o.op = none := by
        rw [hc] at hx ⊢
        split at k
        · rename_i f as ht
          obtain ⟨callee, args, tys⟩ := c
          unfold targetA at ht
          split at ht
          · rename_i X hX; simp only at hX; subst hX; rfl
          · cases ht
        · exact k.elim
      rw [hno]
      simp only
      split at k
      · rename_i f as ht
        exact (acalls_at k hi ho).mono fun r h'' ⟨h', e1, ⟨e2, e3, e4⟩, _⟩ => ⟨h', e1, e2, e3, e4⟩
      · exact k.elim
    · exact k.elim

theorem aside_xy (ha : aside ops x y = true) : (∀ d, x.dst = some d → looks ops y d = false ∧ y.dst ≠ some d) ∧ (∀ d, y.dst = some d → looks ops x d = false ∧ x.dst ≠ some d) := by
  simp only [aside, Bool.and_eq_true] at ha
  have h1 : ∀ d, x.dst = some d → looks ops y d = false ∧ y.dst ≠ some d := fun d hd => by
    have := ha.1
    rw [hd] at this
    simpa using this
  refine ⟨h1, fun d hd => ⟨?_, fun hx => (h1 d hx).2 hd⟩⟩
  have := ha.2
  rw [hd] at this
  simpa using this
theorem untouched_put {l : Nat} {a : Oper} (hl : ops[l]? = some a) (hp : ops[p.1]? = some x) (hu : untouched ops l p.1 = true) : (∀ d, x.dst = some d → looks ops a d = false) ∧ (∀ d, x.dst = some d → a.dst ≠ some d) := by
  unfold untouched at hu
  rw [hl, hp] at hu
  simp only at hu
  refine ⟨fun d hd => ?_, fun d hd => ?_⟩ <;> (rw [hd] at hu; simp at hu)
  · exact hu.1
  · exact hu.2
theorem putA_other {d : Nat} {v : AV} (hd : x.dst ≠ some d) : putA T x.dst v d = T d := by
  cases hx : x.dst with
  | none => rfl
  | some e => simp only [putA, upd]; rw [if_neg]; intro h; exact hd (by rw [hx, h])
theorem again_put {l : Nat} {v : AV} (hp : ops[p.1]? = some x) (hu : untouched ops l p.1 = true) : againA P ops (putA T x.dst v) h l ↔ againA P ops T h l := by
  unfold againA
  cases hl : ops[l]? with
  | none => simp
  | some a =>
    simp only
    obtain ⟨u1, u2⟩ := untouched_put hl hp hu
    cases ha : a.dst with
    | none => simp
    | some d =>
      simp only
      rw [valG_put u1, putA_other fun e => u2 d e ha]
theorem again_at {l id : Nat} {ob : Ob} (k : againA P ops T h l) (hi : h[id]? = some .res) (ho : ob.isRes = false) : againA P ops T (h.set id ob) l := by
  unfold againA at *
  cases hl : ops[l]? with
  | none => rw [hl] at k; exact k
  | some a =>
    rw [hl] at k
    simp only at k ⊢
    cases ha : a.dst with
    | none => rw [ha] at k; exact k
    | some d => rw [ha] at k; exact valG_at k hi ho
theorem stepE_q {o : Oper} (hc : cls o.op ≠ 3) : stepE P ops b q o K T h = stepG P ops o (fun T h => againAll P ops T h q.2.2 ∧ K T h) T h := if_neg hc
theorem stepE_a {o : Oper} (hc : cls o.op = 3) : stepE P ops b q o K T h = stepAt P ops (b + q.2.1) o K T h := if_pos hc
theorem stepE_quiet {o : Oper} (hc : cls o.op ≤ 1) (he : q.2.2 = []) : stepE P ops b q o K T h ↔ ∃ x, valG P ops T h o = some x ∧ K (putA T o.dst x) h := by
  rw [stepE_q (by omega), he]
  simp only [againAll, true_and]
  exact quiet_step hc
theorem runAt_dst {id : Nat} {o : Oper} (k : runAt P id o K T h) : runAt P id o (fun T2 h2 => K T2 h2 ∧ (∃ v, T2 = putA T o.dst v) ∧ ∀ j, j ≠ id → h[j]? = some .res → h2[j]? = some .res) T h := by
  unfold runAt at *
  split
  · rename_i ob mk hx
    rw [hx] at k
    exact ⟨k.1, k.2, ⟨_, rfl⟩, fun j hj hr => by rw [List.getElem?_set_ne (fun e => hj e.symm)]; exact hr⟩
  · rename_i hx; rw [hx] at k; exact k
/-- What stands behind a step, and what is known of it. -/
theorem stepE_mono {o : Oper} (k : stepE P ops b q o K T h) (hk : ∀ T' h', (∀ j, (cls o.op = 3 → j ≠ b + q.2.1) → h[j]? = some .res → h'[j]? = some .res) → K T' h' → K' T' h') : stepE P ops b q o K' T h := by
  by_cases hc : cls o.op = 3
  · rw [stepE_a hc] at k ⊢
    refine guardG_mono k (fun k => runAt_mono (runAt_dst k) fun T2 h2 ⟨k, _, hr⟩ => hk _ _ (fun j hj => hr j (hj hc)) k) (hk _ _ fun j _ hr => hr)
  · rw [stepE_q hc] at k ⊢
    exact stepG_mono (stepG_dst k) fun T2 h2 ⟨⟨k1, k2⟩, _, hr⟩ => ⟨k1, hk _ _ (fun j _ => hr j) k2⟩
/-- What makes a block, said at once. -/
def effA (P : Program) (ops : Array Oper) (T : Env) (o : Oper) : Option (Option (Ob × (Nat → AV))) := match o.guard with
  | none => (allocA P T o.op).map some
  | some (j, want) => match (ops[j]?).bind (·.dst) with
    | some d => match T d with
      | .v (.bool b) => if b = want then (allocA P T o.op).map some else some none
      | .v (.tuple _) => some none
      | _ => none
    | none => none
theorem stepAt_eff {id : Nat} {o : Oper} : stepAt P ops id o K T h ↔ match effA P ops T o with
    | some (some (ob, mk)) => h[id]? = some .res ∧ K (putA T o.dst (mk id)) (h.set id ob)
    | some none => K (putA T o.dst (.v undef)) h
    | none => False := by
  unfold stepAt guardG effA runAt
  cases o.guard with
  | none => cases allocA P T o.op <;> simp
  | some q =>
    obtain ⟨j, want⟩ := q
    simp only []
    cases (ops[j]?).bind (·.dst) with
    | none => simp
    | some d =>
      simp only []
      generalize T d = td
      split
      · rename_i b
        by_cases hb : b = want
        · subst hb
          cases allocA P T o.op <;> simp
        · simp [hb]
      · simp
      · rename_i n1 n2
        split
        · rename_i heq
          split at heq
          · exact absurd rfl (n1 _)
          · cases heq
          · cases heq
        · rename_i heq
          split at heq
          · exact absurd rfl (n1 _)
          · exact absurd rfl (n2 _)
          · cases heq
        · rfl
theorem effA_upd {o : Oper} {d : Nat} {v : AV} (hl : looks ops o d = false) : effA P ops (upd T d v) o = effA P ops T o := by
  unfold looks at hl
  rw [Bool.or_eq_false_iff] at hl
  unfold effA
  cases hg : o.guard with
  | none => simp only [allocA_upd o.op hl.1]
  | some q =>
    obtain ⟨j, want⟩ := q
    rw [hg] at hl
    simp only []
    cases hj : (ops[j]?).bind (·.dst) with
    | none => rfl
    | some e =>
      have hne : e ≠ d := fun h => by
        have := hl.2
        simp [hj, h] at this
      have hT : upd T d v e = T e := by simp [upd, hne]
      simp only [hT, allocA_upd o.op hl.1]
theorem effA_put {o z : Oper} {v : AV} (hl : ∀ d, z.dst = some d → looks ops o d = false) : effA P ops (putA T z.dst v) o = effA P ops T o := by
  cases hd : z.dst with
  | none => rfl
  | some d => exact effA_upd (hl d hd)
theorem effA_live {o : Oper} {ob : Ob} {mk : Nat → AV} (he : effA P ops T o = some (some (ob, mk))) : ob.isRes = false := by
  have key : (allocA P T o.op).map some = some (some (ob, mk)) → ob.isRes = false := fun h => by
    cases ha : allocA P T o.op with
    | none => rw [ha] at h; cases h
    | some q => rw [ha] at h; injection h with h; injection h with h; subst h; exact allocA_live ha
  unfold effA at he
  split at he
  · exact key he
  · split at he
    · split at he
      · split at he
        · exact key he
        · injection he with he; cases he
      · injection he with he; cases he
      · cases he
    · cases he
/-- Something stands behind each step. -/
theorem runA_some {o : Oper} (k : runA P T h o K) : ∃ v h', K (putA T o.dst v) h' ∧ ResK h h' := by
  unfold runA at k
  split at k
  · rename_i x h' hx; exact ⟨x, h', k, (evalOp_fill (φ := fun _ => .res) (fun _ _ => rfl) _ hx).2⟩
  · split at k
    · split at k
      · obtain ⟨_, ⟨r, h', k2, k3⟩, _⟩ := k; exact ⟨r, h', k2, k3⟩
      · exact k.elim
    · exact k.elim
theorem stepG_some {o : Oper} (k : stepG P ops o K T h) : ∃ v h', K (putA T o.dst v) h' ∧ ResK h h' := by
  unfold stepG guardG at k
  split at k
  · exact runA_some k
  · rename_i j want hg
    split at k
    · split at k
      · rename_i b _
        by_cases hb : b = want
        · exact runA_some (k.1 hb)
        · exact ⟨_, h, k.2 hb, .refl⟩
      · exact ⟨_, h, k, .refl⟩
      · exact k.elim
    · exact k.elim
theorem runA_at2 {o : Oper} {id : Nat} {ob : Ob} (k : runA P T h o K) (hi : h[id]? = some .res) (ho : ob.isRes = false) (hk : ∀ v h', ResK h h' → K (putA T o.dst v) h' → K' (putA T o.dst v) (h'.set id ob)) : runA P T (h.set id ob) o K' :=
  runA_mono (runA_at k hi ho) fun T2 h2 ⟨h', e1, e2, ⟨v, e3⟩, e4⟩ => by subst e1 e3; exact hk v h' e4 e2
theorem keysOk_cons {kk : IntKind} {e : AV × AV} {r : List (AV × AV)} : keysOk kk (e :: r) = true ↔ e.1 = .v (.int kk (keyI e)) ∧ keysOk kk r = true := by
  rw [keysOk_iff, keysOk_iff]
  refine ⟨fun h => ⟨h e (by simp), fun q hq => h q (by simp [hq])⟩, fun h q hq => ?_⟩
  rcases List.mem_cons.1 hq with rfl | hq
  · exact h.1
  · exact h.2 q hq
section
variable {kk : IntKind} {n n' : Int} {v v' : AV}
theorem hasKey_ord (hne : n ≠ n') : ∀ (es : List (AV × AV)), hasKey n' (ordIns kk n v es) = hasKey n' es
  | [] => by simp [ordIns, hasKey, keyI, hne]
  | e :: r => by
    unfold ordIns
    split
    · simp [hasKey, keyI, hne]
    · simp [hasKey, hasKey_ord hne r]
theorem hasKey_rep (hne : n ≠ n') : ∀ (es : List (AV × AV)), hasKey n' (repKey kk n v es) = hasKey n' es
  | [] => rfl
  | e :: r => by
    unfold repKey
    split
    · rename_i h
      have k1 : keyI (.v (.int kk n), v) = n := rfl
      simp [hasKey, k1, hasKey_rep hne r, h]
    · simp [hasKey, hasKey_rep hne r]
theorem rep_rep (hne : n ≠ n') : ∀ (es : List (AV × AV)), repKey kk n v (repKey kk n' v' es) = repKey kk n' v' (repKey kk n v es)
  | [] => rfl
  | e :: r => by
    have k1 : keyI (.v (.int kk n), v) = n := rfl
    have k2 : keyI (.v (.int kk n'), v') = n' := rfl
    have ih := rep_rep hne r
    by_cases h1 : keyI e = n
    · simp [repKey, h1, hne, k1, ih]
    · by_cases h2 : keyI e = n'
      · simp [repKey, h2, show n' ≠ n from fun e => hne e.symm, k2, ih]
      · simp [repKey, h1, h2, ih]
theorem rep_ord (hne : n ≠ n') : ∀ (es : List (AV × AV)), repKey kk n v (ordIns kk n' v' es) = ordIns kk n' v' (repKey kk n v es)
  | [] => by
    have k2 : keyI (.v (.int kk n'), v') = n' := rfl
    simp [repKey, ordIns, k2, show n' ≠ n from fun e => hne e.symm]
  | e :: r => by
    have k1 : keyI (.v (.int kk n), v) = n := rfl
    have k2 : keyI (.v (.int kk n'), v') = n' := rfl
    have ih := rep_ord hne r
    by_cases h1 : keyI e = n
    · by_cases h3 : n' < n
      · simp [repKey, ordIns, h1, k1, k2, h3, show n' ≠ n from fun e => hne e.symm]
      · simp [repKey, ordIns, h1, k1, h3, ih]
    · by_cases h3 : n' < keyI e
      · simp [repKey, ordIns, h1, k2, h3, show n' ≠ n from fun e => hne e.symm]
      · simp [repKey, ordIns, h1, h3, ih]
theorem keysOk_ord : ∀ {es : List (AV × AV)}, keysOk kk (ordIns kk n v es) = keysOk kk es := by
  intro es
  rw [Bool.eq_iff_iff, keysOk_iff, keysOk_iff]
  constructor
  · exact fun h q hq => h q ((ordIns_perm es).mem_iff.2 (by simp [hq]))
  · intro h q hq
    rcases List.mem_cons.1 ((ordIns_perm es).mem_iff.1 hq) with rfl | hq
    · rfl
    · exact h q hq
theorem keysOk_rep {es : List (AV × AV)} (h : keysOk kk es = true) : keysOk kk (repKey kk n v es) = true := by
  rw [keysOk_iff] at h ⊢
  intro q hq
  rw [repKey_map, List.mem_map] at hq
  obtain ⟨q', h1, h2⟩ := hq
  by_cases hk : keyI q' = n
  · rw [if_pos hk] at h2; subst h2; rfl
  · rw [if_neg hk] at h2; subst h2; exact h _ h1
theorem insA_comm {es es1 es2 : List (AV × AV)} (hne : n ≠ n') (h1 : insA kk n v es = some es1) (h2 : insA kk n' v' es1 = some es2) : ∃ b, insA kk n' v' es = some b ∧ insA kk n v b = some es2 := by
  unfold insA at h1
  split at h1
  case isFalse => cases h1
  rename_i hk
  injection h1 with h1
  have hk1 : keysOk kk es1 = true := by
    unfold insA at h2
    split at h2
    · assumption
    · cases h2
  have hne' : n' ≠ n := fun e => hne e.symm
  refine ⟨_, by unfold insA; rw [if_pos hk], ?_⟩
  unfold insA at h2 ⊢
  rw [if_pos hk1] at h2
  have hkb : keysOk kk (if hasKey n' es = true then repKey kk n' v' es else ordIns kk n' v' es) = true := by
    split
    · exact keysOk_rep hk
    · rw [keysOk_ord]; exact hk
  rw [if_pos hkb, ← h2, ← h1]
  congr 1
  by_cases a : hasKey n es = true <;> by_cases c : hasKey n' es = true
  · simp only [a, c, if_true, hasKey_rep hne, hasKey_rep hne', rep_rep hne]
  · simp only [a, c, if_true, if_false, Bool.false_eq_true, hasKey_rep hne, hasKey_ord hne', rep_ord hne]
  · simp only [a, c, if_true, if_false, Bool.false_eq_true, hasKey_ord hne, hasKey_rep hne', rep_ord hne']
  · simp only [a, c, if_false, Bool.false_eq_true, hasKey_ord hne, hasKey_ord hne', ordIns_comm hne]
end
theorem evalOp_ins {t : TypeId} {a : Tmp} {kk : IntKind} {n : Int} {v : Operand} {u : AV} {h' : List Ob} (hx : evalOp P T h (.insert t (.tmp a) (.const (.int kk n)) v) = some (u, h')) :
    ∃ id es es', T a = .mp id ∧ h[id]? = some (.mapo es) ∧ insA kk n (ev T v) es = some es' ∧ u = .v undef ∧ h' = h.set id (.mapo es') ∧
      ∀ h2 e2 e3 v2 n2, h2[id]? = some (.mapo e2) → insA kk n2 (ev T v2) e2 = some e3 → evalOp P T h2 (.insert t (.tmp a) (.const (.int kk n2)) v2) = some (.v undef, h2.set id (.mapo e3)) := by
  simp only [evalOp, show ev T (.tmp a) = T a from rfl, show ev T (.const (.int kk n)) = .v (.int kk n) from rfl] at hx
  split at hx
  · rename_i kt et id kk' n' hk hm hkey
    injection hkey with hkey
    injection hkey with hk1 hk2
    subst hk1 hk2
    split at hx
    · rename_i kk2 es hkk ho
      split at hx
      · rename_i heq
        subst heq
        cases hi : insA kk2 n (ev T v) es with
        | none => rw [hi] at hx; cases hx
        | some es' =>
          rw [hi] at hx
          injection hx with hx; injection hx with hx1 hx2; subst hx1 hx2
          refine ⟨id, es, es', hm, ho, hi, rfl, rfl, fun h2 e2 e3 v2 n2 q1 q2 => ?_⟩
          simp only [evalOp, show ev T (.tmp a) = T a from rfl, show ev T (.const (.int kk2 n2)) = .v (.int kk2 n2) from rfl, hk, hm, hkk, q1, if_true, q2]
          rfl
      · cases hx
    · cases hx
  · cases hx
theorem swap_ins (hins : insPair x y = true) (ha : aside ops x y = true) (hp0 : p.2.2 = []) (hq0 : q.2.2 = []) (k : stepE P ops b p x (stepE P ops b q y K) T h) : stepE P ops b (q.1, q.2.1, []) y (stepE P ops b p x K) T h := by
  obtain ⟨hxy, hyx⟩ := aside_xy ha
  obtain ⟨xd, xop, xt, xp, xa, xg⟩ := x
  obtain ⟨yd, yop, yt, yp, ya, yg⟩ := y
  unfold insPair at hins
  simp only at hins
  split at hins
  case h_2 => cases hins
  rename_i t m k1 n v t' m' k2 n' v'
  simp only [Bool.and_eq_true, beq_iff_eq, bne_iff_ne, ne_eq] at hins
  obtain ⟨⟨⟨⟨⟨hm, ht⟩, hk⟩, hn⟩, hg1⟩, hg2⟩ := hins
  subst ht hk
  split at hm
  case h_2 => cases hm
  rename_i a a'
  have hm : a = a' := by simpa using hm
  subst hm
  have hg1 : xg = none := by cases xg <;> simp_all
  have hg2 : yg = none := by cases yg <;> simp_all
  subst hg1 hg2
  have c3 : ∀ z w, cls (.insert t (.tmp a) z w) ≠ 3 := fun z w => by simp [cls]
  have hstep : ∀ (q : Ent) (o : Oper) (K : Env → List Ob → Prop) (T : Env) (h : List Ob) (z w : Operand), q.2.2 = [] → o.op = .insert t (.tmp a) z w → o.guard = none → (stepE P ops b q o K T h ↔ ∃ u h', evalOp P T h o.op = some (u, h') ∧ K (putA T o.dst u) h') := fun q o K T h z w hq ho hg => by
    rw [stepE_q (by rw [ho]; exact c3 z w), hq]
    simp only [againAll, true_and, stepG, guardG, hg, runO, runA]
    cases he : evalOp P T h o.op with
    | none => simp [ho]
    | some r => obtain ⟨u, h'⟩ := r; simp only [Option.some.injEq, Prod.mk.injEq]; exact ⟨fun k => ⟨u, h', ⟨rfl, rfl⟩, k⟩, fun ⟨_, _, ⟨e1, e2⟩, k⟩ => by subst e1 e2; exact k⟩
  rw [hstep p _ _ T h _ _ hp0 rfl rfl] at k
  obtain ⟨u, h1, e1, k⟩ := k
  rw [hstep q _ _ _ h1 _ _ hq0 rfl rfl] at k
  obtain ⟨u', h2, e2, k⟩ := k
  have hy : ∀ u h, evalOp P (putA T xd u) h (.insert t (.tmp a) (.const (.int k1 n')) v') = evalOp P T h (.insert t (.tmp a) (.const (.int k1 n')) v') := fun u h => by
    cases hd : xd with
    | none => rfl
    | some d =>
      have := (hxy d hd).1
      unfold looks at this
      rw [Bool.or_eq_false_iff] at this
      exact evalOp_upd _ this.1
  have hx : ∀ u h, evalOp P (putA T yd u) h (.insert t (.tmp a) (.const (.int k1 n)) v) = evalOp P T h (.insert t (.tmp a) (.const (.int k1 n)) v) := fun u h => by
    cases hd : yd with
    | none => rfl
    | some d =>
      have := (hyx d hd).1
      unfold looks at this
      rw [Bool.or_eq_false_iff] at this
      exact evalOp_upd _ this.1
  simp only at e1 e2
  rw [hy] at e2
  obtain ⟨id, es, es1, m1, m2, m3, m4, m5, m6⟩ := evalOp_ins e1
  obtain ⟨id', es', es2, o1, o2, o3, o4, o5, o6⟩ := evalOp_ins e2
  rw [m1] at o1
  injection o1 with o1
  subst o1 m4 o4 m5
  rw [List.getElem?_set_self (get_lt m2)] at o2
  injection o2 with o2
  injection o2 with o2
  subst o2
  obtain ⟨eb, i1, i2⟩ := insA_comm hn m3 o3
  rw [hstep (q.1, q.2.1, []) _ _ T h _ _ rfl rfl rfl]
  refine ⟨.v undef, _, m6 h es eb v' n' m2 i1, ?_⟩
  rw [hstep p _ _ _ _ _ _ hp0 rfl rfl]
  simp only
  rw [hx]
  refine ⟨.v undef, _, m6 _ eb es2 v n (by rw [List.getElem?_set_self (get_lt m2)]) i2, ?_⟩
  rw [List.set_set]
  subst o5
  rw [List.set_set] at k
  have hpp : putA (putA T xd (.v undef)) yd (.v undef) = putA (putA T yd (.v undef)) xd (.v undef) := put_put (x := ⟨xd, .insert t (.tmp a) (.const (.int k1 n)) v, xt, xp, xa, none⟩) (y := ⟨yd, .insert t (.tmp a) (.const (.int k1 n')) v', yt, yp, ya, none⟩) fun d hd => (hxy d hd).2
  simp only at k
  rw [hpp] at k
  exact k
theorem allocA_nomap {op : Op} {mk : Nat → AV} {ob : Ob} (hx : allocA P T op = some (ob, mk)) (hop : noMap op = true) : ∀ es, ob ≠ .mapo es := by
  intro es e
  subst e
  cases op <;> simp only [noMap] at hop <;> first
    | cases hop; done
    | skip
  all_goals
    simp only [allocA] at hx
    repeat' split at hx
  all_goals first
    | cases hx; done
    | (simp only [Option.map_eq_some_iff, Prod.mk.injEq] at hx; obtain ⟨_, _, h, _⟩ := hx; cases h; done)
theorem effA_nomap {o : Oper} {ob : Ob} {mk : Nat → AV} (he : effA P ops T o = some (some (ob, mk))) (hop : noMap o.op = true) : ∀ es, ob ≠ .mapo es := by
  have key : (allocA P T o.op).map some = some (some (ob, mk)) → ∀ es, ob ≠ .mapo es := fun h => by
    cases ha : allocA P T o.op with
    | none => rw [ha] at h; cases h
    | some q => rw [ha] at h; injection h with h; injection h with h; subst h; exact allocA_nomap ha hop
  unfold effA at he
  split at he
  · exact key he
  · split at he
    · split at he
      · split at he
        · exact key he
        · injection he with he; cases he
      · injection he with he; cases he
      · cases he
    · cases he
theorem insert_at {id : Nat} {ob : Ob} {t : TypeId} {m k v : Operand} {u : AV} {h2 : List Ob} (hno : ∀ es, ob ≠ .mapo es) (hx : evalOp P T (h.set id ob) (.insert t m k v) = some (u, h2)) (hi : h[id]? = some .res) :
    ∃ h', evalOp P T h (.insert t m k v) = some (u, h') ∧ h2 = h'.set id ob ∧ h'[id]? = some .res := by
  simp only [evalOp] at hx ⊢
  split at hx
  · rename_i kt et idm kk n hk hm hkey
    split at hx
    · rename_i kk' es hkk ho
      have hne : id ≠ idm := fun e => by
        subst e
        rw [List.getElem?_set_self (List.getElem?_eq_some_iff.1 hi).1] at ho
        injection ho with ho
        exact hno es ho
      rw [List.getElem?_set_ne hne] at ho
      split at hx
      · rename_i heq
        simp only [hkk, ho, if_pos heq]
        cases hin : insA kk' n (ev T v) es with
        | none => subst heq; rw [hin] at hx; cases hx
        | some es' =>
          subst heq
          rw [hin] at hx
          injection hx with hx; injection hx with hx1 hx2; subst hx1 hx2
          refine ⟨_, by rw [hin]; rfl, by rw [List.set_comm _ _ hne], by rw [List.getElem?_set_ne (fun e => hne e.symm)]; exact hi⟩
      · cases hx
    · cases hx
  · cases hx
theorem swap_alins (hal : alIns x y = true) (ha : aside ops x y = true) (hp0 : p.2.2 = []) (hq0 : q.2.2 = []) (k : stepE P ops b p x (stepE P ops b q y K) T h) : stepE P ops b (q.1, q.2.1, []) y (stepE P ops b p x K) T h := by
  obtain ⟨hxy, hyx⟩ := aside_xy ha
  simp only [alIns, Bool.and_eq_true] at hal
  obtain ⟨⟨hx, hy⟩, hg⟩ := hal
  have hcx : cls x.op = 3 := by
    generalize x.op = op at hx
    cases op <;> simp only [noMap] at hx <;> first
      | rfl
      | cases hx
  obtain ⟨yd, yop, yt, yp, ya, yg⟩ := y
  simp only at hy hg
  have hg : yg = none := by cases yg <;> simp_all
  subst hg
  cases yop <;> simp only [isIns] at hy <;> first
    | cases hy; done
    | skip
  rename_i t m kk v
  have hcy : cls (.insert t m kk v) ≠ 3 := by simp [cls]
  have hstep : ∀ (q : Ent) (K : Env → List Ob → Prop) (T : Env) (h : List Ob), q.2.2 = [] → (stepE P ops b q ⟨yd, .insert t m kk v, yt, yp, ya, none⟩ K T h ↔ ∃ u h', evalOp P T h (.insert t m kk v) = some (u, h') ∧ K (putA T yd u) h') := fun q K T h hq => by
    rw [stepE_q hcy, hq]
    simp only [againAll, true_and, stepG, guardG, runO, runA]
    cases he : evalOp P T h (.insert t m kk v) with
    | none => simp
    | some r => obtain ⟨u, h'⟩ := r; simp only [Option.some.injEq, Prod.mk.injEq]; exact ⟨fun k => ⟨u, h', ⟨rfl, rfl⟩, k⟩, fun ⟨_, _, ⟨e1, e2⟩, k⟩ => by subst e1 e2; exact k⟩
  have hyput : ∀ w h, evalOp P (putA T x.dst w) h (.insert t m kk v) = evalOp P T h (.insert t m kk v) := fun w h => by
    cases hd : x.dst with
    | none => rfl
    | some d =>
      have := (hxy d hd).1
      unfold looks at this
      rw [Bool.or_eq_false_iff] at this
      exact evalOp_upd _ this.1
  have hpp : ∀ u w, putA (putA T x.dst u) yd w = putA (putA T yd w) x.dst u := fun u w => put_put (y := ⟨yd, .insert t m kk v, yt, yp, ya, none⟩) fun d hd => (hxy d hd).2
  have hef : ∀ w, effA P ops (putA T yd w) x = effA P ops T x := fun w => effA_put (z := ⟨yd, .insert t m kk v, yt, yp, ya, none⟩) fun d hd => (hyx d hd).1
  rw [stepE_a hcx, stepAt_eff] at k
  rw [hstep _ _ T h rfl]
  cases hex : effA P ops T x with
  | none => rw [hex] at k; exact k.elim
  | some ex =>
    rw [hex] at k
    cases ex with
    | none =>
      simp only at k
      rw [hstep _ _ _ _ hq0] at k
      obtain ⟨u, h', e1, k⟩ := k
      rw [hyput] at e1
      refine ⟨u, h', e1, ?_⟩
      rw [stepE_a hcx, stepAt_eff, hef, hex]
      simp only
      rw [← hpp]
      exact k
    | some ox =>
      obtain ⟨ob, mk⟩ := ox
      simp only at k
      obtain ⟨k1, k2⟩ := k
      rw [hstep _ _ _ _ hq0] at k2
      obtain ⟨u, h', e1, k2⟩ := k2
      rw [hyput] at e1
      obtain ⟨h2, q1, q2, q3⟩ := insert_at (effA_nomap hex hx) e1 k1
      refine ⟨u, h2, q1, ?_⟩
      rw [stepE_a hcx, stepAt_eff, hef, hex]
      simp only
      rw [← hpp]
      subst q2
      exact ⟨q3, k2⟩
/-- Two operations of a list that do not touch each other may change places. -/
theorem swapE {l2 : List Nat} (hpx : ops[p.1]? = some x) (hs : swapOk ops p q x y = true) (hp : cls x.op ≠ 2 → p.2.2 = []) (hq : cls y.op ≠ 2 → q.2.2 = []) (hqy : ops[q.1]? = some y)
    (hl2 : ∀ l ∈ l2, l ∈ q.2.2 ∧ untouched ops l p.1 = true) (hpq : ∀ l ∈ p.2.2, untouched ops l q.1 = true) (hal : ∀ l, l ∈ q.2.2 → l ∉ l2 → l = p.1)
    (hr : cls y.op = 3 → h[b + q.2.1]? = some .res) (hne : cls x.op = 3 → cls y.op = 3 → p.2.1 ≠ q.2.1) (hself : p.1 ∈ q.2.2 → ∀ d, x.dst = some d → looks ops x d = false)
    (k : stepE P ops b p x (stepE P ops b q y K) T h) : stepE P ops b (q.1, q.2.1, l2) y (stepE P ops b p x K) T h := by
  simp only [swapOk, Bool.and_eq_true, Bool.or_eq_true, beq_iff_eq, bne_iff_ne, ne_eq, decide_eq_true_eq] at hs
  obtain ⟨ha, hs⟩ := hs
  obtain ⟨hxy, hyx⟩ := aside_xy ha
  -- what makes a block changes its place with whatever
  have caseC : cls y.op = 3 → stepE P ops b (q.1, q.2.1, l2) y (stepE P ops b p x K) T h := fun hy => by
    have hi := hr hy
    rw [stepE_a hy, stepAt_eff]
    have hyput : ∀ v h', stepE P ops b q y K (putA T x.dst v) h' ↔ match effA P ops T y with
        | some (some (ob, mk)) => h'[b + q.2.1]? = some .res ∧ K (putA (putA T x.dst v) y.dst (mk (b + q.2.1))) (h'.set (b + q.2.1) ob)
        | some none => K (putA (putA T x.dst v) y.dst (.v undef)) h'
        | none => False := fun v h' => by
      rw [stepE_a hy, stepAt_eff, effA_put (fun d hd => (hxy d hd).1)]
    have hpp : ∀ u v, putA (putA T x.dst u) y.dst v = putA (putA T y.dst v) x.dst u := fun u v => put_put fun d hd => (hxy d hd).2
    have hlook : ∀ d, y.dst = some d → looks ops x d = false := fun d hd => (hyx d hd).1
    by_cases hx : cls x.op = 3
    · rw [stepE_a hx, stepAt_eff] at k
      have hef : effA P ops (putA T y.dst (.v undef)) x = effA P ops T x ∧ ∀ v, effA P ops (putA T y.dst v) x = effA P ops T x := ⟨effA_put hlook, fun v => effA_put hlook⟩
      cases hex : effA P ops T x with
      | none => rw [hex] at k; exact k.elim
      | some ex =>
        rw [hex] at k
        have hnei : b + p.2.1 ≠ b + q.2.1 := fun e => hne hx hy (by omega)
        cases ex with
        | none =>
          simp only at k
          rw [hyput] at k
          cases hey : effA P ops T y with
          | none => rw [hey] at k; exact k.elim
          | some ey => cases ey with
            | none => simp only [hey] at k ⊢; rw [stepE_a hx, stepAt_eff, hef.2, hex]; simp only; rw [← hpp]; exact k
            | some oy => obtain ⟨ob, mk⟩ := oy; simp only [hey] at k ⊢; refine ⟨hi, ?_⟩; rw [stepE_a hx, stepAt_eff, hef.2, hex]; simp only; rw [← hpp]; exact k.2
        | some ox =>
          obtain ⟨ox, mx⟩ := ox
          simp only at k
          obtain ⟨k1, k2⟩ := k
          rw [hyput] at k2
          cases hey : effA P ops T y with
          | none => rw [hey] at k2; exact k2.elim
          | some ey => cases ey with
            | none => simp only [hey] at k2 ⊢; rw [stepE_a hx, stepAt_eff, hef.2, hex]; simp only; rw [← hpp]; exact ⟨k1, k2⟩
            | some oy =>
              obtain ⟨ob, mk⟩ := oy
              simp only [hey] at k2 ⊢
              refine ⟨hi, ?_⟩
              rw [stepE_a hx, stepAt_eff, hef.2, hex]
              simp only
              rw [← hpp, List.getElem?_set_ne (fun e => hnei e.symm), List.set_comm _ _ (fun e => hnei e.symm)]
              exact ⟨k1, k2.2⟩
    · rw [stepE_q hx] at k
      obtain ⟨v0, h0, k0, _⟩ := stepG_some k
      have k0 := (hyput v0 h0).1 k0.2
      cases hey : effA P ops T y with
      | none => rw [hey] at k0; exact k0.elim
      | some ey => cases ey with
        | none =>
          simp only
          rw [stepE_q hx]
          have : stepG P ops x (fun T2 h2 => againAll P ops T2 h2 p.2.2 ∧ K (putA T2 y.dst (.v undef)) h2) T h := stepG_mono (stepG_dst k) fun T2 h2 ⟨⟨q1, q2⟩, ⟨v, e⟩, _⟩ => by
            subst e
            refine ⟨q1, ?_⟩
            have := (hyput v h2).1 q2
            rw [hey] at this
            exact this
          have hup : stepG P ops x (fun T2 h2 => againAll P ops T2 h2 p.2.2 ∧ K T2 h2) (putA T y.dst (.v undef)) h := by
            cases hd : y.dst with
            | none =>
              rw [hd] at this
              exact this
            | some d =>
              rw [hd] at this
              show stepG P ops x _ (upd T d (.v undef)) h
              rw [stepG_upd (hyx d hd).1 (hyx d hd).2]
              refine stepG_mono this fun T2 h2 ⟨q1, q2⟩ => ⟨?_, q2⟩
              rw [againAll_iff] at q1 ⊢
              intro l hl
              have := (again_put (P := P) (T := T2) (h := h2) (v := .v undef) (p := q) hqy (hpq l hl)).2 (q1 l hl)
              rw [hd] at this
              exact this
          exact hup
        | some oy =>
          obtain ⟨ob, mk⟩ := oy
          simp only
          refine ⟨hi, ?_⟩
          have hob := effA_live hey
          rw [stepE_q hx]
          -- the step, where the block is there already
          have key : stepG P ops x (fun T2 h2 => againAll P ops T2 h2 p.2.2 ∧ K (putA T2 y.dst (mk (b + q.2.1))) h2) T (h.set (b + q.2.1) ob) := by
            refine guardG_mono2 k (fun k => runA_at2 k hi hob fun v h' hrk ⟨q1, q2⟩ => ?_) fun ⟨q1, q2⟩ => ?_
            · have q2 := (hyput v h').1 q2
              rw [hey] at q2
              refine ⟨?_, q2.2⟩
              rw [againAll_iff] at q1 ⊢
              exact fun l hl => again_at (q1 l hl) (hrk _ hi) hob
            · have q2 := (hyput _ h).1 q2
              rw [hey] at q2
              refine ⟨?_, q2.2⟩
              rw [againAll_iff] at q1 ⊢
              exact fun l hl => again_at (q1 l hl) hi hob
          cases hd : y.dst with
          | none => rw [hd] at key; exact key
          | some d =>
            rw [hd] at key
            show stepG P ops x _ (upd T d (mk (b + q.2.1))) (h.set (b + q.2.1) ob)
            rw [stepG_upd (hyx d hd).1 (hyx d hd).2]
            refine stepG_mono key fun T2 h2 ⟨q1, q2⟩ => ⟨?_, q2⟩
            rw [againAll_iff] at q1 ⊢
            intro l hl
            have := (again_put (P := P) (T := T2) (h := h2) (v := mk (b + q.2.1)) (p := q) hqy (hpq l hl)).2 (q1 l hl)
            rw [hd] at this
            exact this
  rcases hs with (((((⟨hx0, hy3⟩ | ⟨hx1, hy1⟩) | hy3) | ⟨⟨hx1, hy2⟩, hmem⟩) | ⟨⟨hins, hp0⟩, hq0⟩) | ⟨⟨hins, hp0⟩, hq0⟩)
  · -- x is of values alone
    have hxe := hp (by omega)
    rw [stepE_quiet (by omega) hxe] at k
    obtain ⟨vx, h1, h2⟩ := k
    rw [stepE_q hy3] at h2 ⊢
    have h3 : stepG P ops y (fun T2 h2 => againAll P ops T2 h2 l2 ∧ K (putA T2 x.dst vx) h2) T h := by
      cases hd : x.dst with
      | none => rw [hd] at h2; exact stepG_mono h2 fun T2 h2 ⟨q1, q2⟩ => ⟨by rw [againAll_iff] at q1 ⊢; exact fun l hl => q1 l (hl2 l hl).1, q2⟩
      | some d =>
        rw [hd] at h2
        have h2 : stepG P ops y _ (upd T d vx) h := h2
        rw [stepG_upd (hxy d hd).1 (hxy d hd).2] at h2
        refine stepG_mono h2 fun T2 h2 ⟨q1, q2⟩ => ⟨?_, q2⟩
        rw [againAll_iff] at q1 ⊢
        intro l hl
        have := q1 l (hl2 l hl).1
        refine (again_put (P := P) (T := T2) (h := h2) (v := vx) hpx (hl2 l hl).2).1 ?_
        rw [hd]; exact this
    refine stepG_mono (stepG_dst h3) fun T2 h2 ⟨⟨q1, q2⟩, ⟨v, e⟩, _⟩ => ⟨q1, ?_⟩
    subst e
    refine (stepE_quiet (by omega) hxe).2 ⟨vx, ?_, q2⟩
    rw [valG_put fun d hd => (hyx d hd).1, valG_heap hx0 h2 h]
    exact h1
  · have hxe := hp (by omega)
    have hye := hq (by omega)
    have hl2e : l2 = [] := by
      cases l2 with
      | nil => rfl
      | cons l r => have := (hl2 l (by simp)).1; rw [hye] at this; cases this
    subst hl2e
    rw [stepE_quiet (by omega) hxe] at k
    obtain ⟨vx, h1, h2⟩ := k
    rw [stepE_quiet hy1 hye] at h2
    obtain ⟨vy, h3, h4⟩ := h2
    rw [valG_put fun d hd => (hxy d hd).1] at h3
    refine (stepE_quiet (q := (q.1, q.2.1, [])) hy1 rfl).2 ⟨vy, h3, (stepE_quiet (by omega) hxe).2 ⟨vx, ?_, ?_⟩⟩
    · rw [valG_put fun d hd => (hyx d hd).1]; exact h1
    · rw [← put_put fun d hd => (hxy d hd).2]; exact h4
  · exact caseC hy3
  · -- x reads, and reads the same behind y
    have hxe := hp (by omega)
    rw [stepE_quiet (by omega) hxe] at k
    obtain ⟨vx, h1, h2⟩ := k
    rw [stepE_q (by omega)] at h2 ⊢
    have hmem : p.1 ∈ q.2.2 := by simpa using hmem
    have h3 : stepG P ops y (fun T2 h2 => (againAll P ops T2 h2 l2 ∧ valG P ops T2 h2 x = some vx) ∧ K (putA T2 x.dst vx) h2) T h := by
      have hxd : ∃ d, x.dst = some d := by
        obtain ⟨v0, h0, ⟨q1, _⟩, _⟩ := stepG_some h2
        rw [againAll_iff] at q1
        have := q1 p.1 hmem
        unfold againA at this
        rw [hpx] at this
        simp only at this
        cases hd : x.dst with
        | none => rw [hd] at this; exact this.elim
        | some d => exact ⟨d, rfl⟩
      obtain ⟨d, hd⟩ := hxd
      rw [hd] at h2 ⊢
      have h2 : stepG P ops y _ (upd T d vx) h := h2
      rw [stepG_upd (hxy d hd).1 (hxy d hd).2] at h2
      refine stepG_mono (stepG_dst h2) fun T2 h2 ⟨⟨q1, q2⟩, ⟨v, e⟩, _⟩ => ⟨⟨?_, ?_⟩, q2⟩
      · rw [againAll_iff] at q1 ⊢
        intro l hl
        have := q1 l (hl2 l hl).1
        refine (again_put (P := P) (T := T2) (h := h2) (v := vx) hpx (hl2 l hl).2).1 ?_
        rw [hd]; exact this
      · rw [againAll_iff] at q1
        have := q1 p.1 hmem
        unfold againA at this
        rw [hpx] at this
        simp only [hd] at this
        rw [valG_upd (hself hmem d hd)] at this
        rw [this]; simp [upd]
    refine stepG_mono (stepG_dst h3) fun T2 h2 ⟨⟨⟨q1, q0⟩, q2⟩, ⟨v, e⟩, _⟩ => ⟨q1, ?_⟩
    exact (stepE_quiet (by omega) hxe).2 ⟨vx, q0, q2⟩
  · -- two keys of one map
    have hp0 : p.2.2 = [] := by simpa using hp0
    have hq0 : q.2.2 = [] := by simpa using hq0
    have hl2e : l2 = [] := by
      cases l2 with
      | nil => rfl
      | cons l r => have := (hl2 l (by simp)).1; rw [hq0] at this; cases this
    subst hl2e
    exact swap_ins hins ha hp0 hq0 k
  · have hp0 : p.2.2 = [] := by simpa using hp0
    have hq0 : q.2.2 = [] := by simpa using hq0
    have hl2e : l2 = [] := by
      cases l2 with
      | nil => rfl
      | cons l r => have := (hl2 l (by simp)).1; rw [hq0] at this; cases this
    subst hl2e
    exact swap_alins hins ha hp0 hq0 k
end
end Go.Proofs.YtpdghiplnlhnfaaGreat.Ax
