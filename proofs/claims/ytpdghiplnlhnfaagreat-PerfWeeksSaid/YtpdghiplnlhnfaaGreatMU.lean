/-
  Joined: Ax15. Nothing is proved here of a statement.
-/
import Derived.Test.YtpdghiplnlhnfaaGreatMT
import Derived.Orders
namespace Go.Proofs.YtpdghiplnlhnfaaGreat.Ax
set_option linter.unusedSimpArgs false
set_option linter.unusedVariables false
open Go Go.RowKit

/-- 0: of values alone; 1: reads memory; 2: all else; 3: makes a block of its own. -/
def cls : Op → Nat
  | .move _ | .assign _ | .pick .. | .build .. | .nilCheck _ | .unOp .. | .convert .. | .makeFunc .. | .fieldAddr .. | .extract .. | .field .. | .index .. => 0
  | .binOp _ _ _ y _ => if isNilOp y then 1 else 0
  | .load .. | .indexAddr .. | .slice .. | .lookup .. => 1
  | .call { callee := .builtin .len, .. } => 1
  | .call { callee := .builtin .max, .. } | .call { callee := .builtin .min, .. } => 0
  | .alloc .. | .box .. | .buildSlice .. | .makeSlice .. | .makeMap .. => 3
  | _ => 2
def isTmp (d : Nat) : Operand → Bool
  | .tmp t => t == d
  | _ => false
/-- What an operation looks at. -/
def looks (ops : Array Oper) (o : Oper) (d : Nat) : Bool :=
  (o.op.operands.toList.any (isTmp d)) || (match o.guard with
    | some (j, _) => (ops[j]?).bind (·.dst) == some d
    | none => false)
def aside (ops : Array Oper) (x y : Oper) : Bool :=
  (match x.dst with
    | some d => !looks ops y d && y.dst != some d
    | none => true) && (match y.dst with
    | some d => !looks ops x d
    | none => true)
/-- A guard, and what it guards. -/
def guardG (ops : Array Oper) (o : Oper) (run : (Env → List Ob → Prop) → Env → List Ob → Prop) (K : Env → List Ob → Prop) (T : Env) (h : List Ob) : Prop := match o.guard with
  | none => run K T h
  | some (j, want) => match (ops[j]?).bind (·.dst) with
    | some d => match T d with
      | .v (.bool b) => (b = want → run K T h) ∧ (b ≠ want → K (putA T o.dst (.v undef)) h)
      | .v (.tuple _) => K (putA T o.dst (.v undef)) h
      | _ => False
    | none => False
def runO (P : Program) (o : Oper) (K : Env → List Ob → Prop) (T : Env) (h : List Ob) : Prop := runA P T h o K
def stepG (P : Program) (ops : Array Oper) (o : Oper) (K : Env → List Ob → Prop) (T : Env) (h : List Ob) : Prop := guardG ops o (runO P o) K T h
/-- A block is made where room was kept for it. -/
def runAt (P : Program) (id : Nat) (o : Oper) (K : Env → List Ob → Prop) (T : Env) (h : List Ob) : Prop := match allocA P T o.op with
  | some (ob, mk) => h[id]? = some .res ∧ K (putA T o.dst (mk id)) (h.set id ob)
  | none => False
def stepAt (P : Program) (ops : Array Oper) (id : Nat) (o : Oper) (K : Env → List Ob → Prop) (T : Env) (h : List Ob) : Prop := guardG ops o (runAt P id o) K T h
section
variable {P : Program} {ops : Array Oper} {T : Env} {h : List Ob}
theorem wpA_cons {Q : Env → List Ob → Prop} {o : Oper} {r : List Oper} : wpA P ops Q (o :: r) T h = stepG P ops o (wpA P ops Q r) T h := rfl
theorem ev_upd {d : Nat} {x : AV} {y : Operand} (hy : isTmp d y = false) : ev (upd T d x) y = ev T y := by
  cases y with
  | tmp t => simp only [isTmp, beq_eq_false_iff_ne, ne_eq] at hy; simp [ev, upd, hy]
  | _ => rfl
theorem evl_upd {d : Nat} {x : AV} : ∀ (l : List Operand), l.any (isTmp d) = false → evl (upd T d x) l = evl T l
  | [], _ => rfl
  | y :: l, hy => by
    simp only [List.any_cons, Bool.or_eq_false_iff] at hy
    simp only [evl, ev_upd hy.1, evl_upd l hy.2]
theorem evs_upd {d : Nat} {x : AV} : ∀ (l : List (Nat × Operand)), (l.map (·.2)).any (isTmp d) = false → evs (upd T d x) l = evs T l
  | [], _ => rfl
  | (i, y) :: l, hy => by
    simp only [List.map_cons, List.any_cons, Bool.or_eq_false_iff] at hy
    simp only [evs, ev_upd hy.1, evs_upd l hy.2]
theorem intOr_upd {d : Nat} {x : AV} {n : Int} : ∀ (y : Option Operand), y.toList.any (isTmp d) = false → intOr (upd T d x) n y = intOr T n y
  | none, _ => rfl
  | some y, hy => by
    have hy : isTmp d y = false := by simpa using hy
    simp only [intOr, ev_upd hy]
theorem callA_upd {d : Nat} {x : AV} {c : Call} (hc : c.operands.toList.any (isTmp d) = false) : callA P (upd T d x) h c = callA P T h c ∧ targetA (upd T d x) c = targetA T c := by
  obtain ⟨callee, args, tys⟩ := c
  obtain ⟨args⟩ := args
  obtain ⟨tys⟩ := tys
  have hargs : args.any (isTmp d) = false := by
    simp only [Call.operands] at hc
    cases callee <;> simp only [Array.toList_append, List.any_append, Bool.or_eq_false_iff] at hc <;> exact hc.2
  have hl := evl_upd (T := T) (x := x) args hargs
  constructor
  · unfold callA
    simp only
    split
    · simp only [List.any_cons, Bool.or_eq_false_iff] at hargs; simp only [ev_upd hargs.1]
    · simp only [List.any_cons, Bool.or_eq_false_iff] at hargs; simp only [ev_upd hargs.1, ev_upd hargs.2.1]
    · simp only [List.any_cons, Bool.or_eq_false_iff] at hargs; simp only [ev_upd hargs.1]
    · simp only [List.any_cons, Bool.or_eq_false_iff] at hargs; simp only [ev_upd hargs.1, ev_upd hargs.2.1]
    · simp only [List.any_cons, Bool.or_eq_false_iff] at hargs; simp only [ev_upd hargs.1, evl_upd _ hargs.2]
    · simp only [List.any_cons, Bool.or_eq_false_iff] at hargs; simp only [ev_upd hargs.1, evl_upd _ hargs.2]
    · rfl
  · unfold targetA
    simp only
    split
    · rename_i y
      simp only [Call.operands, Array.toList_append, List.any_append, Bool.or_eq_false_iff] at hc
      have hy : isTmp d y = false := by simpa using hc.1
      simp only [ev_upd hy, hl]
    · rfl
theorem allocA_upd {d : Nat} {x : AV} (op : Op) (hop : op.operands.toList.any (isTmp d) = false) : allocA P (upd T d x) op = allocA P T op := by
  cases op <;> simp only [Op.operands, List.any_cons, List.any_nil, Bool.or_false, Bool.or_eq_false_iff, Array.toList_append, List.any_append] at hop <;> try (rfl; done)
  case box t y => simp only [allocA, ev_upd hop]
  case buildSlice t n ps => simp only [allocA, evs_upd ps.toList hop]
  case makeSlice t l c => simp only [allocA, ev_upd hop.1, ev_upd hop.2]
  case makeMap t r => cases r <;> rfl
theorem evalOp_upd {d : Nat} {x : AV} (op : Op) (hop : op.operands.toList.any (isTmp d) = false) : evalOp P (upd T d x) h op = evalOp P T h op := by
  have hal := allocA_upd (P := P) (T := T) (x := x) op hop
  have hop0 := hop
  cases op <;> simp only [Op.operands, List.any_cons, List.any_nil, Bool.or_false, Bool.or_eq_false_iff, Array.toList_append, List.any_append] at hop <;> try (rfl; done)
  case move y => simp only [evalOp, ev_upd hop]
  case assign y => simp only [evalOp, ev_upd hop]
  case pick a b c => simp only [evalOp, ev_upd hop.1, ev_upd hop.2.1, ev_upd hop.2.2]
  case box t y => simp only [evalOp, hal]
  case build t ps => simp only [evalOp, evs_upd ps.toList hop]
  case buildSlice t n ps => simp only [evalOp, hal]
  case makeSlice t l c => simp only [evalOp, hal]
  case makeMap t r => simp only [evalOp, hal]
  case load t y => simp only [evalOp, ev_upd hop]
  case store t y z => simp only [evalOp, ev_upd hop.1, ev_upd hop.2]
  case nilCheck y => simp only [evalOp, ev_upd hop]
  case binOp op t y z _ => simp only [evalOp, ev_upd hop.1, ev_upd hop.2]
  case unOp op t y => simp only [evalOp, ev_upd hop]
  case convert s t y => simp only [evalOp, ev_upd hop]
  case makeFunc f p q => simp only [evalOp, evl_upd p.toList hop.1, evl_upd q.toList hop.2]
  case fieldAddr t y i => simp only [evalOp, ev_upd hop]
  case field t y i => simp only [evalOp, ev_upd hop]
  case indexAddr t y i => simp only [evalOp, ev_upd hop.1, ev_upd hop.2]
  case index t y i => simp only [evalOp, ev_upd hop.1, ev_upd hop.2]
  case extract y i => simp only [evalOp, ev_upd hop]
  case insert t m k v => simp only [evalOp, ev_upd hop.1, ev_upd hop.2.1, ev_upd hop.2.2]
  case lookup t m k ok => simp only [evalOp, ev_upd hop.1, ev_upd hop.2]
  case slice t y lo hi mx =>
    cases mx with
    | some m => rfl
    | none =>
      have h1 : isTmp d y = false ∧ lo.toList.any (isTmp d) = false ∧ hi.toList.any (isTmp d) = false := by
        simp only [Op.operands] at hop0
        cases lo <;> cases hi <;> simp_all
      obtain ⟨h1, h2, h3⟩ := h1
      simp only [evalOp, ev_upd h1, intOr_upd lo h2, intOr_upd hi h3]
  case call c => exact (callA_upd (h := h) hop).1
theorem upd_comm {d e : Nat} (hde : d ≠ e) (x y : AV) : upd (upd T d x) e y = upd (upd T e y) d x := by
  funext i
  simp only [upd]
  split
  · rename_i hi; subst hi; rw [if_neg (fun h => hde h.symm)]
  · rfl
theorem putA_upd {d : Nat} {x y : AV} {o : Oper} (hd : o.dst ≠ some d) : putA (upd T d x) o.dst y = upd (putA T o.dst y) d x := by
  cases he : o.dst with
  | none => rfl
  | some e => exact upd_comm (fun h => hd (by rw [he, h])) x y
theorem runA_mono {o : Oper} {K K' : Env → List Ob → Prop} (k : runA P T h o K) (hk : ∀ T h, K T h → K' T h) : runA P T h o K' := by
  unfold runA at *
  split
  · rename_i x h' hx; rw [hx] at k; exact hk _ _ k
  · rename_i hx
    rw [hx] at k
    clear hx
    generalize o.op = op at k ⊢
    cases op <;> first
      | exact k.elim
      | skip
    rename_i c
    simp only at k ⊢
    cases ht : targetA T c with
    | none => rw [ht] at k; exact k.elim
    | some q =>
      rw [ht] at k
      exact k.mono fun _ _ => hk _ _
theorem guardG_mono {o : Oper} {run run' : (Env → List Ob → Prop) → Env → List Ob → Prop} {K K' : Env → List Ob → Prop} (k : guardG ops o run K T h) (hr : run K T h → run' K' T h) (hk : K (putA T o.dst (.v undef)) h → K' (putA T o.dst (.v undef)) h) : guardG ops o run' K' T h := by
  unfold guardG at *
  cases hg : o.guard with
  | none => simp only [hg] at k ⊢; exact hr k
  | some q =>
    obtain ⟨j, want⟩ := q
    simp only [hg] at k ⊢
    cases hd : (ops[j]?).bind (·.dst) with
    | none => simp only [hd] at k
    | some d =>
      simp only [hd] at k ⊢
      split at k
      · exact ⟨fun e => hr (k.1 e), fun e => hk (k.2 e)⟩
      · exact hk k
      · exact k
theorem guardG_mono2 {h2 : List Ob} {o : Oper} {run run' : (Env → List Ob → Prop) → Env → List Ob → Prop} {K K' : Env → List Ob → Prop} (k : guardG ops o run K T h) (hr : run K T h → run' K' T h2) (hk : K (putA T o.dst (.v undef)) h → K' (putA T o.dst (.v undef)) h2) : guardG ops o run' K' T h2 := by
  unfold guardG at *
  cases hg : o.guard with
  | none => simp only [hg] at k ⊢; exact hr k
  | some q =>
    obtain ⟨j, want⟩ := q
    simp only [hg] at k ⊢
    cases hd : (ops[j]?).bind (·.dst) with
    | none => simp only [hd] at k
    | some d =>
      simp only [hd] at k ⊢
      split at k
      · exact ⟨fun e => hr (k.1 e), fun e => hk (k.2 e)⟩
      · exact hk k
      · exact k
theorem stepG_mono {o : Oper} {K K' : Env → List Ob → Prop} (k : stepG P ops o K T h) (hk : ∀ T h, K T h → K' T h) : stepG P ops o K' T h :=
  guardG_mono k (fun k => runA_mono k hk) (hk _ _)
theorem runAt_mono {id : Nat} {o : Oper} {K K' : Env → List Ob → Prop} (k : runAt P id o K T h) (hk : ∀ T h, K T h → K' T h) : runAt P id o K' T h := by
  unfold runAt at *
  split
  · rename_i ob mk hx; rw [hx] at k; exact ⟨k.1, hk _ _ k.2⟩
  · rename_i hx; rw [hx] at k; exact k
theorem stepAt_mono {id : Nat} {o : Oper} {K K' : Env → List Ob → Prop} (k : stepAt P ops id o K T h) (hk : ∀ T h, K T h → K' T h) : stepAt P ops id o K' T h :=
  guardG_mono k (fun k => runAt_mono k hk) (hk _ _)
/-- A slot that an operation does not touch may be written behind it. -/
theorem runA_upd {d : Nat} {x : AV} {o : Oper} {K : Env → List Ob → Prop} (hop : o.op.operands.toList.any (isTmp d) = false) (hd : o.dst ≠ some d) : runA P (upd T d x) h o K = runA P T h o (fun T2 h2 => K (upd T2 d x) h2) := by
  unfold runA
  rw [evalOp_upd o.op hop]
  split
  · rw [putA_upd hd]
  · split
    · rename_i c hc
      rw [hc] at hop
      rw [(callA_upd (P := P) (h := h) hop).2]
      split
      · simp only [putA_upd hd]
      · rfl
    · rfl
theorem runAt_upd {id d : Nat} {x : AV} {o : Oper} {K : Env → List Ob → Prop} (hop : o.op.operands.toList.any (isTmp d) = false) (hd : o.dst ≠ some d) : runAt P id o K (upd T d x) h = runAt P id o (fun T2 h2 => K (upd T2 d x) h2) T h := by
  unfold runAt
  rw [allocA_upd o.op hop]
  split
  · rw [putA_upd hd]
  · rfl
theorem guardG_upd {d : Nat} {x : AV} {o : Oper} {run : (Env → List Ob → Prop) → Env → List Ob → Prop} {K : Env → List Ob → Prop} (hl : looks ops o d = false) (hd : o.dst ≠ some d) (hr : run K (upd T d x) h = run (fun T2 h2 => K (upd T2 d x) h2) T h) : guardG ops o run K (upd T d x) h = guardG ops o run (fun T2 h2 => K (upd T2 d x) h2) T h := by
  unfold looks at hl
  rw [Bool.or_eq_false_iff] at hl
  unfold guardG
  cases hg : o.guard with
  | none => simp only []; exact hr
  | some q =>
    obtain ⟨j, want⟩ := q
    rw [hg] at hl
    simp only []
    cases hj : (ops[j]?).bind (·.dst) with
    | none => rfl
    | some e =>
      have hne : e ≠ d := fun h => by
        have := hl.2
        simp [hj, h] at this
      have hT : upd T d x e = T e := by simp [upd, hne]
      simp only [hT, hr, putA_upd hd]
theorem stepG_upd {d : Nat} {x : AV} {o : Oper} {K : Env → List Ob → Prop} (hl : looks ops o d = false) (hd : o.dst ≠ some d) : stepG P ops o K (upd T d x) h = stepG P ops o (fun T2 h2 => K (upd T2 d x) h2) T h :=
  guardG_upd hl hd (runA_upd (by unfold looks at hl; rw [Bool.or_eq_false_iff] at hl; exact hl.1) hd)
theorem stepAt_upd {id d : Nat} {x : AV} {o : Oper} {K : Env → List Ob → Prop} (hl : looks ops o d = false) (hd : o.dst ≠ some d) : stepAt P ops id o K (upd T d x) h = stepAt P ops id o (fun T2 h2 => K (upd T2 d x) h2) T h :=
  guardG_upd hl hd (runAt_upd (by unfold looks at hl; rw [Bool.or_eq_false_iff] at hl; exact hl.1) hd)
/-- What a quiet operation makes. -/
def valG (P : Program) (ops : Array Oper) (T : Env) (h : List Ob) (o : Oper) : Option AV := match o.guard with
  | none => (evalOp P T h o.op).map (·.1)
  | some (j, want) => match (ops[j]?).bind (·.dst) with
    | some d => match T d with
      | .v (.bool b) => if b = want then (evalOp P T h o.op).map (·.1) else some (.v undef)
      | .v (.tuple _) => some (.v undef)
      | _ => none
    | none => none
theorem quiet_heap {op : Op} (hc : cls op ≤ 1) {x : AV} {h' : List Ob} (hx : evalOp P T h op = some (x, h')) : h' = h := by
  cases op <;> simp only [cls] at hc <;> try (omega; done)
  case call c =>
    obtain ⟨callee, args, tys⟩ := c
    simp only [evalOp, callA] at hx
    split at hx
    · split at hx
      · obtain ⟨_, _, _, e⟩ := map_pair hx; exact e.symm
      · cases hx
    · simp at hc
    · simp at hc
    · simp at hc
    · obtain ⟨_, _, _, e⟩ := map_pair hx; exact e.symm
    · obtain ⟨_, _, _, e⟩ := map_pair hx; exact e.symm
    · cases hx
  case slice t y lo hi mx =>
    cases mx with
    | some m => cases hx
    | none =>
      simp only [evalOp] at hx
      split at hx
      · simp only [Option.bind_eq_some_iff] at hx
        obtain ⟨_, _, _, _, _, _, hx⟩ := hx
        split at hx
        · injection hx with hx; injection hx with _ hx; exact hx.symm
        · cases hx
      · cases hx
  case build t ps =>
    simp only [evalOp] at hx
    split at hx
    · split at hx
      · simp only [Option.bind_eq_some_iff] at hx
        obtain ⟨_, _, hx⟩ := hx
        obtain ⟨_, _, _, e⟩ := map_pair hx; exact e.symm
      · cases hx
    · cases hx
  case fieldAddr t y i =>
    simp only [evalOp] at hx
    split at hx
    · simp only [Option.bind_eq_some_iff] at hx
      obtain ⟨_, _, hx⟩ := hx
      split at hx
      · split at hx
        · injection hx with hx; injection hx with _ hx; exact hx.symm
        · injection hx with hx; injection hx with _ hx; exact hx.symm
        · cases hx
      · cases hx
    · cases hx
  case field t y i =>
    simp only [evalOp] at hx
    split at hx
    · simp only [Option.bind_eq_some_iff] at hx
      obtain ⟨_, _, hx⟩ := hx
      split at hx
      · obtain ⟨_, _, _, e⟩ := map_pair hx; exact e.symm
      · cases hx
    · cases hx
  all_goals
    simp only [evalOp] at hx
    (repeat' split at hx)
  all_goals first
    | cases hx; done
    | (injection hx with hx; injection hx with _ hx; exact hx.symm)
    | (simp only [Option.map_eq_some_iff, Prod.mk.injEq] at hx; obtain ⟨_, _, _, e⟩ := hx; exact e.symm)
end
end Go.Proofs.YtpdghiplnlhnfaaGreat.Ax
