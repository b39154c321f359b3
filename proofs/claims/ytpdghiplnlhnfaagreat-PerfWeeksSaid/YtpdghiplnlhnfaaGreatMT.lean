/-
  Joined: Ax14. Nothing is proved here of a statement.
-/
import Derived.Test.YtpdghiplnlhnfaaGreatMS
import Derived.Attr
namespace Go.Proofs.YtpdghiplnlhnfaaGreat.Ax
set_option linter.unusedSimpArgs false
set_option linter.unusedVariables false
open Go Go.RowKit

/-- What the walk does not look into yet. -/
class Held (α : Type) where
  it : α
/-- Two ways: the walk does not look into them before it is known which one is taken. -/
def Ways (b : Bool) [p : Held Prop] [q : Held Prop] : Prop := (b = true → p.it) ∧ (b = false → q.it)
theorem ways_true {p q : Prop} : @Ways true ⟨p⟩ ⟨q⟩ = p := by simp [Ways]
theorem ways_false {p q : Prop} : @Ways false ⟨p⟩ ⟨q⟩ = q := by simp [Ways]
theorem ways {b : Bool} {p q : Prop} (h1 : b = true → p) (h2 : b = false → q) : @Ways b ⟨p⟩ ⟨q⟩ := ⟨h1, h2⟩
/-- A call, and what stands behind it. -/
def CallA (P : Program) (f : FuncId) (as : List AV) (h : List Ob) [k : Held (AV → List Ob → Prop)] : Prop := ACalls P f as h k.it
theorem call_by {P : Program} {f : FuncId} {as : List AV} {h : List Ob} {R K : AV → List Ob → Prop} (c : ACalls P f as h R) (k : ∀ r h', R r h' → K r h') : @CallA P f as h ⟨K⟩ := c.mono k
/-- What a value that is a truth leads to. -/
def onBool (x : AV) [k : Held (Bool → Prop)] : Prop := match x with
  | .v (.bool b) => k.it b
  | _ => False
def contA (x : Option (AV × List Ob)) [k : Held (AV → List Ob → Prop)] : Prop := match x with
  | some (x, h) => k.it x h
  | none => False
def callK (P : Program) (x : AV) (as : List AV) (h : List Ob) [k : Held (AV → List Ob → Prop)] : Prop := match x with
  | .fn (.func f) fs cs => CallA P f (fs ++ as ++ cs) h
  | _ => False
def guardK (x : AV) (want : Bool) [p : Held Prop] [q : Held Prop] : Prop := match x with
  | .v (.bool b) => @Ways (b == want) p q
  | .v (.tuple _) => q.it
  | _ => False
def opTarget : Op → Option (Operand × List Operand)
  | .call { callee := .value x, args, .. } => some (x, args.toList)
  | _ => none
def guardAt (ops : Array Oper) (j : Nat) (T : Env) : AV := match (ops[j]?).bind (·.dst) with
  | some d => T d
  | none => .bad
def runC (P : Program) (T : Env) (h : List Ob) (o : Oper) (K : Env → List Ob → Prop) : Prop :=
  match opTarget o.op with
  | some (x, args) => @callK P (ev T x) (evl T args) h ⟨fun r h' => K (putA T o.dst r) h'⟩
  | none => @contA (evalOp P T h o.op) ⟨fun x h' => K (putA T o.dst x) h'⟩
def wpR (P : Program) (ops : Array Oper) (Q : Env → List Ob → Prop) : List Oper → Env → List Ob → Prop
  | [], T, h => Q T h
  | o :: r, T, h => match o.guard with
    | none => runC P T h o (wpR P ops Q r)
    | some (j, want) => @guardK (guardAt ops j T) want ⟨runC P T h o (wpR P ops Q r)⟩ ⟨wpR P ops Q r (putA T o.dst (.v undef)) h⟩
/-- Code that the walk stops at. -/
def StopA (P : Program) (N B : Nat) [x : Held (Code × PostA)] (T : Env) (h : List Ob) : Prop := AWp P N B x.it.1 x.it.2 T h
/-- What code leads to. -/
def wpC (P : Program) (N B : Nat) : Code → PostA → Env → List Ob → Prop
  | .skip, Q, T, h => Q .normal T h
  | .label _, Q, T, h => Q .normal T h
  | .seq a b, Q, T, h => wpC P N B a (thenA (wpC P N B b Q) Q) T h
  | .region _ ops false, Q, T, h => wpR P ops (Q .normal) ops.toList T h
  | .cond x a b, Q, T, h => @onBool (ev T x) ⟨fun t => @Ways t ⟨wpC P N B a Q T h⟩ ⟨wpC P N B b Q T h⟩⟩
  | .block id c, Q, T, h => wpC P N B c (blockA id Q) T h
  | .exit id, Q, T, h => Q (.exit id) T h
  | .ret, Q, T, h => Q .ret T h
  | c, Q, T, h => @StopA P N B ⟨(c, Q)⟩ T h
/-- What is asked of code once for all. -/
def okC (N : Nat) : Code → Bool
  | .seq a b => okC N a && okC N b
  | .region _ ops _ => ops.toList.all (dstOk N)
  | .cond _ a b => okC N a && okC N b
  | .block _ c => okC N c
  | .loop c => okC N c
  | _ => true
section
variable {P : Program} {N B : Nat} {T : Env} {h h' : List Ob} {Q : PostA} {ops : Array Oper} {K : Env → List Ob → Prop} {r : List Oper} {dst : Option Tmp} {op : Op} {type : TypeId} {pos : String} {after : Array Edge} {guard : Option (Nat × Bool)} {x : AV}
-- none of these is a rule of reduction: the kernel is told each step
theorem onBool_b {b : Bool} {k : Bool → Prop} : @onBool (.v (.bool b)) ⟨k⟩ = k b := id rfl
theorem contA_some {k : AV → List Ob → Prop} : @contA (some (x, h)) ⟨k⟩ = k x h := id rfl
theorem callK_fn {f : FuncId} {fs cs as : List AV} {k : AV → List Ob → Prop} : @callK P (.fn (.func f) fs cs) as h ⟨k⟩ = @CallA P f (fs ++ as ++ cs) h ⟨k⟩ := id rfl
theorem guardK_b {b want : Bool} {p q : Prop} : @guardK (.v (.bool b)) want ⟨p⟩ ⟨q⟩ = @Ways (b == want) ⟨p⟩ ⟨q⟩ := id rfl
theorem guardK_u {vs : Array Value} {want : Bool} {p q : Prop} : @guardK (.v (.tuple vs)) want ⟨p⟩ ⟨q⟩ = q := id rfl
theorem runC_op (ho : opTarget op = none) : runC P T h ⟨dst, op, type, pos, after, guard⟩ K = @contA (evalOp P T h op) ⟨fun x h' => K (putA T dst x) h'⟩ := by
  unfold runC
  rw [ho]
theorem runC_call {y : Operand} {args : Array Operand} {tys : Array TypeId} : runC P T h ⟨dst, .call ⟨.value y, args, tys⟩, type, pos, after, guard⟩ K = @callK P (ev T y) (evl T args.toList) h ⟨fun x h' => K (putA T dst x) h'⟩ := id rfl
theorem wpR_nil {Q : Env → List Ob → Prop} : wpR P ops Q [] T h = Q T h := id rfl
theorem wpR_none {Q : Env → List Ob → Prop} : wpR P ops Q (⟨dst, op, type, pos, after, none⟩ :: r) T h = runC P T h ⟨dst, op, type, pos, after, none⟩ (wpR P ops Q r) := id rfl
theorem wpR_some {Q : Env → List Ob → Prop} {j : Nat} {want : Bool} : wpR P ops Q (⟨dst, op, type, pos, after, some (j, want)⟩ :: r) T h = @guardK (guardAt ops j T) want ⟨runC P T h ⟨dst, op, type, pos, after, some (j, want)⟩ (wpR P ops Q r)⟩ ⟨wpR P ops Q r (putA T dst (.v undef)) h⟩ := id rfl
theorem wpC_skip : wpC P N B .skip Q T h = Q .normal T h := id rfl
theorem wpC_label {l : Nat} : wpC P N B (.label l) Q T h = Q .normal T h := id rfl
theorem wpC_seq {a b : Code} : wpC P N B (.seq a b) Q T h = wpC P N B a (thenA (wpC P N B b Q) Q) T h := id rfl
theorem wpC_region {id' : Nat} : wpC P N B (.region id' ops false) Q T h = wpR P ops (Q .normal) ops.toList T h := id rfl
theorem wpC_cond {y : Operand} {a b : Code} : wpC P N B (.cond y a b) Q T h = @onBool (ev T y) ⟨fun t => @Ways t ⟨wpC P N B a Q T h⟩ ⟨wpC P N B b Q T h⟩⟩ := id rfl
theorem wpC_block {i : Nat} {c : Code} : wpC P N B (.block i c) Q T h = wpC P N B c (blockA i Q) T h := id rfl
theorem wpC_exit {i : Nat} : wpC P N B (.exit i) Q T h = Q (.exit i) T h := id rfl
theorem wpC_ret : wpC P N B .ret Q T h = Q .ret T h := id rfl
theorem wpC_loop {c : Code} : wpC P N B (.loop c) Q T h = @StopA P N B ⟨(.loop c, Q)⟩ T h := id rfl
theorem wpC_draw {i : Nat} : wpC P N B (.region i ops true) Q T h = @StopA P N B ⟨(.region i ops true, Q)⟩ T h := id rfl
theorem thenA_n {next : Env → List Ob → Prop} : thenA next Q .normal T h = next T h := id rfl
theorem thenA_x {next : Env → List Ob → Prop} {i : Nat} : thenA next Q (.exit i) T h = Q (.exit i) T h := id rfl
theorem thenA_r {next : Env → List Ob → Prop} : thenA next Q .ret T h = Q .ret T h := id rfl
theorem blockA_n {i : Nat} : blockA i Q .normal T h = Q .normal T h := id rfl
theorem blockA_r {i : Nat} : blockA i Q .ret T h = Q .ret T h := id rfl
theorem blockA_x {i j : Nat} : blockA i Q (.exit j) T h = if j = i then Q .normal T h else Q (.exit j) T h := id rfl
theorem upd_e (T : Env) (d : Nat) (x : AV) (i : Nat) : upd T d x i = if i = d then x else T i := id rfl
theorem putA_s {d : Nat} : putA T (some d) x = upd T d x := id rfl
theorem putA_n : putA T none x = T := id rfl
theorem runC_A {o : Oper} {K : Env → List Ob → Prop} (k : runC P T h o K) : runA P T h o K := by
  unfold runC at k
  unfold runA
  cases ht : opTarget o.op with
  | some q =>
    obtain ⟨X, args⟩ := q
    have hop : ∃ as tys, o.op = .call ⟨.value X, as, tys⟩ ∧ as.toList = args := by
      unfold opTarget at ht
      split at ht
      · rename_i X' as tys he
        injection ht with ht
        injection ht with h1 h2
        subst h1
        exact ⟨as, tys, he, h2⟩
      · cases ht
    obtain ⟨as, tys, hop, has⟩ := hop
    rw [ht] at k
    simp only [callK] at k
    have he : evalOp P T h o.op = none := by rw [hop]; rfl
    rw [he, hop]
    simp only [targetA, has]
    split at k
    · rename_i f fs cs hx; simp only [hx]; exact k
    · exact k.elim
  | none =>
    rw [ht] at k
    simp only [contA] at k
    split at k
    · rename_i hev; rw [hev]; exact k
    · exact k.elim
end
end Go.Proofs.YtpdghiplnlhnfaaGreat.Ax
