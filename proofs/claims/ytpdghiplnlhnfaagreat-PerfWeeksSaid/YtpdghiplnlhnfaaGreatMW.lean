/-
  Joined: Ax17. Nothing is proved here of a statement.
-/
import Derived.Test.YtpdghiplnlhnfaaGreatMV
import Derived.LoopN
namespace Go.Proofs.YtpdghiplnlhnfaaGreat.Ax
set_option linter.unusedSimpArgs false
set_option linter.unusedVariables false
open Go Go.RowKit
/-! A region that draws its order, in the order that stands for all. -/
def onOp (x : Option Oper) [k : Held (Oper → Prop)] : Prop := match x with
  | some o => k.it o
  | none => False
def slot (b s : Nat) : Nat := b + s
def allocK (x : Option (Ob × (Nat → AV))) (h : List Ob) (id : Nat) [k : Held (AV → List Ob → Prop)] : Prop := match x with
  | some (ob, mk) => h[id]? = some .res ∧ k.it (mk id) (h.set id ob)
  | none => False
def isAl : Op → Bool
  | .alloc .. | .box .. | .buildSlice .. | .makeSlice .. | .makeMap .. => true
  | _ => false
theorem isAl_cls (op : Op) : isAl op = true ↔ cls op = 3 := by
  cases op
  case call c =>
    obtain ⟨callee, args, tys⟩ := c
    cases callee with
    | builtin b => cases b <;> simp [isAl, cls]
    | value x => simp [isAl, cls]
    | invoke r m => simp [isAl, cls]
  case binOp op t y z u => simp only [isAl, cls]; split <;> simp
  all_goals simp [isAl, cls]
def runQ (P : Program) (ops : Array Oper) (b : Nat) (q : Ent) (o : Oper) (K : Env → List Ob → Prop) (T : Env) (h : List Ob) : Prop :=
  if isAl o.op then @allocK (allocA P T o.op) h (slot b q.2.1) ⟨fun x h' => K (putA T o.dst x) h'⟩ else runC P T h o (fun T h => againAll P ops T h q.2.2 ∧ K T h)
def stepQ (P : Program) (ops : Array Oper) (b : Nat) (q : Ent) (K : Env → List Ob → Prop) (T : Env) (h : List Ob) (o : Oper) : Prop := match o.guard with
  | none => runQ P ops b q o K T h
  | some (j, want) => @guardK (guardAt ops j T) want ⟨runQ P ops b q o K T h⟩ ⟨againAll P ops (putA T o.dst (.v undef)) h q.2.2 ∧ K (putA T o.dst (.v undef)) h⟩
def wpQ (P : Program) (ops : Array Oper) (b : Nat) (K : Env → List Ob → Prop) : List Ent → Env → List Ob → Prop
  | [], T, h => K T h
  | q :: r, T, h => @onOp ops[q.1]? ⟨stepQ P ops b q (wpQ P ops b K r) T h⟩
section
variable {P : Program} {N B : Nat} {ops : Array Oper} {T : Env} {h : List Ob} {Q Q' : PostA}
theorem wpR_A {K : Env → List Ob → Prop} : ∀ (l : List Oper) {T : Env} {h : List Ob}, wpR P ops K l T h → wpA P ops K l T h
  | [], _, _, k => k
  | o :: r, T, h, k => by
    have ih : ∀ T h, wpR P ops K r T h → wpA P ops K r T h := fun T h => wpR_A r
    unfold wpR at k
    unfold wpA
    cases hg : o.guard with
    | none => simp only [hg] at k ⊢; exact runA_mono (runC_A k) ih
    | some q =>
      obtain ⟨j, want⟩ := q
      simp only [hg, guardAt] at k ⊢
      cases hd : (ops[j]?).bind (·.dst) with
      | none => simp only [hd, guardK] at k
      | some d =>
        simp only [hd] at k ⊢
        unfold guardK at k
        split at k
        · rename_i b hb
          rw [hb]
          refine ⟨fun e => runA_mono (runC_A (k.1 (by simp [e]))) ih, fun e => ih _ _ (k.2 (by simp [e]))⟩
        · rename_i vs hb
          rw [hb]
          exact ih _ _ k
        · exact k.elim
theorem wpC_sound : ∀ (c : Code), okC N c = true → ∀ {Q : PostA} {T : Env} {h : List Ob}, wpC P N B c Q T h → AWp P N B c Q T h := by
  intro c
  induction c with
  | skip => intro _ Q T h k; exact awp_skip k
  | label l => intro _ Q T h k; exact awp_label k
  | seq a b iha ihb =>
    intro hok Q T h k
    simp only [okC, Bool.and_eq_true] at hok
    refine awp_seq ((iha hok.1 k).mono fun e T h q => ?_)
    cases e <;> first
      | exact ihb hok.2 q
      | exact q
  | region id ops d =>
    intro hok Q T h k
    cases d with
    | false => exact awp_region hok (wpR_A _ k)
    | true => exact k
  | cond x a b iha ihb =>
    intro hok Q T h k
    simp only [okC, Bool.and_eq_true] at hok
    unfold wpC onBool at k
    split at k
    · rename_i t hx
      exact awp_cond hx (fun e => iha hok.1 (k.1 e)) (fun e => ihb hok.2 (k.2 e))
    · exact k.elim
  | block id c ih => intro hok Q T h k; exact awp_block (ih hok k)
  | loop c ih => intro _ Q T h k; exact k
  | exit id => intro _ Q T h k; exact awp_exit k
  | ret => intro _ Q T h k; exact awp_ret k
  | rangeFunc f p a b _ _ => intro _ Q T h k; exact k
  | scope b _ => intro _ Q T h k; exact k
  | goto l => intro _ Q T h k; exact k
  | refuse w => intro _ Q T h k; exact k
theorem wpQ_E {b : Nat} {K : Env → List Ob → Prop} : ∀ (l : List Ent) {T : Env} {h : List Ob}, wpQ P ops b K l T h → wpE P ops b K l T h
  | [], _, _, k => k
  | q :: r, T, h, k => by
    have ih : ∀ T h, wpQ P ops b K r T h → wpE P ops b K r T h := fun T h => wpQ_E r
    unfold wpQ onOp at k
    unfold wpE
    split at k
    · rename_i o ho
      rw [ho]
      simp only
      have k : stepQ P ops b q (wpQ P ops b K r) T h o := k
      by_cases hc : cls o.op = 3
      · have ha := (isAl_cls o.op).2 hc
        have hrun : runQ P ops b q o (wpQ P ops b K r) T h → runAt P (b + q.2.1) o (wpE P ops b K r) T h := fun k => by
          unfold runQ at k
          rw [if_pos ha] at k
          unfold allocK at k
          unfold runAt
          split at k
          · rename_i ob mk hx; rw [hx]; exact ⟨k.1, ih _ _ k.2⟩
          · exact k.elim
        rw [stepE_a hc]
        unfold stepAt guardG
        unfold stepQ at k
        cases hg : o.guard with
        | none => simp only [hg] at k ⊢; exact hrun k
        | some p =>
          obtain ⟨j, want⟩ := p
          simp only [hg, guardAt] at k ⊢
          cases hd : (ops[j]?).bind (·.dst) with
          | none => simp only [hd, guardK] at k
          | some d =>
            simp only [hd] at k ⊢
            unfold guardK at k
            split at k
            · rename_i b hb
              rw [hb]
              exact ⟨fun e => hrun (k.1 (by simp [e])), fun e => ih _ _ (k.2 (by simp [e])).2⟩
            · rename_i vs hb
              rw [hb]
              exact ih _ _ k.2
            · exact k.elim
      · have ha : ¬ isAl o.op = true := fun h => hc ((isAl_cls o.op).1 h)
        have hrun : runQ P ops b q o (wpQ P ops b K r) T h → runA P T h o (fun T h => againAll P ops T h q.2.2 ∧ wpE P ops b K r T h) := fun k => by
          unfold runQ at k
          rw [if_neg ha] at k
          exact runA_mono (runC_A k) fun T h ⟨k1, k2⟩ => ⟨k1, ih _ _ k2⟩
        rw [stepE_q hc]
        unfold stepG guardG runO
        unfold stepQ at k
        cases hg : o.guard with
        | none => simp only [hg] at k ⊢; exact hrun k
        | some p =>
          obtain ⟨j, want⟩ := p
          simp only [hg, guardAt] at k ⊢
          cases hd : (ops[j]?).bind (·.dst) with
          | none => simp only [hd, guardK] at k
          | some d =>
            simp only [hd] at k ⊢
            unfold guardK at k
            split at k
            · rename_i b hb
              rw [hb]
              exact ⟨fun e => hrun (k.1 (by simp [e])), fun e => let q := k.2 (by simp [e]); ⟨q.1, ih _ _ q.2⟩⟩
            · rename_i vs hb
              rw [hb]
              exact ⟨k.1, ih _ _ k.2⟩
            · exact k.elim
    · exact k.elim
theorem wp_draw {id : Nat} (hm : P.follows .mixedOrders = true) (L : List Ob) (k : Nat) (ord : List Ent) (hL : L = List.replicate k .res) (hd : ops.toList.all (dstOk N) = true) (hord : okOrdE ops k ord = true) (q : wpQ P ops h.length (Q .normal) ord T (h ++ L)) : @StopA P N B ⟨(.region id ops true, Q)⟩ T h :=
  awp_draw hm k ord hd hord (wpQ_E _ (hL ▸ q))
-- the kernel is told each step
section
variable {b : Nat} {K : Env → List Ob → Prop} {q : Ent} {o : Oper} {dst : Option Tmp} {op : Op} {type : TypeId} {pos : String} {after : Array Edge}
theorem wpQ_nil : wpQ P ops b K [] T h = K T h := id rfl
theorem wpQ_cons {r : List Ent} : wpQ P ops b K (q :: r) T h = @onOp ops[q.1]? ⟨stepQ P ops b q (wpQ P ops b K r) T h⟩ := id rfl
theorem onOp_some {k : Oper → Prop} : @onOp (some o) ⟨k⟩ = k o := id rfl
theorem stepQ_none : stepQ P ops b q K T h ⟨dst, op, type, pos, after, none⟩ = runQ P ops b q ⟨dst, op, type, pos, after, none⟩ K T h := id rfl
theorem stepQ_some {j : Nat} {want : Bool} : stepQ P ops b q K T h ⟨dst, op, type, pos, after, some (j, want)⟩ = @guardK (guardAt ops j T) want ⟨runQ P ops b q ⟨dst, op, type, pos, after, some (j, want)⟩ K T h⟩ ⟨againAll P ops (putA T dst (.v undef)) h q.2.2 ∧ K (putA T dst (.v undef)) h⟩ := id rfl
theorem runQ_al {g : Option (Nat × Bool)} (ha : isAl op = true) : runQ P ops b q ⟨dst, op, type, pos, after, g⟩ K T h = @allocK (allocA P T op) h (slot b q.2.1) ⟨fun x h' => K (putA T dst x) h'⟩ := by
  unfold runQ; rw [if_pos ha]
theorem runQ_q {g : Option (Nat × Bool)} (ha : isAl op = false) : runQ P ops b q ⟨dst, op, type, pos, after, g⟩ K T h = runC P T h ⟨dst, op, type, pos, after, g⟩ (fun T h => againAll P ops T h q.2.2 ∧ K T h) := by
  unfold runQ; rw [if_neg]; rw [ha]; simp
theorem allocK_some {ob : Ob} {mk : Nat → AV} {i : Nat} {k : AV → List Ob → Prop} : @allocK (some (ob, mk)) h i ⟨k⟩ = (h[i]? = some .res ∧ k (mk i) (h.set i ob)) := id rfl
theorem slot_app {a c s : Nat} : slot (a + c) s = a + (c + s) := Nat.add_assoc a c s
theorem slot_len {α : Type} {l : List α} {s : Nat} : slot l.length s = l.length + s := id rfl
theorem againAll_nil : againAll P ops T h [] = True := id rfl
theorem againAll_cons {l : Nat} {r : List Nat} : againAll P ops T h (l :: r) = (againA P ops T h l ∧ againAll P ops T h r) := id rfl
theorem againA_eq {l : Nat} : againA P ops T h l = (match ops[l]? with
  | some o => match o.dst with
    | some d => valG P ops T h o = some (T d)
    | none => False
  | none => False) := id rfl
theorem valG_none : valG P ops T h ⟨dst, op, type, pos, after, none⟩ = (evalOp P T h op).map (·.1) := id rfl
def valK (t : AV) (want : Bool) (x : Option AV) : Option AV := match t with
  | .v (.bool b) => if b = want then x else some (.v undef)
  | .v (.tuple _) => some (.v undef)
  | _ => none
theorem valG_some {j : Nat} {want : Bool} : valG P ops T h ⟨dst, op, type, pos, after, some (j, want)⟩ = valK (guardAt ops j T) want ((evalOp P T h op).map (·.1)) := by
  unfold valG guardAt
  simp only
  cases hd : (ops[j]?).bind (·.dst) with
  | none => rfl
  | some d =>
    simp only
    generalize T d = t
    unfold valK
    rfl
theorem valK_b {b want : Bool} {x : Option AV} : valK (.v (.bool b)) want x = if b = want then x else some (.v undef) := id rfl
theorem valK_u {vs : Array Value} {want : Bool} {x : Option AV} : valK (.v (.tuple vs)) want x = some (.v undef) := id rfl
theorem isAl_alloc {t : TypeId} : isAl (.alloc t) = true := id rfl
theorem isAl_box {t : TypeId} {x : Operand} : isAl (.box t x) = true := id rfl
theorem isAl_bs {t : TypeId} {n : Nat} {ps : Array (Nat × Operand)} : isAl (.buildSlice t n ps) = true := id rfl
theorem isAl_ms {t : TypeId} {x y : Operand} : isAl (.makeSlice t x y) = true := id rfl
theorem isAl_mm {t : TypeId} {r : Option Operand} : isAl (.makeMap t r) = true := id rfl
theorem isAl_move {x : Operand} : isAl (.move x) = false := id rfl
theorem isAl_assign {x : Operand} : isAl (.assign x) = false := id rfl
theorem isAl_pick {x y z : Operand} : isAl (.pick x y z) = false := id rfl
theorem isAl_build {t : TypeId} {ps : Array (Nat × Operand)} : isAl (.build t ps) = false := id rfl
theorem isAl_load {t : TypeId} {x : Operand} : isAl (.load t x) = false := id rfl
theorem isAl_store {t : TypeId} {x y : Operand} : isAl (.store t x y) = false := id rfl
theorem isAl_nilCheck {x : Operand} : isAl (.nilCheck x) = false := id rfl
theorem isAl_binOp {b : BinOp} {t u : TypeId} {x y : Operand} : isAl (.binOp b t x y u) = false := id rfl
theorem isAl_unOp {b : UnOp} {t : TypeId} {x : Operand} : isAl (.unOp b t x) = false := id rfl
theorem isAl_convert {t u : TypeId} {x : Operand} : isAl (.convert t u x) = false := id rfl
theorem isAl_makeFunc {f : Fn} {as bs : Array Operand} : isAl (.makeFunc f as bs) = false := id rfl
theorem isAl_fieldAddr {t : TypeId} {x : Operand} {n : Nat} : isAl (.fieldAddr t x n) = false := id rfl
theorem isAl_field {t : TypeId} {x : Operand} {n : Nat} : isAl (.field t x n) = false := id rfl
theorem isAl_indexAddr {t : TypeId} {x y : Operand} : isAl (.indexAddr t x y) = false := id rfl
theorem isAl_index {t : TypeId} {x y : Operand} : isAl (.index t x y) = false := id rfl
theorem isAl_slice {t : TypeId} {x : Operand} {l m k : Option Operand} : isAl (.slice t x l m k) = false := id rfl
theorem isAl_insert {t : TypeId} {x y z : Operand} : isAl (.insert t x y z) = false := id rfl
theorem isAl_lookup {t : TypeId} {x y : Operand} {o : Bool} : isAl (.lookup t x y o) = false := id rfl
theorem isAl_extract {x : Operand} {n : Nat} : isAl (.extract x n) = false := id rfl
theorem isAl_call {c : Call} : isAl (.call c) = false := id rfl
theorem opT_ms {t : TypeId} {x y : Operand} : opTarget (.makeSlice t x y) = none := id rfl
theorem opT_mm {t : TypeId} {r : Option Operand} : opTarget (.makeMap t r) = none := id rfl
theorem opT_field {t : TypeId} {x : Operand} {n : Nat} : opTarget (.field t x n) = none := id rfl
theorem opT_index {t : TypeId} {x y : Operand} : opTarget (.index t x y) = none := id rfl
theorem opT_slice {t : TypeId} {x : Operand} {l m k : Option Operand} : opTarget (.slice t x l m k) = none := id rfl
theorem opT_insert {t : TypeId} {x y z : Operand} : opTarget (.insert t x y z) = none := id rfl
theorem opT_lookup {t : TypeId} {x y : Operand} {o : Bool} : opTarget (.lookup t x y o) = none := id rfl
end
/-- A loop. -/
theorem wp_loop_a {c : Code} (hok : okC N c = true) (I : Nat → Env → List Ob → Prop) (n : Nat) (h0 : I n T h)
    (round : ∀ n T h, I n T h → wpC P N B c (thenA (fun T' h' => ∃ n', n' < n ∧ I n' T' h') Q) T h) : @StopA P N B ⟨(.loop c, Q)⟩ T h :=
  awp_loop I n h0 fun n T h k => wpC_sound c hok (round n T h k)
/-- A loop of a few rounds, one by one. -/
def RndA (P : Program) (N B : Nat) (n : Nat) [x : Held (Code × PostA)] (T : Env) (h : List Ob) : Prop :=
  ∀ (φ : Nat → Ob), Upto φ h.length → ∀ (w : World) (g : Gh) (a : Act), Rel N B w g (fill φ h) a T → Code.rounds P x.it.1 (fun e a' w' => ∃ T' h', x.it.2 e T' h' ∧ Aft N B φ w g h T' h' a' w') n a w
theorem rounds_mono {c : Code} {Q Q' : Exit → Act → World → Prop} (hq : ∀ e a w, Q e a w → Q' e a w) : ∀ (n : Nat) {a : Act} {w : World}, Code.rounds P c Q n a w → Code.rounds P c Q' n a w
  | 0, _, _, k => k
  | n + 1, a, w, k => by
    rw [rounds_succ] at k ⊢
    refine wp_mono k fun e a' w' q => ?_
    cases e <;> first
      | exact rounds_mono hq n q
      | exact hq _ _ _ q
theorem wp_unroll {c : Code} (n : Nat) (k : @RndA P N B n ⟨(c, Q)⟩ T h) : @StopA P N B ⟨(.loop c, Q)⟩ T h := fun φ hu w g a r => wp_loop_rounds n (k φ hu w g a r)
theorem rnd_succ {c : Code} {n : Nat} (hok : okC N c = true) (k : wpC P N B c (thenA (fun T' h' => @RndA P N B n ⟨(c, Q)⟩ T' h') Q) T h) : @RndA P N B (n + 1) ⟨(c, Q)⟩ T h := fun φ hu w g a r => by
  rw [rounds_succ]
  refine wp_mono (wpC_sound c hok k φ hu w g a r) fun e a' w' ⟨T', h', e1, e2⟩ => ?_
  cases e with
  | normal =>
    have hl := e2.len
    obtain ⟨g', q1, q2, q3⟩ := e2
    exact rounds_mono (fun _ _ _ ⟨T2, h2, z1, z2⟩ => ⟨T2, h2, z1, z2.trans q1 q3⟩) n (e1 φ (hu.mono hl) w' g' a' q2)
  | _ => exact ⟨T', h', e1, e2⟩
/-- A function. -/
theorem acalls_wp {f : FuncId} (fn : Func) {c : Code} {as : List AV} {R : AV → List Ob → Prop} (rs : List ResultVar) (N : Nat) (hf : P.funcs[f]? = some fn) (hb : fn.body = some c) (hN : fn.ntmps = N) (hrs : fn.results.toList = rs) (hn : as.length.ble N = true) (hok : okFn P f = true) (hc : okC N c = true) (hex : ∃ r h', R r h' ∧ ResK h h')
    (k : ∀ B, wpC P N B c (endA P rs h R) (nth as) h) : ACalls P f as h R := acalls_of hf hb hN hrs (Nat.le_of_ble_eq_true hn) hok hex fun B => wpC_sound c hc (k B)
/-- A cut: what code comes to, before what stands behind it is looked at. -/
theorem wp_cut {c d : Code} (S : Env → List Ob → Prop) (k1 : wpC P N B c (thenA S Q) T h) (hc : okC N c = true) (hd : okC N d = true) (k2 : ∀ T h, S T h → wpC P N B d Q T h) : AWp P N B (.seq c d) Q T h := by
  refine awp_seq ((wpC_sound c hc k1).mono fun e T h q => ?_)
  cases e <;> first
    | exact wpC_sound d hd (k2 _ _ q)
    | exact q
end
theorem one_v {x : Value} : AV.one (.v x) = x.oneCell' := id rfl
theorem one_sl {e : Nat} {xs : List (List AV)} : AV.one (.sl e xs) = true := id rfl
theorem one_tl {i s : Nat} : AV.one (.tl i s) = true := id rfl
theorem one_ptr {i s : Nat} : AV.one (.ptr i s) = true := id rfl
theorem one_ep {a : AV} {e i k : Nat} : AV.one (.ep a e i k) = true := id rfl
theorem one_em : AV.one .em = true := id rfl
theorem one_vw {a : AV} {e i n : Nat} : AV.one (.vw a e i n) = true := id rfl
theorem cells_em : AV.cells .em = some [.em] := id rfl
theorem cells_vw {a : AV} {e i n : Nat} : AV.cells (.vw a e i n) = some [.vw a e i n] := id rfl
theorem one_mp {i : Nat} : AV.one (.mp i) = true := id rfl
theorem cells_mp {i : Nat} : AV.cells (.mp i) = some [.mp i] := id rfl
theorem one_fn {f : Fn} {a b : List AV} : AV.one (.fn f a b) = true := id rfl
theorem cells_ag {cs : List AV} : AV.cells (.ag cs) = if cs.all AV.one then some cs else none := id rfl
theorem cells_v {x : Value} : AV.cells (.v x) = if x.oneCell' then some [.v x] else none := id rfl
theorem cells_sl {e : Nat} {xs : List (List AV)} : AV.cells (.sl e xs) = some [.sl e xs] := id rfl
theorem cells_tl {i s : Nat} : AV.cells (.tl i s) = some [.tl i s] := id rfl
theorem cells_ptr {i s : Nat} : AV.cells (.ptr i s) = some [.ptr i s] := id rfl
theorem cells_ep {a : AV} {e i k : Nat} : AV.cells (.ep a e i k) = some [.ep a e i k] := id rfl
theorem cells_fn {f : Fn} {a b : List AV} : AV.cells (.fn f a b) = some [.fn f a b] := id rfl
def rowTl (o : Option Ob) (st : Nat) : Option (List (List AV)) := match o with
  | some (.row _ _ xs s) => if s = st then some xs else none
  | _ => none
def eTl (o : Option Ob) : Option Nat := match o with
  | some (.row _ e _ _) => some e
  | _ => none
section
variable {h h' : List Ob}
theorem rowsOf_sl {e : Nat} {xs : List (List AV)} : rowsOf h (.sl e xs) = some xs := id rfl
theorem rowsOf_em : rowsOf h .em = some [] := id rfl
theorem rowsOf_vw {a : AV} {e i n : Nat} : rowsOf h (.vw a e i n) = (rowsOf h a).bind fun xs => if i + n ≤ xs.length ∧ (n = 0 ∨ eOf h a = some e) then some ((xs.drop i).take n) else none := id rfl
theorem eOf_vw {a : AV} {e i n : Nat} : eOf h (.vw a e i n) = (eOf h a).bind fun e' => if e' = e then some e else none := id rfl
theorem rowsOf_nil {k : Nat} : rowsOf h (.v (.slice none 0 k)) = some [] := id rfl
theorem rowsOf_tl {id' st : Nat} : rowsOf h (.tl id' st) = rowTl h[id']? st := id rfl
theorem rowTl_row {ty e s st : Nat} {xs : List (List AV)} : rowTl (some (.row ty e xs s)) st = if s = st then some xs else none := id rfl
theorem eOf_sl {e : Nat} {xs : List (List AV)} : eOf h (.sl e xs) = some e := id rfl
theorem eOf_tl {id' st : Nat} : eOf h (.tl id' st) = eTl h[id']? := id rfl
theorem eTl_row {ty e s : Nat} {xs : List (List AV)} : eTl (some (.row ty e xs s)) = some e := id rfl
theorem rowsOf_v {x : Value} : rowsOf h (.v x) = rowsOf h' (.v x) := by
  unfold rowsOf
  cases x <;> first
    | rfl
    | (rename_i a n k; cases a <;> cases n <;> rfl)
theorem eOf_v {x : Value} : eOf h (.v x) = eOf h' (.v x) := by cases x <;> rfl
/-- What a slice's rows are. -/
structure SlOf (h : List Ob) (a : AV) (e : Nat) (xs : List (List AV)) : Prop where
  rows : rowsOf h a = some xs
  ee : xs ≠ [] → eOf h a = some e
theorem eOf_app {L : List Ob} : ∀ (a : AV) {e : Nat}, eOf h a = some e → eOf (h ++ L) a = some e
  | .sl _ _, _, he => he
  | .tl id st, e, he => by
    simp only [eOf] at he ⊢
    split at he
    · rename_i ty e' ys s ho
      rw [get_app_old ho]
      exact he
    · cases he
  | .vw a e0 i n, e, he => by
    simp only [eOf] at he ⊢
    cases ha : eOf h a with
    | none => rw [ha] at he; cases he
    | some e1 => rw [ha] at he; rw [eOf_app a ha]; exact he
  | .v _, _, he | .em, _, he | .ptr _ _, _, he | .ep _ _ _ _, _, he | .mp _, _, he | .ag _, _, he | .tup _, _, he | .fn _ _ _, _, he | .bad, _, he => by cases he
theorem rowsOf_app {L : List Ob} : ∀ (a : AV) {xs : List (List AV)}, rowsOf h a = some xs → rowsOf (h ++ L) a = some xs
  | .sl _ _, _, hr => hr
  | .em, _, hr => hr
  | .tl id st, xs, hr => by
    simp only [rowsOf] at hr ⊢
    split at hr
    · rename_i ty e' ys s ho
      rw [get_app_old ho]
      exact hr
    · cases hr
  | .vw a e i n, xs, hr => by
    simp only [rowsOf] at hr ⊢
    cases ha : rowsOf h a with
    | none => rw [ha] at hr; cases hr
    | some ys =>
      rw [ha] at hr
      rw [rowsOf_app a ha]
      simp only [Option.bind_some] at hr ⊢
      split at hr
      · rename_i hc
        rw [if_pos ⟨hc.1, hc.2.imp id (eOf_app a)⟩]
        exact hr
      · cases hr
  | .v x, xs, hr => by rw [← rowsOf_v (h := h)]; exact hr
  | .ptr _ _, _, hr | .ep _ _ _ _, _, hr | .mp _, _, hr | .ag _, _, hr | .tup _, _, hr | .fn _ _ _, _, hr | .bad, _, hr => by cases hr
theorem SlOf.app {h : List Ob} {a : AV} {e : Nat} {xs : List (List AV)} (s : SlOf h a e xs) (L : List Ob) : SlOf (h ++ L) a e xs := ⟨rowsOf_app a s.rows, fun k => eOf_app a (s.ee k)⟩
theorem rowsOf_one : ∀ {a : AV} {xs : List (List AV)}, rowsOf h a = some xs → AV.one a = true
  | .sl _ _, _, _ | .em, _, _ | .tl _ _, _, _ | .vw _ _ _ _, _, _ => rfl
  | .v x, xs, hr => by
    unfold rowsOf at hr
    split at hr <;> rename_i heq <;> first
      | (cases heq; done)
      | (injection heq with heq; subst heq; rfl)
      | cases hr
  | .ptr _ _, _, hr | .ep _ _ _ _, _, hr | .mp _, _, hr | .ag _, _, hr | .tup _, _, hr | .fn _ _ _, _, hr | .bad, _, hr => by cases hr
theorem SlOf.one {h : List Ob} {a : AV} {e : Nat} {xs : List (List AV)} (s : SlOf h a e xs) : AV.one a = true := rowsOf_one s.rows
theorem SlOf.cells {h : List Ob} {a : AV} {e : Nat} {xs : List (List AV)} (s : SlOf h a e xs) : AV.cells a = some [a] := by
  have h1 := s.one
  obtain ⟨h2, _⟩ := s
  cases a with
  | v x => rw [cells_v, if_pos (by simpa [one_v] using h1)]
  | ag cs => cases h2
  | tup cs => cases h2
  | bad => cases h2
  | _ => rfl
theorem SlOf.at {h : List Ob} {a : AV} {e : Nat} {xs : List (List AV)} (s : SlOf h a e xs) {i : Nat} (hi : i < xs.length) : eOf h a = some e := s.ee fun hx => by rw [hx] at hi; simp at hi
end
theorem wl0 : IntKind.wrap .i64 0 = 0 := by decide
theorem wl1 : IntKind.wrap .i64 1 = 1 := by decide
theorem wl2 : IntKind.wrap .i64 2 = 2 := by decide
theorem wl3 : IntKind.wrap .i64 3 = 3 := by decide
theorem wl4 : IntKind.wrap .i64 4 = 4 := by decide
theorem wl5 : IntKind.wrap .i64 5 = 5 := by decide
theorem wl6 : IntKind.wrap .i64 6 = 6 := by decide
theorem wl7 : IntKind.wrap .i64 7 = 7 := by decide
theorem wl8 : IntKind.wrap .i64 8 = 8 := by decide
theorem wl9 : IntKind.wrap .i64 9 = 9 := by decide
theorem wl10 : IntKind.wrap .i64 10 = 10 := by decide
theorem wl11 : IntKind.wrap .i64 11 = 11 := by decide
theorem wl12 : IntKind.wrap .i64 12 = 12 := by decide
theorem wl13 : IntKind.wrap .i64 13 = 13 := by decide
theorem wl14 : IntKind.wrap .i64 14 = 14 := by decide
theorem wl15 : IntKind.wrap .i64 15 = 15 := by decide
theorem wl16 : IntKind.wrap .i64 16 = 16 := by decide
theorem wl17 : IntKind.wrap .i64 17 = 17 := by decide
theorem wl18 : IntKind.wrap .i64 18 = 18 := by decide
theorem wl19 : IntKind.wrap .i64 19 = 19 := by decide
theorem wl20 : IntKind.wrap .i64 20 = 20 := by decide
theorem wlm : IntKind.wrap .i64 (-1) = -1 := by decide
attribute [go_sem] wl0 wl1 wl2 wl3 wl4 wl5 wl6 wl7 wl8 wl9 wl10 wl11 wl12 wl13 wl14 wl15 wl16 wl17 wl18 wl19 wl20 wlm
theorem opT_move {x : Operand} : opTarget (.move x) = none := id rfl
theorem opT_assign {x : Operand} : opTarget (.assign x) = none := id rfl
theorem opT_pick {x : Operand} {y : Operand} {z : Operand} : opTarget (.pick x y z) = none := id rfl
theorem opT_alloc {t : TypeId} : opTarget (.alloc t) = none := id rfl
theorem opT_box {t : TypeId} {x : Operand} : opTarget (.box t x) = none := id rfl
theorem opT_build {t : TypeId} {ps : Array (Nat × Operand)} : opTarget (.build t ps) = none := id rfl
theorem opT_buildSlice {t : TypeId} {n : Nat} {ps : Array (Nat × Operand)} : opTarget (.buildSlice t n ps) = none := id rfl
theorem opT_load {t : TypeId} {x : Operand} : opTarget (.load t x) = none := id rfl
theorem opT_store {t : TypeId} {x : Operand} {y : Operand} : opTarget (.store t x y) = none := id rfl
theorem opT_nilCheck {x : Operand} : opTarget (.nilCheck x) = none := id rfl
theorem opT_binOp {b : BinOp} {t : TypeId} {x : Operand} {y : Operand} {u : TypeId} : opTarget (.binOp b t x y u) = none := id rfl
theorem opT_unOp {q : UnOp} {t : TypeId} {x : Operand} : opTarget (.unOp q t x) = none := id rfl
theorem opT_convert {t : TypeId} {u : TypeId} {x : Operand} : opTarget (.convert t u x) = none := id rfl
theorem opT_makeFunc {f : Fn} {as : Array Operand} {bs : Array Operand} : opTarget (.makeFunc f as bs) = none := id rfl
theorem opT_fieldAddr {t : TypeId} {x : Operand} {n : Nat} : opTarget (.fieldAddr t x n) = none := id rfl
theorem opT_indexAddr {t : TypeId} {x : Operand} {y : Operand} : opTarget (.indexAddr t x y) = none := id rfl
theorem opT_extract {x : Operand} {n : Nat} : opTarget (.extract x n) = none := id rfl
theorem opT_call {b : Builtin} {as : Array Operand} {tys : Array TypeId} : opTarget (.call ⟨.builtin b, as, tys⟩) = none := id rfl
theorem beq_ff {b : Bool} (e : (b == false) = false) : b = true := by cases b <;> simp_all
theorem beq_ft {b : Bool} (e : (b == false) = true) : b = false := by cases b <;> simp_all
theorem beq_tf {b : Bool} (e : (b == true) = false) : b = false := by cases b <;> simp_all
theorem beq_tt {b : Bool} (e : (b == true) = true) : b = true := by cases b <;> simp_all
attribute [go_sem] opT_move opT_assign opT_pick opT_alloc opT_box opT_build opT_buildSlice opT_load opT_store opT_nilCheck opT_binOp opT_unOp opT_convert opT_makeFunc opT_fieldAddr opT_indexAddr opT_extract opT_call
attribute [go_sem] wpQ_nil wpQ_cons onOp_some stepQ_none stepQ_some runQ_al runQ_q allocK_some slot_app slot_len againAll_nil againAll_cons againA_eq valG_none valG_some valK_b valK_u isAl_alloc isAl_box isAl_bs isAl_ms isAl_mm isAl_move isAl_assign isAl_pick isAl_build isAl_load isAl_store isAl_nilCheck isAl_binOp isAl_unOp isAl_convert isAl_makeFunc isAl_fieldAddr isAl_field isAl_indexAddr isAl_index isAl_slice isAl_insert isAl_lookup isAl_extract isAl_call opT_ms opT_mm opT_field opT_index opT_slice opT_insert opT_lookup
attribute [go_sem] onBool_b contA_some callK_fn guardK_b guardK_u runC_op runC_call wpR_nil wpR_none wpR_some wpC_skip wpC_label wpC_seq wpC_region wpC_cond wpC_block wpC_exit wpC_ret wpC_loop wpC_draw thenA_n thenA_x thenA_r blockA_n blockA_r blockA_x upd_e putA_s putA_n ways_true ways_false
  guardAt ev evl evs ofV nth cut lay fillA fplace splace chunk bads one_v one_em one_vw one_mp cells_em cells_vw cells_mp rowsOf_em rowsOf_vw eOf_vw one_sl one_tl one_ptr one_ep one_fn cells_ag cells_v cells_sl cells_tl cells_ptr cells_ep cells_fn part loadA storeA rowsOf_sl rowsOf_nil rowsOf_tl rowTl_row eOf_sl eOf_tl eTl_row idxA appendA binA isShift shiftA arithA nilA isNilOp isNilV truthA nonNil isEm someRow ownPart putRows layRows zeroA allocA insA lookA lookR keyI keysOk hasKey repKey ordIns intOr maxA minA eqCells intFields
  evalOp callA resA resAll resOne tupA app_lit get_app0 get_appk set_app0 set_appk Value.oneCell'
attribute [go_sem] List.head?_cons eq_self List.length_set Option.getD_some Option.isSome_some if_true if_false Option.map_some Option.map_none Option.bind_some Option.bind_none List.map_cons List.map_nil List.length_cons List.length_nil List.length_append List.cons_append List.nil_append List.append_nil
  List.set_cons_zero List.set_cons_succ List.getElem?_cons_zero List.getElem?_cons_succ List.getElem?_nil List.all_cons List.all_nil Bool.and_true Bool.and_self Bool.true_and Bool.false_eq_true and_self and_true true_and ne_eq not_false_eq_true
  List.take_succ_cons List.take_zero List.drop_succ_cons List.drop_zero beq_self_eq_true decide_true decide_false Nat.zero_add Nat.add_zero Bool.not_true Bool.not_false List.getElem?_toArray Bool.true_beq Bool.false_beq Bool.false_and Bool.and_false Bool.true_or Bool.or_true Bool.false_or Bool.or_false
attribute [go_sem] Nat.reduceAdd Nat.reduceMul Nat.reduceSub Nat.reduceLT Nat.reduceLeDiff Nat.reduceEqDiff reduceIte reduceCtorEq Int.reduceEq Int.reduceLT Int.reduceLE Int.reduceBEq Int.reduceToNat Int.reduceAdd Int.cast_ofNat_Int
end Go.Proofs.YtpdghiplnlhnfaaGreat.Ax
