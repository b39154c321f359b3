/-
  Joined: Ax18, Ty. Nothing is proved here of a statement.
-/
import Derived.Test.YtpdghiplnlhnfaaMW
import Derived.Test.YtpdghiplnlhnfaaMR
import Derived.Test.YtpdghiplnlhnfaaProg
namespace Go.Proofs.Ytpdghiplnlhnfaa.Ax
set_option linter.unusedSimpArgs false
set_option linter.unusedVariables false
open Go Go.RowKit
section
variable {P : Program} {N B : Nat} {T : Env} {h : List Ob} {Q Q' : PostA}
theorem ways_mono {b : Bool} {p q p' q' : Prop} (h1 : p → p') (h2 : q → q') (k : @Ways b ⟨p⟩ ⟨q⟩) : @Ways b ⟨p'⟩ ⟨q'⟩ := ⟨fun e => h1 (k.1 e), fun e => h2 (k.2 e)⟩
theorem runC_mono {o : Oper} {K K' : Env → List Ob → Prop} (hk : ∀ T h, K T h → K' T h) (k : runC P T h o K) : runC P T h o K' := by
  unfold runC at k ⊢
  cases ht : opTarget o.op with
  | some q =>
    rw [ht] at k
    simp only [callK] at k ⊢
    split at k
    · exact ACalls.mono k fun r h' => hk _ _
    · exact k.elim
  | none =>
    rw [ht] at k
    simp only [contA] at k ⊢
    split at k
    · exact hk _ _ k
    · exact k.elim
theorem wpR_mono {ops : Array Oper} {K K' : Env → List Ob → Prop} (hk : ∀ T h, K T h → K' T h) : ∀ (l : List Oper) {T : Env} {h : List Ob}, wpR P ops K l T h → wpR P ops K' l T h
  | [], _, _, k => hk _ _ k
  | o :: r, T, h, k => by
    have ih : ∀ T h, wpR P ops K r T h → wpR P ops K' r T h := fun T h => wpR_mono hk r
    unfold wpR at k ⊢
    cases hg : o.guard with
    | none => simp only [hg] at k ⊢; exact runC_mono ih k
    | some q =>
      obtain ⟨j, want⟩ := q
      simp only [hg] at k ⊢
      unfold guardK at k ⊢
      split at k
      · exact ways_mono (runC_mono ih) (ih _ _) k
      · exact ih _ _ k
      · exact k.elim
theorem stop_mono {c : Code} (hq : ∀ e T h, Q e T h → Q' e T h) (k : @StopA P N B ⟨(c, Q)⟩ T h) : @StopA P N B ⟨(c, Q')⟩ T h := AWp.mono k hq
theorem wpC_mono : ∀ (c : Code) {Q Q' : PostA} {T : Env} {h : List Ob}, (∀ e T h, Q e T h → Q' e T h) → wpC P N B c Q T h → wpC P N B c Q' T h := by
  intro c
  induction c with
  | skip => intro Q Q' T h hq k; exact hq _ _ _ k
  | label l => intro Q Q' T h hq k; exact hq _ _ _ k
  | seq a b iha ihb =>
    intro Q Q' T h hq k
    refine iha (fun e T h q => ?_) k
    cases e <;> first
      | exact ihb hq q
      | exact hq _ _ _ q
  | region id ops d =>
    intro Q Q' T h hq k
    cases d with
    | false => exact wpR_mono (hq _) _ k
    | true => exact stop_mono hq k
  | cond x a b iha ihb =>
    intro Q Q' T h hq k
    unfold wpC onBool at k ⊢
    split at k
    · exact ways_mono (iha hq) (ihb hq) k
    · exact k.elim
  | block id c ih =>
    intro Q Q' T h hq k
    refine ih (fun e T h q => ?_) k
    cases e <;> try exact hq _ _ _ q
    rename_i j
    by_cases hj : j = id
    · rw [blockA_x, if_pos hj] at q ⊢; exact hq _ _ _ q
    · rw [blockA_x, if_neg hj] at q ⊢; exact hq _ _ _ q
  | loop c ih => intro Q Q' T h hq k; exact stop_mono hq k
  | exit id => intro Q Q' T h hq k; exact hq _ _ _ k
  | ret => intro Q Q' T h hq k; exact hq _ _ _ k
  | rangeFunc f p a b _ _ => intro Q Q' T h hq k; exact stop_mono hq k
  | scope b _ => intro Q Q' T h hq k; exact stop_mono hq k
  | goto l => intro Q Q' T h hq k; exact stop_mono hq k
  | refuse w => intro Q Q' T h hq k; exact stop_mono hq k
/-- Where ways come together: what holds there (S) is all that is known behind it. -/
theorem wpC_cut {a b : Code} (S : Env → List Ob → Prop) (h1 : wpC P N B a (thenA S Q) T h) (h2 : ∀ T h, S T h → wpC P N B b Q T h) : wpC P N B (.seq a b) Q T h := by
  refine wpC_mono a (fun e T h q => ?_) h1
  cases e <;> first
    | exact h2 _ _ q
    | exact q
theorem thenA_thenA {K K' : Env → List Ob → Prop} : thenA K (thenA K' Q) = thenA K Q := by
  funext e T h
  cases e <;> rfl
theorem wpC_assoc {a b c : Code} : wpC P N B (.seq a (.seq b c)) Q T h = wpC P N B (.seq (.seq a b) c) Q T h := by
  rw [wpC_seq, wpC_seq, wpC_seq, thenA_thenA]
  rfl
/-- What is known of what a loop starts with, in other words. -/
theorem stop_ghost {c : Code} (S : Env → List Ob → Prop) (gh : (∀ T h, S T h → AWp P N B c Q T h) → AWp P N B c Q T h) (k : ∀ T h, S T h → @StopA P N B ⟨(c, Q)⟩ T h) : @StopA P N B ⟨(c, Q)⟩ T h := gh k
end
end Go.Proofs.Ytpdghiplnlhnfaa.Ax

namespace Go.Proofs.Ytpdghiplnlhnfaa.Ax
set_option linter.unusedSimpArgs false
set_option linter.unusedVariables false
open Go Go.Proofs
set_option maxRecDepth 100000
theorem ty3 : tyOf Try.prog 3 = ⟨true, false, 1, 8, some [.int .i64 0], true, .int .i64⟩ := id rfl
theorem ty4 : tyOf Try.prog 4 = ⟨true, false, 1, 1, some [.bool false], true, .bool⟩ := id rfl
theorem ty5 : tyOf Try.prog 5 = ⟨true, false, 1, 1, some [.int .u8 0], true, .int .u8⟩ := id rfl
theorem ty9 : tyOf Try.prog 9 = ⟨true, false, 1, 16, some [.string ⟨#[]⟩], true, .str⟩ := id rfl
theorem ty22 : tyOf Try.prog 22 = ⟨true, false, 1, 24, some [.slice none 0 0], true, .slice 113⟩ := id rfl
theorem ty24 : tyOf Try.prog 24 = ⟨true, true, 2, 16, some [.int .i64 0, .int .i64 0], false, .struct [(0, 3), (1, 3)]⟩ := id rfl
theorem ty25 : tyOf Try.prog 25 = ⟨true, false, 1, 24, some [.slice none 0 0], true, .slice 96⟩ := id rfl
theorem ty26 : tyOf Try.prog 26 = ⟨true, false, 1, 24, some [.slice none 0 0], true, .slice 24⟩ := id rfl
theorem ty27 : tyOf Try.prog 27 = ⟨true, false, 1, 24, some [.slice none 0 0], true, .slice 3⟩ := id rfl
theorem ty28 : tyOf Try.prog 28 = ⟨true, false, 1, 24, some [.slice none 0 0], true, .slice 59⟩ := id rfl
theorem ty30 : tyOf Try.prog 30 = ⟨true, true, 23, 280, some [.int .i64 0, .slice none 0 0, .int .i64 0, .int .i64 0, .slice none 0 0, .slice none 0 0, .slice none 0 0, .int .i64 0, .int .i64 0, .int .i64 0, .int .i64 0, .int .i64 0, .int .i64 0, .int .i64 0, .int .i64 0, .int .i64 0, .int .i64 0, .int .i64 0, .slice none 0 0, .int .i64 0, .int .i64 0, .int .i64 0, .slice none 0 0], false, .struct [(0, 3), (1, 22), (2, 24), (4, 25), (5, 26), (6, 26), (7, 3), (8, 3), (9, 3), (10, 3), (11, 3), (12, 3), (13, 3), (14, 3), (15, 3), (16, 3), (17, 3), (18, 27), (19, 3), (20, 3), (21, 3), (22, 28)]⟩ := id rfl
theorem ty31 : tyOf Try.prog 31 = ⟨true, false, 1, 24, some [.slice none 0 0], true, .slice 35⟩ := id rfl
theorem ty35 : tyOf Try.prog 35 = ⟨true, true, 11, 88, some [.int .i64 0, .int .i64 0, .int .i64 0, .int .i64 0, .int .i64 0, .int .i64 0, .int .i64 0, .int .i64 0, .int .i64 0, .int .i64 0, .int .i64 0], false, .struct [(0, 3), (1, 3), (2, 3), (3, 3), (4, 3), (5, 3), (6, 3), (7, 3), (8, 3), (9, 3), (10, 3)]⟩ := id rfl
theorem ty37 : tyOf Try.prog 37 = ⟨true, false, 1, 8, some [.int .i64 0], true, .int .i64⟩ := id rfl
theorem ty45 : tyOf Try.prog 45 = ⟨true, false, 1, 8, some [.nilFunc], true, .other⟩ := id rfl
theorem ty48 : tyOf Try.prog 48 = ⟨true, false, 1, 24, some [.slice none 0 0], true, .slice 53⟩ := id rfl
theorem ty49 : tyOf Try.prog 49 = ⟨true, false, 1, 24, some [.slice none 0 0], true, .slice 70⟩ := id rfl
theorem ty53 : tyOf Try.prog 53 = ⟨true, true, 5, 40, some [.int .i64 0, .int .i64 0, .int .i64 0, .int .i64 0, .int .i64 0], false, .struct [(0, 3), (1, 3), (2, 3), (3, 3), (4, 3)]⟩ := id rfl
theorem ty57 : tyOf Try.prog 57 = ⟨true, false, 1, 8, some [.nilFunc], true, .other⟩ := id rfl
theorem ty59 : tyOf Try.prog 59 = ⟨true, true, 2, 16, some [.int .i64 0, .int .i64 0], false, .struct [(0, 3), (1, 3)]⟩ := id rfl
theorem ty62 : tyOf Try.prog 62 = ⟨true, false, 1, 24, some [.slice none 0 0], true, .slice 98⟩ := id rfl
theorem ty70 : tyOf Try.prog 70 = ⟨true, true, 2, 16, some [.int .i64 0, .int .i64 0], false, .struct [(0, 3), (1, 3)]⟩ := id rfl
theorem ty75 : tyOf Try.prog 75 = ⟨true, false, 1, 8, some [.nilFunc], true, .other⟩ := id rfl
theorem ty79 : tyOf Try.prog 79 = ⟨true, true, 3, 24, some [.int .i64 0, .int .i64 0, .int .i64 0], false, .struct [(0, 24), (2, 37)]⟩ := id rfl
theorem ty84 : tyOf Try.prog 84 = ⟨true, false, 1, 8, some [.nilFunc], true, .other⟩ := id rfl
theorem ty85 : tyOf Try.prog 85 = ⟨true, false, 1, 8, some [.pointer none], true, .ptr 88⟩ := id rfl
theorem ty86 : tyOf Try.prog 86 = ⟨true, false, 1, 8, some [.pointer none], true, .ptr 125⟩ := id rfl
theorem ty88 : tyOf Try.prog 88 = ⟨true, true, 26, 336, some [.int .i64 0, .slice none 0 0, .int .i64 0, .int .i64 0, .slice none 0 0, .slice none 0 0, .slice none 0 0, .int .i64 0, .int .i64 0, .int .i64 0, .int .i64 0, .int .i64 0, .int .i64 0, .int .i64 0, .int .i64 0, .int .i64 0, .int .i64 0, .int .i64 0, .slice none 0 0, .int .i64 0, .int .i64 0, .int .i64 0, .slice none 0 0, .pointer none, .slice none 0 0, .slice none 0 0], false, .struct [(0, 30), (23, 86), (24, 48), (25, 49)]⟩ := id rfl
theorem ty96 : tyOf Try.prog 96 = ⟨true, true, 4, 32, some [.int .i64 0, .int .i64 0, .int .i64 0, .int .i64 0], false, .struct [(0, 24), (2, 24)]⟩ := id rfl
theorem ty98 : tyOf Try.prog 98 = ⟨true, true, 2, 16, some [.int .i64 0, .int .i64 0], false, .struct [(0, 3), (1, 3)]⟩ := id rfl
theorem ty101 : tyOf Try.prog 101 = ⟨true, false, 1, 8, some [.nilFunc], true, .other⟩ := id rfl
theorem ty104 : tyOf Try.prog 104 = ⟨true, false, 1, 24, some [.slice none 0 0], true, .slice 109⟩ := id rfl
theorem ty107 : tyOf Try.prog 107 = ⟨true, false, 1, 8, some [.pointer none], true, .ptr 35⟩ := id rfl
theorem ty109 : tyOf Try.prog 109 = ⟨true, false, 1, 8, some [.pointer none], true, .ptr 3⟩ := id rfl
theorem ty113 : tyOf Try.prog 113 = ⟨true, true, 3, 24, some [.int .i64 0, .int .i64 0, .int .i64 0], false, .struct [(0, 3), (1, 3), (2, 3)]⟩ := id rfl
theorem ty115 : tyOf Try.prog 115 = ⟨true, false, 1, 8, some [.nilFunc], true, .other⟩ := id rfl
theorem ty118 : tyOf Try.prog 118 = ⟨true, false, 1, 8, some [.nilFunc], true, .other⟩ := id rfl
theorem ty120 : tyOf Try.prog 120 = ⟨true, false, 1, 8, some [.nilFunc], true, .other⟩ := id rfl
theorem ty125 : tyOf Try.prog 125 = ⟨true, true, 12, 112, some [.int .i64 0, .int .i64 0, .int .i64 0, .int .i64 0, .int .i64 0, .int .i64 0, .int .i64 0, .int .i64 0, .int .i64 0, .int .i64 0, .int .i64 0, .slice none 0 0], false, .struct [(0, 35), (11, 31)]⟩ := id rfl
theorem ty127 : tyOf Try.prog 127 = ⟨true, false, 1, 8, some [.nilFunc], true, .other⟩ := id rfl
theorem ty129 : tyOf Try.prog 129 = ⟨true, false, 1, 24, some [.slice none 0 0], true, .slice 27⟩ := id rfl
theorem ty132 : tyOf Try.prog 132 = ⟨true, false, 1, 8, some [.nilFunc], true, .other⟩ := id rfl
theorem ty135 : tyOf Try.prog 135 = ⟨true, false, 1, 8, some [.map none], true, .mapk 3 104⟩ := id rfl
theorem ty137 : tyOf Try.prog 137 = ⟨true, false, 1, 8, some [.nilFunc], true, .other⟩ := id rfl
theorem ty150 : tyOf Try.prog 150 = ⟨true, false, 1, 8, some [.int .u64 0], true, .int .u64⟩ := id rfl
theorem ty158 : tyOf Try.prog 158 = ⟨true, false, 1, 8, some [.int .i64 0], true, .int .i64⟩ := id rfl
theorem ty166 : tyOf Try.prog 166 = ⟨true, false, 1, 4, some [.int .u32 0], true, .int .u32⟩ := id rfl
theorem ty168 : tyOf Try.prog 168 = ⟨true, false, 1, 8, some [.int .u64 0], true, .int .u64⟩ := id rfl
theorem ty173 : tyOf Try.prog 173 = ⟨true, false, 1, 8, some [.int .u64 0], true, .int .u64⟩ := id rfl
theorem pe24 : plainEq Try.prog 24 = true := by unfold plainEq; rw [Try.eqGuardType24, Try.stoodInHeld24]; rfl
theorem pe35 : plainEq Try.prog 35 = true := by unfold plainEq; rw [Try.eqGuardType35, Try.stoodInHeld35]; rfl
theorem pe53 : plainEq Try.prog 53 = true := by unfold plainEq; rw [Try.eqGuardType53, Try.stoodInHeld53]; rfl
theorem pe70 : plainEq Try.prog 70 = true := by unfold plainEq; rw [Try.eqGuardType70, Try.stoodInHeld70]; rfl
theorem pe98 : plainEq Try.prog 98 = true := by unfold plainEq; rw [Try.eqGuardType98, Try.stoodInHeld98]; rfl
end Go.Proofs.Ytpdghiplnlhnfaa.Ax
