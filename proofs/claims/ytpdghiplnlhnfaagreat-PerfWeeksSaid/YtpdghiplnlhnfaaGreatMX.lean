/-
  Joined: Ax18, Ty. Nothing is proved here of a statement.
-/
import Derived.Test.YtpdghiplnlhnfaaGreatMW
import Derived.Test.YtpdghiplnlhnfaaGreatMR
import Derived.Test.YtpdghiplnlhnfaaGreatProg
namespace Go.Proofs.YtpdghiplnlhnfaaGreat.Ax
set_option linter.unusedSimpArgs false
set_option linter.unusedVariables false
open Go Go.RowKit
section
variable {P : Program} {N B : Nat} {T : Env} {h : List Ob} {Q Q' : PostA}
theorem ways_mono {b : Bool} {p q p' q' : Prop} (h1 : p → p') (h2 : q → q') (k : @Ways b ⟨p⟩ ⟨q⟩) : @Ways b ⟨p'⟩ ⟨q'⟩ := ⟨fun e => h1 (k.1 e), fun e => h2 (k.2 e)⟩
theorem runC_mono {o : Oper} {K K' : Env → List Ob → Prop} (hk : ∀ T h, K T h → K' T h) (k : runC P T h o K) : runC P T h o K' := by
  unfold runC at k ⊢
  cases ht : opTarget o.op with
  | some q =>
    rw [ht] at k
    simp only [callK] at k ⊢
    split at k
    · exact ACalls.mono k fun r h' => hk _ _
    · exact k.elim
  | none =>
    rw [ht] at k
    simp only [contA] at k ⊢
    split at k
    · exact hk _ _ k
    · exact k.elim
theorem wpR_mono {ops : Array Oper} {K K' : Env → List Ob → Prop} (hk : ∀ T h, K T h → K' T h) : ∀ (l : List Oper) {T : Env} {h : List Ob}, wpR P ops K l T h → wpR P ops K' l T h
  | [], _, _, k => hk _ _ k
  | o :: r, T, h, k => by
    have ih : ∀ T h, wpR P ops K r T h → wpR P ops K' r T h := fun T h => wpR_mono hk r
    unfold wpR at k ⊢
    cases hg : o.guard with
    | none => simp only [hg] at k ⊢; exact runC_mono ih k
    | some q =>
      obtain ⟨j, want⟩ := q
      simp only [hg] at k ⊢
      unfold guardK at k ⊢
      split at k
      · exact ways_mono (runC_mono ih) (ih _ _) k
      · exact ih _ _ k
      · exact k.elim
theorem stop_mono {c : Code} (hq : ∀ e T h, Q e T h → Q' e T h) (k : @StopA P N B ⟨(c, Q)⟩ T h) : @StopA P N B ⟨(c, Q')⟩ T h := AWp.mono k hq
theorem wpC_mono : ∀ (c : Code) {Q Q' : PostA} {T : Env} {h : List Ob}, (∀ e T h, Q e T h → Q' e T h) → wpC P N B c Q T h → wpC P N B c Q' T h := by
  intro c
  induction c with
  | skip => intro Q Q' T h hq k; exact hq _ _ _ k
  | label l => intro Q Q' T h hq k; exact hq _ _ _ k
  | seq a b iha ihb =>
    intro Q Q' T h hq k
    refine iha (fun e T h q => ?_) k
    cases e <;> first
      | exact ihb hq q
      | exact hq _ _ _ q
  | region id ops d =>
    intro Q Q' T h hq k
    cases d with
    | false => exact wpR_mono (hq _) _ k
    | true => exact stop_mono hq k
  | cond x a b iha ihb =>
    intro Q Q' T h hq k
    unfold wpC onBool at k ⊢
    split at k
    · exact ways_mono (iha hq) (ihb hq) k
    · exact k.elim
  | block id c ih =>
    intro Q Q' T h hq k
    refine ih (fun e T h q => ?_) k
    cases e <;> try exact hq _ _ _ q
    rename_i j
    by_cases hj : j = id
    · rw [blockA_x, if_pos hj] at q ⊢; exact hq _ _ _ q
    · rw [blockA_x, if_neg hj] at q ⊢; exact hq _ _ _ q
  | loop c ih => intro Q Q' T h hq k; exact stop_mono hq k
  | exit id => intro Q Q' T h hq k; exact hq _ _ _ k
  | ret => intro Q Q' T h hq k; exact hq _ _ _ k
  | rangeFunc f p a b _ _ => intro Q Q' T h hq k; exact stop_mono hq k
  | scope b _ => intro Q Q' T h hq k; exact stop_mono hq k
  | goto l => intro Q Q' T h hq k; exact stop_mono hq k
  | refuse w => intro Q Q' T h hq k; exact stop_mono hq k
/-- Where ways come together: what holds there (S) is all that is known behind it. -/
theorem wpC_cut {a b : Code} (S : Env → List Ob → Prop) (h1 : wpC P N B a (thenA S Q) T h) (h2 : ∀ T h, S T h → wpC P N B b Q T h) : wpC P N B (.seq a b) Q T h := by
  refine wpC_mono a (fun e T h q => ?_) h1
  cases e <;> first
    | exact h2 _ _ q
    | exact q
theorem thenA_thenA {K K' : Env → List Ob → Prop} : thenA K (thenA K' Q) = thenA K Q := by
  funext e T h
  cases e <;> rfl
theorem wpC_assoc {a b c : Code} : wpC P N B (.seq a (.seq b c)) Q T h = wpC P N B (.seq (.seq a b) c) Q T h := by
  rw [wpC_seq, wpC_seq, wpC_seq, thenA_thenA]
  rfl
/-- What is known of what a loop starts with, in other words. -/
theorem stop_ghost {c : Code} (S : Env → List Ob → Prop) (gh : (∀ T h, S T h → AWp P N B c Q T h) → AWp P N B c Q T h) (k : ∀ T h, S T h → @StopA P N B ⟨(c, Q)⟩ T h) : @StopA P N B ⟨(c, Q)⟩ T h := gh k
end
end Go.Proofs.YtpdghiplnlhnfaaGreat.Ax

namespace Go.Proofs.YtpdghiplnlhnfaaGreat.Ax
set_option linter.unusedSimpArgs false
set_option linter.unusedVariables false
open Go Go.Proofs
set_option maxRecDepth 100000
theorem ty3 : tyOf Tryz.prog 3 = ⟨true, false, 1, 8, some [.int .i64 0], true, .int .i64⟩ := id rfl
theorem ty4 : tyOf Tryz.prog 4 = ⟨true, false, 1, 1, some [.bool false], true, .bool⟩ := id rfl
theorem ty5 : tyOf Tryz.prog 5 = ⟨true, false, 1, 1, some [.int .u8 0], true, .int .u8⟩ := id rfl
theorem ty9 : tyOf Tryz.prog 9 = ⟨true, false, 1, 16, some [.string ⟨#[]⟩], true, .str⟩ := id rfl
theorem ty22 : tyOf Tryz.prog 22 = ⟨true, false, 1, 24, some [.slice none 0 0], true, .slice 126⟩ := id rfl
theorem ty24 : tyOf Tryz.prog 24 = ⟨true, true, 2, 16, some [.int .i64 0, .int .i64 0], false, .struct [(0, 3), (1, 3)]⟩ := id rfl
theorem ty25 : tyOf Tryz.prog 25 = ⟨true, false, 1, 24, some [.slice none 0 0], true, .slice 84⟩ := id rfl
theorem ty26 : tyOf Tryz.prog 26 = ⟨true, false, 1, 24, some [.slice none 0 0], true, .slice 24⟩ := id rfl
theorem ty27 : tyOf Tryz.prog 27 = ⟨true, false, 1, 24, some [.slice none 0 0], true, .slice 3⟩ := id rfl
theorem ty28 : tyOf Tryz.prog 28 = ⟨true, false, 1, 24, some [.slice none 0 0], true, .slice 81⟩ := id rfl
theorem ty30 : tyOf Tryz.prog 30 = ⟨true, true, 23, 280, some [.int .i64 0, .slice none 0 0, .int .i64 0, .int .i64 0, .slice none 0 0, .slice none 0 0, .slice none 0 0, .int .i64 0, .int .i64 0, .int .i64 0, .int .i64 0, .int .i64 0, .int .i64 0, .int .i64 0, .int .i64 0, .int .i64 0, .int .i64 0, .int .i64 0, .slice none 0 0, .int .i64 0, .int .i64 0, .int .i64 0, .slice none 0 0], false, .struct [(0, 3), (1, 22), (2, 24), (4, 25), (5, 26), (6, 26), (7, 3), (8, 3), (9, 3), (10, 3), (11, 3), (12, 3), (13, 3), (14, 3), (15, 3), (16, 3), (17, 3), (18, 27), (19, 3), (20, 3), (21, 3), (22, 28)]⟩ := id rfl
theorem ty31 : tyOf Tryz.prog 31 = ⟨true, false, 1, 24, some [.slice none 0 0], true, .slice 61⟩ := id rfl
theorem ty34 : tyOf Tryz.prog 34 = ⟨true, false, 1, 8, some [.int .i64 0], true, .int .i64⟩ := id rfl
theorem ty38 : tyOf Tryz.prog 38 = ⟨true, true, 6, 48, some [.int .i64 0, .int .i64 0, .int .i64 0, .int .i64 0, .int .i64 0, .int .i64 0], false, .struct [(0, 24), (2, 3), (3, 24), (5, 34)]⟩ := id rfl
theorem ty42 : tyOf Tryz.prog 42 = ⟨true, false, 1, 24, some [.slice none 0 0], true, .slice 55⟩ := id rfl
theorem ty43 : tyOf Tryz.prog 43 = ⟨true, false, 1, 24, some [.slice none 0 0], true, .slice 86⟩ := id rfl
theorem ty49 : tyOf Tryz.prog 49 = ⟨true, false, 1, 24, some [.slice none 0 0], true, .slice 88⟩ := id rfl
theorem ty55 : tyOf Tryz.prog 55 = ⟨true, true, 5, 40, some [.int .i64 0, .int .i64 0, .int .i64 0, .int .i64 0, .int .i64 0], false, .struct [(0, 3), (1, 3), (2, 3), (3, 3), (4, 3)]⟩ := id rfl
theorem ty61 : tyOf Tryz.prog 61 = ⟨true, true, 11, 88, some [.int .i64 0, .int .i64 0, .int .i64 0, .int .i64 0, .int .i64 0, .int .i64 0, .int .i64 0, .int .i64 0, .int .i64 0, .int .i64 0, .int .i64 0], false, .struct [(0, 3), (1, 3), (2, 3), (3, 3), (4, 3), (5, 3), (6, 3), (7, 3), (8, 3), (9, 3), (10, 3)]⟩ := id rfl
theorem ty65 : tyOf Tryz.prog 65 = ⟨true, true, 3, 24, some [.int .i64 0, .int .i64 0, .int .i64 0], false, .struct [(0, 24), (2, 34)]⟩ := id rfl
theorem ty67 : tyOf Tryz.prog 67 = ⟨true, false, 1, 8, some [.nilFunc], true, .other⟩ := id rfl
theorem ty74 : tyOf Tryz.prog 74 = ⟨true, false, 1, 8, some [.nilFunc], true, .other⟩ := id rfl
theorem ty79 : tyOf Tryz.prog 79 = ⟨true, false, 1, 8, some [.nilFunc], true, .other⟩ := id rfl
theorem ty81 : tyOf Tryz.prog 81 = ⟨true, true, 2, 16, some [.int .i64 0, .int .i64 0], false, .struct [(0, 3), (1, 3)]⟩ := id rfl
theorem ty84 : tyOf Tryz.prog 84 = ⟨true, true, 4, 32, some [.int .i64 0, .int .i64 0, .int .i64 0, .int .i64 0], false, .struct [(0, 24), (2, 24)]⟩ := id rfl
theorem ty86 : tyOf Tryz.prog 86 = ⟨true, true, 2, 16, some [.int .i64 0, .int .i64 0], false, .struct [(0, 3), (1, 3)]⟩ := id rfl
theorem ty88 : tyOf Tryz.prog 88 = ⟨true, true, 2, 16, some [.int .i64 0, .int .i64 0], false, .struct [(0, 3), (1, 3)]⟩ := id rfl
theorem ty89 : tyOf Tryz.prog 89 = ⟨true, false, 1, 8, some [.pointer none], true, .ptr 92⟩ := id rfl
theorem ty90 : tyOf Tryz.prog 90 = ⟨true, false, 1, 8, some [.pointer none], true, .ptr 118⟩ := id rfl
theorem ty92 : tyOf Tryz.prog 92 = ⟨true, true, 26, 336, some [.int .i64 0, .slice none 0 0, .int .i64 0, .int .i64 0, .slice none 0 0, .slice none 0 0, .slice none 0 0, .int .i64 0, .int .i64 0, .int .i64 0, .int .i64 0, .int .i64 0, .int .i64 0, .int .i64 0, .int .i64 0, .int .i64 0, .int .i64 0, .int .i64 0, .slice none 0 0, .int .i64 0, .int .i64 0, .int .i64 0, .slice none 0 0, .pointer none, .slice none 0 0, .slice none 0 0], false, .struct [(0, 30), (23, 90), (24, 42), (25, 43)]⟩ := id rfl
theorem ty101 : tyOf Tryz.prog 101 = ⟨true, false, 1, 8, some [.nilFunc], true, .other⟩ := id rfl
theorem ty111 : tyOf Tryz.prog 111 = ⟨true, false, 1, 8, some [.nilFunc], true, .other⟩ := id rfl
theorem ty118 : tyOf Tryz.prog 118 = ⟨true, true, 12, 112, some [.int .i64 0, .int .i64 0, .int .i64 0, .int .i64 0, .int .i64 0, .int .i64 0, .int .i64 0, .int .i64 0, .int .i64 0, .int .i64 0, .int .i64 0, .slice none 0 0], false, .struct [(0, 61), (11, 31)]⟩ := id rfl
theorem ty120 : tyOf Tryz.prog 120 = ⟨true, false, 1, 8, some [.nilFunc], true, .other⟩ := id rfl
theorem ty126 : tyOf Tryz.prog 126 = ⟨true, true, 3, 24, some [.int .i64 0, .int .i64 0, .int .i64 0], false, .struct [(0, 3), (1, 3), (2, 3)]⟩ := id rfl
theorem ty128 : tyOf Tryz.prog 128 = ⟨true, false, 1, 8, some [.nilFunc], true, .other⟩ := id rfl
theorem ty131 : tyOf Tryz.prog 131 = ⟨true, false, 1, 8, some [.nilFunc], true, .other⟩ := id rfl
theorem ty133 : tyOf Tryz.prog 133 = ⟨true, false, 1, 8, some [.nilFunc], true, .other⟩ := id rfl
theorem ty136 : tyOf Tryz.prog 136 = ⟨true, false, 1, 8, some [.nilFunc], true, .other⟩ := id rfl
theorem ty137 : tyOf Tryz.prog 137 = ⟨true, false, 1, 24, some [.slice none 0 0], true, .slice 27⟩ := id rfl
theorem ty145 : tyOf Tryz.prog 145 = ⟨true, false, 1, 24, some [.slice none 0 0], true, .slice 150⟩ := id rfl
theorem ty148 : tyOf Tryz.prog 148 = ⟨true, false, 1, 8, some [.pointer none], true, .ptr 61⟩ := id rfl
theorem ty150 : tyOf Tryz.prog 150 = ⟨true, false, 1, 8, some [.pointer none], true, .ptr 3⟩ := id rfl
theorem ty155 : tyOf Tryz.prog 155 = ⟨true, false, 1, 8, some [.nilFunc], true, .other⟩ := id rfl
theorem ty162 : tyOf Tryz.prog 162 = ⟨true, false, 1, 8, some [.int .u64 0], true, .int .u64⟩ := id rfl
theorem ty170 : tyOf Tryz.prog 170 = ⟨true, false, 1, 8, some [.map none], true, .mapk 3 145⟩ := id rfl
theorem ty175 : tyOf Tryz.prog 175 = ⟨true, false, 1, 8, some [.int .i64 0], true, .int .i64⟩ := id rfl
theorem ty183 : tyOf Tryz.prog 183 = ⟨true, false, 1, 4, some [.int .u32 0], true, .int .u32⟩ := id rfl
theorem ty185 : tyOf Tryz.prog 185 = ⟨true, false, 1, 8, some [.int .u64 0], true, .int .u64⟩ := id rfl
theorem ty189 : tyOf Tryz.prog 189 = ⟨true, false, 1, 8, some [.int .u64 0], true, .int .u64⟩ := id rfl
theorem pe24 : plainEq Tryz.prog 24 = true := by unfold plainEq; rw [Tryz.eqGuardType24, Tryz.stoodInHeld24]; rfl
theorem pe55 : plainEq Tryz.prog 55 = true := by unfold plainEq; rw [Tryz.eqGuardType55, Tryz.stoodInHeld55]; rfl
theorem pe61 : plainEq Tryz.prog 61 = true := by unfold plainEq; rw [Tryz.eqGuardType61, Tryz.stoodInHeld61]; rfl
theorem pe86 : plainEq Tryz.prog 86 = true := by unfold plainEq; rw [Tryz.eqGuardType86, Tryz.stoodInHeld86]; rfl
theorem pe88 : plainEq Tryz.prog 88 = true := by unfold plainEq; rw [Tryz.eqGuardType88, Tryz.stoodInHeld88]; rfl
end Go.Proofs.YtpdghiplnlhnfaaGreat.Ax
