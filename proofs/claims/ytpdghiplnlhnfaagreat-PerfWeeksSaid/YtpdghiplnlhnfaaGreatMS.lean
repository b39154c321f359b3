/-
  Joined: Ax13. Nothing is proved here of a statement.
-/
import Derived.Test.YtpdghiplnlhnfaaGreatMR
namespace Go.Proofs.YtpdghiplnlhnfaaGreat.Ax
set_option linter.unusedSimpArgs false
set_option linter.unusedVariables false
open Go Go.RowKit
section
variable {h L : List Ob} {o : Ob} {α : Type}
theorem upd_at (T : Env) (d : Nat) (x : AV) (i : Nat) : upd T d x i = if i = d then x else T i := rfl
theorem get_app0 (l m : List α) : (l ++ m)[l.length]? = m[0]? := by rw [List.getElem?_append_right (Nat.le_refl _), Nat.sub_self]
theorem get_appk (l m : List α) (k : Nat) : (l ++ m)[l.length + k]? = m[k]? := by rw [List.getElem?_append_right (by omega), Nat.add_sub_cancel_left]
theorem set_app0 (l m : List α) (o : α) : (l ++ m).set l.length o = l ++ m.set 0 o := by rw [List.set_append_right _ _ (Nat.le_refl _), Nat.sub_self]
theorem set_appk (l m : List α) (k : Nat) (o : α) : (l ++ m).set (l.length + k) o = l ++ m.set k o := by rw [List.set_append_right _ _ (by omega), Nat.add_sub_cancel_left]
theorem app_lit (l : List α) (a b : List α) : (l ++ a) ++ b = l ++ (a ++ b) := List.append_assoc l a b
theorem get_app_old {l m : List α} {i : Nat} {a : α} (hi : l[i]? = some a) : (l ++ m)[i]? = some a := by
  rw [List.getElem?_append_left (List.getElem?_eq_some_iff.1 hi).1]; exact hi
theorem set_app_old {l m : List α} {i : Nat} {a b : α} (hi : l[i]? = some a) : (l ++ m).set i b = l.set i b ++ m :=
  List.set_append_left _ _ (List.getElem?_eq_some_iff.1 hi).1
theorem get_set_same {l : List α} {i : Nat} {a b : α} (hi : l[i]? = some a) : (l.set i b)[i]? = some b := by
  rw [List.getElem?_set_self (List.getElem?_eq_some_iff.1 hi).1]
theorem bind_ite {β : Type} (c : Prop) [Decidable c] (x y : Option α) (f : α → Option β) : (if c then x else y).bind f = if c then x.bind f else y.bind f := by split <;> rfl
end
end Go.Proofs.YtpdghiplnlhnfaaGreat.Ax
