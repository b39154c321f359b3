/-
  Joined.
-/
import Derived.Test.YtigdlmpjijhpaaaGreatK04
set_option linter.unusedSimpArgs false
set_option linter.unusedVariables false
namespace Go.Proofs.YtigdlmpjijhpaaaGreat.Ax
open Go Go.RowKit
section
variable {h L:List Ob} {o:Ob} {α:Type}
theorem xUa (l m:List α):(l++m)[l.length]? =m[0]? :=by rw[List.getElem?_append_right (Nat.le_refl _),Nat.sub_self]
theorem xVa (l m:List α) (k:Nat):(l++m)[l.length+k]? =m[k]? :=by rw[List.getElem?_append_right (by omega),Nat.add_sub_cancel_left]
theorem xWa (l m:List α) (o:α):(l++m).set l.length o=l++m.set 0 o:=by rw[List.set_append_right _ _ (Nat.le_refl _),Nat.sub_self]
theorem xXa (l m:List α) (k:Nat) (o:α):(l++m).set (l.length+k) o=l++m.set k o:=by rw[List.set_append_right _ _ (by omega),Nat.add_sub_cancel_left]
theorem v9a (l:List α) (a b:List α):(l++a)++b=l++(a++b):=List.append_assoc l a b
theorem zb {l m:List α} {i:Nat} {a:α} (b:l[i]? =some a):(l++m)[i]? =some a:=by
 rw[List.getElem?_append_left (List.getElem?_eq_some_iff.1 b).1];exact b
theorem z6 {l m:List α} {i:Nat} {a b:α} (c:l[i]? =some a):(l++m).set i b=l.set i b++m:=
 List.set_append_left _ _ (List.getElem?_eq_some_iff.1 c).1
theorem zh {l:List α} {i:Nat} {a b:α} (c:l[i]? =some a):(l.set i b)[i]? =some b:=by
 rw[List.getElem?_set_self (List.getElem?_eq_some_iff.1 c).1]
end
end Go.Proofs.YtigdlmpjijhpaaaGreat.Ax
