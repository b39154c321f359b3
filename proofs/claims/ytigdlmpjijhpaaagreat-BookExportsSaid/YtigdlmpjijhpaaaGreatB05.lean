import Derived.Test.YtigdlmpjijhpaaaGreatBA
import Derived.Test.YtigdlmpjijhpaaaGreatB04
set_option linter.all false
namespace Go.Proofs.YtigdlmpjijhpaaaGreat.Ax
open Go Go.RowKit
section
variable {h L:List Ob} {o:Ob} {α:Type}
theorem Q7a(l m:List α):(l++m)[l.length]? =m[0]? :=by rw[zQ (zn _),Nat.sub_self]
theorem Q8a(l m:List α)(k:Nat):(l++m)[l.length+k]? =m[k]? :=by rw[zQ (by omega),Nat.add_sub_cancel_left]
theorem Q9a(l m:List α)(o:α):(l++m).set l.length o=l++m.set 0 o:=by rw[zL _ _ (zn _),Nat.sub_self]
theorem Jaa(l m:List α)(k:Nat)(o:α):(l++m).set (l.length+k) o=l++m.set k o:=by rw[zL _ _ (by omega),Nat.add_sub_cancel_left]
theorem KMa(l:List α)(a b:List α):(l++a)++b=l++(a++b):=zp l a b
theorem zf{l m:List α}{i:Nat}{a:α}(hi:l[i]? =some a):(l++m)[i]? =some a:=by
 rw[zH (zd.1 hi).1];exact hi
theorem jh{l m:List α}{i:Nat}{a b:α}(hi:l[i]? =some a):(l++m).set i b=l.set i b++m:=
 qb _ _ (zd.1 hi).1
theorem zq{l:List α}{i:Nat}{a b:α}(hi:l[i]? =some a):(l.set i b)[i]? =some b:=by
 rw[zo (zd.1 hi).1]
end
