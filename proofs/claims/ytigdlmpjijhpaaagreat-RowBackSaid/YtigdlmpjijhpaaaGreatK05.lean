import Derived.Test.YtigdlmpjijhpaaaGreatKA
import Derived.Test.YtigdlmpjijhpaaaGreatK04
set_option linter.all false
namespace Go.Proofs.YtigdlmpjijhpaaaGreat.Ax
open Go Go.RowKit
section
variable {h L:List Ob} {o:Ob} {α:Type}
theorem yga(l m:List α):(l++m)[l.length]? =m[0]? :=by rw[zI (zo _),Nat.sub_self]
theorem yha(l m:List α)(k:Nat):(l++m)[l.length+k]? =m[k]? :=by rw[zI (by omega),Nat.add_sub_cancel_left]
theorem yia(l m:List α)(o:α):(l++m).set l.length o=l++m.set 0 o:=by rw[zR _ _ (zo _),Nat.sub_self]
theorem yja(l m:List α)(k:Nat)(o:α):(l++m).set (l.length+k) o=l++m.set k o:=by rw[zR _ _ (by omega),Nat.add_sub_cancel_left]
theorem QEa(l:List α)(a b:List α):(l++a)++b=l++(a++b):=zn l a b
theorem zf{l m:List α}{i:Nat}{a:α}(hi:l[i]? =some a):(l++m)[i]? =some a:=by
 rw[zC (zd.1 hi).1];exact hi
theorem jc{l m:List α}{i:Nat}{a b:α}(hi:l[i]? =some a):(l++m).set i b=l.set i b++m:=
 qV _ _ (zd.1 hi).1
theorem zq{l:List α}{i:Nat}{a b:α}(hi:l[i]? =some a):(l.set i b)[i]? =some b:=by
 rw[zm (zd.1 hi).1]
end
