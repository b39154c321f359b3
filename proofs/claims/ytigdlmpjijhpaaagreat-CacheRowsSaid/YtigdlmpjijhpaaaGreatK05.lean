import Derived.Test.YtigdlmpjijhpaaaGreatKA
import Derived.Test.YtigdlmpjijhpaaaGreatK04
set_option linter.all false
namespace Go.Proofs.YtigdlmpjijhpaaaGreat.Ax
open Go Go.RowKit
section
variable {h L:List Ob} {o:Ob} {α:Type}
theorem VG(T:Env)(d:Nat)(x:AV)(i:Nat):upd T d x i=if i=d then x else T i:=rfl
theorem Jta(l m:List α):(l++m)[l.length]? =m[0]? :=by rw[zX (zp _),Nat.sub_self]
theorem Jua(l m:List α)(k:Nat):(l++m)[l.length+k]? =m[k]? :=by rw[zX (by omega),Nat.add_sub_cancel_left]
theorem Jva(l m:List α)(o:α):(l++m).set l.length o=l++m.set 0 o:=by rw[zT _ _ (zp _),Nat.sub_self]
theorem Jwa(l m:List α)(k:Nat)(o:α):(l++m).set (l.length+k) o=l++m.set k o:=by rw[zT _ _ (by omega),Nat.add_sub_cancel_left]
theorem Vda(l:List α)(a b:List α):(l++a)++b=l++(a++b):=zr l a b
theorem ze{l m:List α}{i:Nat}{a:α}(hi:l[i]? =some a):(l++m)[i]? =some a:=by
 rw[zN (zd.1 hi).1];exact hi
theorem jj{l m:List α}{i:Nat}{a b:α}(hi:l[i]? =some a):(l++m).set i b=l.set i b++m:=
 qt _ _ (zd.1 hi).1
theorem zm{l:List α}{i:Nat}{a b:α}(hi:l[i]? =some a):(l.set i b)[i]? =some b:=by
 rw[zo (zd.1 hi).1]
end
