import Derived.Test.YtjeehgkolepogaaGreatK04
set_option linter.all false
namespace Go.Proofs.YtjeehgkolepogaaGreat.Ax
open Go Go.RowKit
section
variable {h L:List Ob} {o:Ob} {α:Type}
def qQa(l m:List α):(l++m)[l.length]? =m[0]? :=by rw[zM (zB _),Nat.sub_self]
def qRa(l m:List α)(k:Nat):(l++m)[l.length+k]? =m[k]? :=by rw[zM zb,Nat.add_sub_cancel_left]
def qSa(l m:List α)(o:α):(l++m).set l.length o=l++m.set 0 o:=by rw[qd _ _ (zB _),Nat.sub_self]
def qTa(l m:List α)(k:Nat)(o:α):(l++m).set (l.length+k) o=l++m.set k o:=by rw[qd _ _ zb,Nat.add_sub_cancel_left]
def xXa(l:List α)(a b:List α):(l++a)++b=l++(a++b):=zq l a b
def zk{l m:List α}{i:Nat}{a:α}(hi:l[i]? =some a):(l++m)[i]? =some a:=by
 rw[zH (zj.1 hi).1];exact hi
def qL{l m:List α}{i:Nat}{a b:α}(hi:l[i]? =some a):(l++m).set i b=l.set i b++m:=
 List.set_append_left _ _ (zj.1 hi).1
def zt{l:List α}{i:Nat}{a b:α}(hi:l[i]? =some a):(l.set i b)[i]? =some b:=by
 rw[zr (zj.1 hi).1]
end
