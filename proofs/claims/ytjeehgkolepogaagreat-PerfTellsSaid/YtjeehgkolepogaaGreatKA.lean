import Derived.KernelRfl
import Derived.Attr
set_option linter.all false
namespace Go.Proofs.YtjeehgkolepogaaGreat
def zB := @Nat.le_refl
def q9 := @Array.getElem?_eq_some_iff
def zj := @List.getElem?_eq_some_iff
def zr := @List.getElem?_set_self
def zf := @List.getElem?_set_ne
def zH := @List.getElem?_append_left
def zM := @List.getElem?_append_right
def zR := @List.getElem?_eq_none
def zi := @Bool.and_eq_true
def ja := @List.mem_of_getElem?
def zY := @List.all_eq_true
def qz := @List.ext_getElem?
def zK := @List.mem_cons
def zp := @List.length_append
def zg := @List.getElem?_eq_getElem
def jZ := @List.getElem?_take
def zT := @List.length_take
def qP := @List.length_set
def xi := @Array.length_toList
def zy := @List.eq_nil_of_length_eq_zero
def zx := @List.getElem_mem
def zV := @List.mem_append
def zq := @List.append_assoc
def qc := @List.take_append_drop
def zQ := @List.mem_map
def zD := @List.map_append
def zw := @List.getElem?_map
def xK := @Array.getElem?_toList
def zc := @List.length_map
def qf := @Array.getD_eq_getD_getElem?
def qd := @List.set_append_right
def zU := @Bool.or_eq_false_iff
def qB := @List.set_set
def qD := @List.mem_filter
def jb := @List.mem_range
def qM := @Array.getElem?_eq_getElem
def qo := @List.pairwise_append
def z6 := @List.pairwise_cons
def zJ := @List.append_nil
def zd := @Int.natCast_nonneg
def qR := @List.take_length
def zP := @List.drop_eq_getElem_cons
def qA := @List.mem_singleton
def zG := @List.take_append_getElem
def qK := @List.foldl_append
def qj := @List.length_filter_le
def qu := @List.length_replicate
def jc := @List.filter_append
def zn := @List.getD_eq_getElem?_getD
theorem zb{P:Prop}(h:P:=by omega):P:=h
theorem zE{P:Prop}(h:P:=by simp; omega):P:=h
theorem zh{P:Prop}(h:P:=by simp):P:=h
theorem ze{P:Prop}(h:P:=by decide):P:=h
theorem zo{P:Prop}(h:P:=by simp only [go_sem]):P:=h
theorem qg{P:Prop}(h:P:=by unfold Fit; omega):P:=h
theorem zC{P:Prop}(h:P:=by kernel_rfl):P:=h
