import Derived.Test.YtigdlmpjijhpaaaGreatKA
import Derived.Test.YtigdlmpjijhpaaaGreatK31
set_option linter.all false
namespace Go.Proofs.YtigdlmpjijhpaaaGreat.Ax
open Go Go.Proofs
theorem V7:∀ {l:List Ev},(l.map (·.id)).Nodup->∀ {e:Ev},e∈l->l.filter (λx=>x.id==e.id)=[e]
 | [],_,_,h=>by cases h
 | y::l,a,e,h=>by
   rw[List.map_cons,List.nodup_cons] at a
   rcases zy.1 h with rfl|h
   ·rw[List.filter_cons,if_pos (by simp)]
    congr 1
    refine List.filter_eq_nil_iff.2 λx d=>?_
    intro b
    exact a.1 (zt.2 ⟨x,d,by simpa using b⟩)
   ·have c:y.id≠e.id:=λb=>a.1 (by rw[b];exact zt.2 ⟨e,h,rfl⟩)
    rw[List.filter_cons,if_neg (by simpa using c)]
    exact V7 a.2 h
theorem X5a:∀ {l:List Ev},(l.map (·.id)).Nodup->∀ {a b:Ev},a∈l->b∈l->a.id=b.id->a=b:=λc a b g e h=>by
 have d:=V7 c g
 have f:=V7 c e
 rw[h,f] at d
 exact(List.singleton_inj.1 d).symm
