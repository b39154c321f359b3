import Derived.Test.YtigdlmpjijhpaaaGreatKA
import Derived.Test.YtigdlmpjijhpaaaGreatK31
set_option linter.all false
namespace Go.Proofs.YtigdlmpjijhpaaaGreat.Ax
open Go Go.Proofs
theorem V9:∀ {l:List Ev},(l.map (·.id)).Nodup->∀ {e:Ev},e∈l->l.filter (λx=>x.id==e.id)=[e]
 | [],_,_,h=>by cases h
 | y::l,a,e,h=>by
   rw[List.map_cons,List.nodup_cons] at a
   rcases zx.1 h with rfl|h
   ·rw[List.filter_cons,if_pos (by simp)]
    congr 1
    refine List.filter_eq_nil_iff.2 λx d=>?_
    intro b
    exact a.1 (zr.2 ⟨x,d,by simpa using b⟩)
   ·have c:y.id≠e.id:=λb=>a.1 (by rw[b];exact zr.2 ⟨e,h,rfl⟩)
    rw[List.filter_cons,if_neg (by simpa using c)]
    exact V9 a.2 h
theorem Kfa:∀ {l:List Ev},(l.map (·.id)).Nodup->∀ {a b:Ev},a∈l->b∈l->a.id=b.id->a=b:=λc a b f e h=>by
 have d:=V9 c f
 have g:=V9 c e
 rw[h,g] at d
 exact(List.singleton_inj.1 d).symm
