/-
  Joined.
-/
import Derived.Test.YtfmldcilgbbimaaGreatK31
set_option linter.unusedSimpArgs false
set_option linter.unusedVariables false
namespace Go.Proofs.YtfmldcilgbbimaaGreat.Ax
open Go Go.Proofs
theorem Kb:∀ {l:List Ev},(l.map (·.id)).Nodup->∀ {e:Ev},e∈l->l.filter (λx=>x.id==e.id)=[e]
 | [],_,_,h=>by cases h
 | y::l,a,e,h=>by
   rw[List.map_cons,List.nodup_cons] at a
   rcases List.mem_cons.1 h with rfl | h
   ·rw[List.filter_cons,if_pos (by simp)]
    congr 1
    refine List.filter_eq_nil_iff.2 λx d=>?_
    intro c
    exact a.1 (List.mem_map.2 ⟨x,d,by simpa using c⟩)
   ·have b:y.id≠e.id:=λc=>a.1 (by rw[c];exact List.mem_map.2 ⟨e,h,rfl⟩)
    rw[List.filter_cons,if_neg (by simpa using b)]
    exact Kb a.2 h
theorem Z5a:∀ {l:List Ev},(l.map (·.id)).Nodup->∀ {a b:Ev},a∈l->b∈l->a.id=b.id->a=b:=λd a b e g h=>by
 have c:=Kb d e
 have f:=Kb d g
 rw[h,f] at c
 exact (List.singleton_inj.1 c).symm
end Go.Proofs.YtfmldcilgbbimaaGreat.Ax
