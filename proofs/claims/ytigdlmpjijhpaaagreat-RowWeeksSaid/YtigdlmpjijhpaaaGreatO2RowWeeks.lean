/-
  Parts of the law.
-/
import Derived.Test.YtigdlmpjijhpaaaGreatRows
import Derived.Test.YtigdlmpjijhpaaaGreatChecked
import Derived.WalkKit
import Derived.ProofKit
set_option linter.unusedSimpArgs false
set_option linter.unusedVariables false
namespace Go.Proofs.YtigdlmpjijhpaaaGreat.rowWeeksJ
set_option maxRecDepth 100000
theorem rest (a:Tryz.prog.mayEnter=true) (b:(Rows.rowWeeksRow.lifted==Tryz.prog.liftsFinal)=true) (c:(Tryz.prog.make==some Rows.rowWeeksRow.make)=true):joinedFacts Tryz.prog 4 Tryz.f4 Rows.rowWeeksSpec Rows.rowWeeksRow=true:=by
 unfold joinedFacts
 rw[a,b,c]
 kernel_rfl
end Go.Proofs.YtigdlmpjijhpaaaGreat.rowWeeksJ
