/-
  Parts of the law.
-/
import Derived.Test.YtigdlmpjijhpaaaGreatRows
import Derived.Test.YtigdlmpjijhpaaaGreatChecked
import Derived.WalkKit
import Derived.ProofKit
set_option linter.unusedSimpArgs false
set_option linter.unusedVariables false
namespace Go.Proofs.YtigdlmpjijhpaaaGreat.rowWeeksJ
set_option maxRecDepth 100000
theorem lift:(Rows.rowWeeksRow.lifted==Tryz.prog.liftsFinal)=true:=by kernel_rfl
theorem make:(Tryz.prog.make==some Rows.rowWeeksRow.make)=true:=by kernel_rfl
end Go.Proofs.YtigdlmpjijhpaaaGreat.rowWeeksJ
