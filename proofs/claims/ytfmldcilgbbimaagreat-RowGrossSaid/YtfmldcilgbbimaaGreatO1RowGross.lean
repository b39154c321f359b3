/-
  Parts of the law.
-/
import Derived.Test.YtfmldcilgbbimaaGreatRows
import Derived.Test.YtfmldcilgbbimaaGreatChecked
import Derived.WalkKit
import Derived.ProofKit
set_option linter.unusedSimpArgs false
set_option linter.unusedVariables false
namespace Go.Proofs.YtfmldcilgbbimaaGreat.rowGrossJ
set_option maxRecDepth 100000
theorem lift:(Rows.rowGrossRow.lifted==Tryz.prog.liftsFinal)=true:=by kernel_rfl
theorem make:(Tryz.prog.make==some Rows.rowGrossRow.make)=true:=by kernel_rfl
end Go.Proofs.YtfmldcilgbbimaaGreat.rowGrossJ
