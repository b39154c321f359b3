/-
  Parts of the law.
-/
import Derived.Test.YtfmldcilgbbimaaGreatRows
import Derived.Test.YtfmldcilgbbimaaGreatChecked
import Derived.WalkKit
import Derived.ProofKit
set_option linter.unusedSimpArgs false
set_option linter.unusedVariables false
namespace Go.Proofs.YtfmldcilgbbimaaGreat.rowGrossJ
set_option maxRecDepth 100000
theorem rest (a:Tryz.prog.mayEnter=true) (b:(Rows.rowGrossRow.lifted==Tryz.prog.liftsFinal)=true) (c:(Tryz.prog.make==some Rows.rowGrossRow.make)=true):joinedFacts Tryz.prog 5 Tryz.f5 Rows.rowGrossSpec Rows.rowGrossRow=true:=by
 unfold joinedFacts
 rw[a,b,c]
 kernel_rfl
end Go.Proofs.YtfmldcilgbbimaaGreat.rowGrossJ
