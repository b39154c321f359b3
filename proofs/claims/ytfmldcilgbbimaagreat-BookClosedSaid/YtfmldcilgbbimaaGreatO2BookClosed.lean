/-
  Parts of the law.
-/
import Derived.Test.YtfmldcilgbbimaaGreatRows
import Derived.Test.YtfmldcilgbbimaaGreatChecked
import Derived.WalkKit
import Derived.ProofKit
set_option linter.unusedSimpArgs false
set_option linter.unusedVariables false
namespace Go.Proofs.YtfmldcilgbbimaaGreat.bookClosedJ
set_option maxRecDepth 100000
theorem rest (a:Tryz.prog.mayEnter=true) (b:(Rows.bookClosedRow.lifted==Tryz.prog.liftsFinal)=true) (c:(Tryz.prog.make==some Rows.bookClosedRow.make)=true):joinedFacts Tryz.prog 8 Tryz.f8 Rows.bookClosedSpec Rows.bookClosedRow=true:=by
 unfold joinedFacts
 rw[a,b,c]
 kernel_rfl
end Go.Proofs.YtfmldcilgbbimaaGreat.bookClosedJ
