/-
  Parts of the law.
-/
import Derived.Test.YtigdlmpjijhpaaaGreatKA
import Derived.Test.YtigdlmpjijhpaaaGreatRows
import Derived.Test.YtigdlmpjijhpaaaGreatChecked
import Derived.WalkKit
import Derived.ProofKit
set_option linter.all false
namespace Go.Proofs.YtigdlmpjijhpaaaGreat.rowBackJ
set_option maxRecDepth 100000
theorem rest(c:Tryz.prog.mayEnter=true)(a:(Rows.rowBackRow.lifted==Tryz.prog.liftsFinal)=true)(b:(Tryz.prog.make==some Rows.rowBackRow.make)=true):joinedFacts Tryz.prog 3 Tryz.f3 Rows.rowBackSpec Rows.rowBackRow=true:=by
 unfold joinedFacts
 rw[c,a,b]
 kernel_rfl
end Go.Proofs.YtigdlmpjijhpaaaGreat.rowBackJ
