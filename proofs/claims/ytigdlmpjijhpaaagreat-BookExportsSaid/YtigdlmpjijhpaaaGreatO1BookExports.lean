/-
  Parts of the law.
-/
import Derived.Test.YtigdlmpjijhpaaaGreatBA
import Derived.Test.YtigdlmpjijhpaaaGreatRows
import Derived.Test.YtigdlmpjijhpaaaGreatChecked
import Derived.WalkKit
import Derived.ProofKit
set_option linter.all false
namespace Go.Proofs.YtigdlmpjijhpaaaGreat.bookExportsJ
set_option maxRecDepth 100000
theorem lift:(Rows.bookExportsRow.lifted==Tryz.prog.liftsFinal)=true:=by kernel_rfl
theorem make:(Tryz.prog.make==some Rows.bookExportsRow.make)=true:=by kernel_rfl
end Go.Proofs.YtigdlmpjijhpaaaGreat.bookExportsJ
