/-
  Parts of the law.
-/
import Derived.Test.YtigdlmpjijhpaaaGreatBA
import Derived.Test.YtigdlmpjijhpaaaGreatRows
import Derived.Test.YtigdlmpjijhpaaaGreatChecked
import Derived.WalkKit
import Derived.ProofKit
set_option linter.all false
namespace Go.Proofs.YtigdlmpjijhpaaaGreat.bookExportsJ
set_option maxRecDepth 100000
theorem rest(c:Tryz.prog.mayEnter=true)(a:(Rows.bookExportsRow.lifted==Tryz.prog.liftsFinal)=true)(b:(Tryz.prog.make==some Rows.bookExportsRow.make)=true):joinedFacts Tryz.prog 6 Tryz.f6 Rows.bookExportsSpec Rows.bookExportsRow=true:=by
 unfold joinedFacts
 rw[c,a,b]
 kernel_rfl
end Go.Proofs.YtigdlmpjijhpaaaGreat.bookExportsJ
