/-
  Parts of the law.
-/
import Derived.Test.YtigdlmpjijhpaaaGreatKA
import Derived.Test.YtigdlmpjijhpaaaGreatRows
import Derived.Test.YtigdlmpjijhpaaaGreatChecked
import Derived.WalkKit
import Derived.ProofKit
set_option linter.all false
namespace Go.Proofs.YtigdlmpjijhpaaaGreat.cacheRowsJ
set_option maxRecDepth 100000
theorem rest(b:Tryz.prog.mayEnter=true)(a:(Rows.cacheRowsRow.lifted==Tryz.prog.liftsFinal)=true)(c:(Tryz.prog.make==some Rows.cacheRowsRow.make)=true):joinedFacts Tryz.prog 7 Tryz.f7 Rows.cacheRowsSpec Rows.cacheRowsRow=true:=by
 unfold joinedFacts
 rw[b,a,c]
 kernel_rfl
end Go.Proofs.YtigdlmpjijhpaaaGreat.cacheRowsJ
