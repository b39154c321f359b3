/-
  Parts of the law.
-/
import Derived.Test.YtigdlmpjijhpaaaGreatKA
import Derived.Test.YtigdlmpjijhpaaaGreatRows
import Derived.Test.YtigdlmpjijhpaaaGreatChecked
import Derived.WalkKit
import Derived.ProofKit
set_option linter.all false
namespace Go.Proofs.YtigdlmpjijhpaaaGreat.cacheOnlyJ
set_option maxRecDepth 100000
theorem rest(b:Tryz.prog.mayEnter=true)(a:(Rows.cacheOnlyRow.lifted==Tryz.prog.liftsFinal)=true)(c:(Tryz.prog.make==some Rows.cacheOnlyRow.make)=true):joinedFacts Tryz.prog 9 Tryz.f9 Rows.cacheOnlySpec Rows.cacheOnlyRow=true:=by
 unfold joinedFacts
 rw[b,a,c]
 kernel_rfl
end Go.Proofs.YtigdlmpjijhpaaaGreat.cacheOnlyJ
