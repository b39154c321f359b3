/-
  Parts of the law.
-/
import Derived.Test.YtigdlmpjijhpaaaGreatKA
import Derived.Test.YtigdlmpjijhpaaaGreatRows
import Derived.Test.YtigdlmpjijhpaaaGreatChecked
import Derived.WalkKit
import Derived.ProofKit
set_option linter.all false
namespace Go.Proofs.YtigdlmpjijhpaaaGreat.cacheKeysJ
set_option maxRecDepth 100000
theorem rest(b:Tryz.prog.mayEnter=true)(a:(Rows.cacheKeysRow.lifted==Tryz.prog.liftsFinal)=true)(c:(Tryz.prog.make==some Rows.cacheKeysRow.make)=true):joinedFacts Tryz.prog 8 Tryz.f8 Rows.cacheKeysSpec Rows.cacheKeysRow=true:=by
 unfold joinedFacts
 rw[b,a,c]
 kernel_rfl
end Go.Proofs.YtigdlmpjijhpaaaGreat.cacheKeysJ
