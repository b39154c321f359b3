/-
  Parts of the law.
-/
import Derived.Test.YtjeehgkolepogaaGreatKA
import Derived.Test.YtjeehgkolepogaaGreatRows
import Derived.Test.YtjeehgkolepogaaGreatChecked
import Derived.WalkKit
import Derived.ProofKit
set_option linter.all false
namespace Go.Proofs.YtjeehgkolepogaaGreat.perfTellsJ
set_option maxRecDepth 100000
def rest(a:Tryz.prog.mayEnter=true)(c:(Rows.perfTellsRow.lifted==Tryz.prog.liftsFinal)=true)(b:(Tryz.prog.make==some Rows.perfTellsRow.make)=true):joinedFacts Tryz.prog 3 Tryz.f3 Rows.perfTellsSpec Rows.perfTellsRow=true:=by
 unfold joinedFacts;rw[a,c,b]
 kernel_rfl
end Go.Proofs.YtjeehgkolepogaaGreat.perfTellsJ
