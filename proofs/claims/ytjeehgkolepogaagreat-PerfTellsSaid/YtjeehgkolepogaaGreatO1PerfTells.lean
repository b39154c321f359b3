/-
  Parts of the law.
-/
import Derived.Test.YtjeehgkolepogaaGreatKA
import Derived.Test.YtjeehgkolepogaaGreatRows
import Derived.Test.YtjeehgkolepogaaGreatChecked
import Derived.WalkKit
import Derived.ProofKit
set_option linter.all false
namespace Go.Proofs.YtjeehgkolepogaaGreat.perfTellsJ
set_option maxRecDepth 100000
def lift:(Rows.perfTellsRow.lifted==Tryz.prog.liftsFinal)=true:=zC
def make:(Tryz.prog.make==some Rows.perfTellsRow.make)=true:=zC
end Go.Proofs.YtjeehgkolepogaaGreat.perfTellsJ
