/-
  Joined.
-/
import Derived.Test.YtigdlmpjijhpaaaGreatK31
set_option linter.unusedSimpArgs false
set_option linter.unusedVariables false
namespace Go.Proofs.YtigdlmpjijhpaaaGreat.Ax
open Go Go.Proofs
end Go.Proofs.YtigdlmpjijhpaaaGreat.Ax
