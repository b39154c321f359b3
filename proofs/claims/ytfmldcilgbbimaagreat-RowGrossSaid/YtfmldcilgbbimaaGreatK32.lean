/-
  Joined.
-/
import Derived.Test.YtfmldcilgbbimaaGreatK31
set_option linter.unusedSimpArgs false
set_option linter.unusedVariables false
namespace Go.Proofs.YtfmldcilgbbimaaGreat.Ax
open Go Go.Proofs
end Go.Proofs.YtfmldcilgbbimaaGreat.Ax
