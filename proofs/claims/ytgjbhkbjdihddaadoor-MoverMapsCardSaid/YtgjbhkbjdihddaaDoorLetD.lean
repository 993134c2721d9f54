/-
  Walks of package letter: whether it is a letter. No conditions.
-/
import Derived.Test.YtgjbhkbjdihddaaDoorLetC
namespace Go.Proofs.YtgjbhkbjdihddaaDoor
open Go.RowKit
set_option linter.unusedSimpArgs false
set_option linter.unusedVariables false

def numsL (l : LetV) : List Int := [l.n0, l.n1, l.n2, l.n3, l.n4]
def letB (l : LetV) : Bool := kindL l && addrB l.fr && addrB l.to && !(numsL l).any badI && decide (l.data.length ≤ 255) && isB ⟨l.f, l.t⟩ && snsB none l.seen && decide (l.seen.length ≤ 60) && decide (l.ev.length ≤ 8) && decide (l.pl.length ≤ 8) && !(l.ev.any fun x => !evB x) && !(l.pl.any fun x => !plB x)
end Go.Proofs.YtgjbhkbjdihddaaDoor
