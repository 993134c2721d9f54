/-
  Walks of package token for letters: whether what was seen is in order. No conditions.
-/
import Derived.Test.YtgjbhkbjdihddaaDoorLetA
namespace Go.Proofs.YtgjbhkbjdihddaaDoor
open Go.RowKit
set_option linter.unusedSimpArgs false
set_option linter.unusedVariables false

def snB (s : Sn) : Bool := isKeyB s.k && !decide (s.n < 0) && !decide (1000000000000 < s.n)
def snsB : Option Bs → List Sn → Bool
  | _, [] => true
  | p, w :: r => snB w && belowW p w.k && snsB (some w.k) r
def prevS (c : List Sn) (i : Nat) : Option Bs := if i = 0 then none else (c[i - 1]?).map (·.k)
end Go.Proofs.YtgjbhkbjdihddaaDoor
