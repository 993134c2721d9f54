/-
  Walks of package pack: numbers and texts as bytes, and back. No conditions.
-/
import Derived.Test.YtgjbhkbjdihddaaDoorErr
namespace Go.Proofs.YtgjbhkbjdihddaaDoor
open Go.RowKit
set_option linter.unusedSimpArgs false
set_option linter.unusedVariables false
/-- a number's bytes: six bits each, the lowest first -/
def num (n : Nat) : Bs := if n < 64 then [UInt8.ofNat n] else UInt8.ofNat (64 + n % 64) :: num (n / 64)
termination_by n
decreasing_by omega
def text (s : Bs) : Bs := num s.length ++ s
end Go.Proofs.YtgjbhkbjdihddaaDoor
