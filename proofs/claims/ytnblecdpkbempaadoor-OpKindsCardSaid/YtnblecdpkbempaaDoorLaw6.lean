/-
  A law of ops: each kind has its own parts. No conditions.
-/
import Derived.Test.YtnblecdpkbempaaDoorLaw6x
import Derived.Test.YtnblecdpkbempaaDoorLaw6y
import Derived.Test.YtnblecdpkbempaaDoorLaw6z
namespace Go.Proofs.YtnblecdpkbempaaDoor
open Go.RowKit
set_option linter.unusedSimpArgs false
set_option linter.unusedVariables false

theorem opKinds_fn (n : Int) (key to value version writes : Bool) (hn : 0 ≤ n ∧ n ≤ 255) : Fn Tryd.prog 3 [.int .u8 n, .bool key, .bool to, .bool value, .bool version, .bool writes] (.bool true) := by
  rcases (by omega : n % 9 = 0 ∨ n % 9 = 1 ∨ n % 9 = 2 ∨ n % 9 = 3 ∨ n % 9 = 4 ∨ n % 9 = 5 ∨ n % 9 = 6 ∨ n % 9 = 7 ∨ n % 9 = 8) with h | h | h | h | h | h | h | h | h
  · exact opKinds_0 n hn h key to value version writes
  · exact opKinds_1 n hn h key to value version writes
  · exact opKinds_2 n hn h key to value version writes
  · exact opKinds_3 n hn h key to value version writes
  · exact opKinds_4 n hn h key to value version writes
  · exact opKinds_5 n hn h key to value version writes
  · exact opKinds_6 n hn h key to value version writes
  · exact opKinds_7 n hn h key to value version writes
  · exact opKinds_8 n hn h key to value version writes
end Go.Proofs.YtnblecdpkbempaaDoor
