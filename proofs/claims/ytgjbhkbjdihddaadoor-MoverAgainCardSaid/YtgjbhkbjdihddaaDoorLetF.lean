/-
  Walks of package letter: whether two letters are alike. No conditions.
-/
import Derived.Test.YtgjbhkbjdihddaaDoorLetE
namespace Go.Proofs.YtgjbhkbjdihddaaDoor
open Go.RowKit
set_option linter.unusedSimpArgs false
set_option linter.unusedVariables false

theorem let_ext {a b : LetV} : a = b ↔ a.kind = b.kind ∧ a.fr = b.fr ∧ a.to = b.to ∧ a.n0 = b.n0 ∧ a.n1 = b.n1 ∧ a.n2 = b.n2 ∧ a.n3 = b.n3 ∧ a.n4 = b.n4 ∧ a.op = b.op ∧ a.an = b.an ∧ a.f = b.f ∧ a.t = b.t ∧ a.seen = b.seen ∧ a.ev = b.ev ∧ a.pl = b.pl ∧ a.data = b.data := by
  cases a; cases b; simp
end Go.Proofs.YtgjbhkbjdihddaaDoor
