/-
  Walks of package op: the bytes of an op, of an answer. No conditions.
-/
import Derived.Test.YtgjbhkbjdihddaaDoorOp
namespace Go.Proofs.YtgjbhkbjdihddaaDoor
open Go.RowKit
set_option linter.unusedSimpArgs false
set_option linter.unusedVariables false

def wrBytes (w : Wr) : Bs := (text w.k ++ text w.v) ++ (if w.d then [1] else [0])
def wsBytes (l : List Wr) : Bs := (l.map wrBytes).flatten
def headO (o : OpV) : Bs := ((((num o.kind.toNat ++ text o.key) ++ text o.to) ++ text o.val) ++ num o.ver.toNat) ++ num o.ws.length
def bytesO (o : OpV) : Bs := headO o ++ wsBytes o.ws
def rwB (r : Rw) : Bool := decide (r.k.length ≤ 255) && decide (r.v.length ≤ 255) && decide (0 ≤ r.n) && decide (r.n < 281474976710656)
def anB (a : AnV) : Bool := decide (0 ≤ a.code) && decide (a.code < 281474976710656) && decide (0 ≤ a.ver) && decide (a.ver < 281474976710656) && decide (a.val.length ≤ 255) && decide (a.rows.length ≤ 16) && a.rows.all rwB
def rwBytes (r : Rw) : Bs := (text r.k ++ text r.v) ++ num r.n.toNat
def rsBytes (l : List Rw) : Bs := (l.map rwBytes).flatten
def headA (a : AnV) : Bs := ((num a.code.toNat ++ text a.val) ++ num a.ver.toNat) ++ num a.rows.length
def bytesA (a : AnV) : Bs := headA a ++ rsBytes a.rows
def idxR (p : Rw → Bool) : List Rw → Nat → Int
  | [], _ => -1
  | x :: r, i => if p x then i else idxR p r (i + 1)
end Go.Proofs.YtgjbhkbjdihddaaDoor
