/-
  Walks of package letter: addresses, events, places, what a list may hold. No conditions.
-/
import Derived.Test.YtgjbhkbjdihddaaDoorOpB
namespace Go.Proofs.YtgjbhkbjdihddaaDoor
open Go.RowKit
set_option linter.unusedSimpArgs false
set_option linter.unusedVariables false
def zeroO : OpV := ⟨0, [], [], [], 0, []⟩
def zeroA : AnV := ⟨0, [], 0, []⟩

structure Evt where
  k : Bs
  n : Int
  v : Bs
  d : Bool
  deriving DecidableEq
structure Sn where
  k : Bs
  n : Int
  deriving DecidableEq
structure Plc where
  id : Int
  ep : Int
  nd : Int
  f : Bs
  t : Bs
  deriving DecidableEq
abbrev encE (e : Evt) : List V := [.str e.k, .int .i64 e.n, .str e.v, .bool e.d]
abbrev encN (s : Sn) : List V := [.str s.k, .int .i64 s.n]
abbrev encP (p : Plc) : List V := [.int .i64 p.id, .int .i64 p.ep, .int .i64 p.nd, .str p.f, .str p.t]
abbrev encI (n : Int) : List V := [.int .i64 n]
def addrB (n : Int) : Bool := (decide (0 ≤ n) && decide (n < 3)) || decide (n = 100) || (decide (200 ≤ n) && decide (n < 203))
def evB (e : Evt) : Bool := isKeyB e.k && decide (1 ≤ e.n) && decide (e.n ≤ 1000000000000) && decide (e.v.length ≤ 40) && !(e.d && !decide (e.v = []))
def plB (p : Plc) : Bool := decide (1 ≤ p.id) && decide (p.id ≤ 1000000000000) && decide (1 ≤ p.ep) && decide (p.ep ≤ 1000000) && decide (0 ≤ p.nd) && decide (p.nd < 3) && isB ⟨p.f, p.t⟩
def badI (n : Int) : Bool := decide (n < 0) || decide (1000000000000 < n)
def idxG {α : Type} (p : α → Bool) : List α → Nat → Int
  | [], _ => -1
  | x :: r, i => if p x then i else idxG p r (i + 1)
end Go.Proofs.YtgjbhkbjdihddaaDoor
