/-
  Package pack over whatever bytes: what is taken, or why not. No conditions.
-/
import Derived.Test.YtgjbhkbjdihddaaDoorPack
namespace Go.Proofs.YtgjbhkbjdihddaaDoor
open Go.RowKit
set_option linter.unusedSimpArgs false
set_option linter.unusedVariables false

/-- a number at the front of bytes: fuel, its place, what is taken so far -/
def takeG : Nat → Nat → Nat → Bs → Option (Nat × Bs)
  | 0, _, _, _ => none
  | _ + 1, _, _, [] => none
  | f + 1, i, n, b :: r => if 127 < b.toNat ∨ (b.toNat = 0 ∧ 0 < i) then none else if b.toNat < 64 then some (n + b.toNat % 64 * 64 ^ i, r) else takeG f (i + 1) (n + b.toNat % 64 * 64 ^ i) r
def takeCG : Nat → Nat → Bs → Int
  | 0, _, _ => 10
  | _ + 1, _, [] => 11
  | f + 1, i, b :: r => if 127 < b.toNat ∨ (b.toNat = 0 ∧ 0 < i) then 10 else takeCG f (i + 1) r
def takeF (s : Bs) : Option (Nat × Bs) := takeG 8 0 0 s
def takeC (s : Bs) : Int := takeCG 8 0 s
def textF (s : Bs) (most : Int) : Option (Bs × Bs) := match takeF s with
  | none => none
  | some (n, r) => if most < n then none else if r.length < n then none else some (r.take n, r.drop n)
def textC (s : Bs) (most : Int) : Int := match takeF s with
  | none => takeC s
  | some (n, r) => if most < n then 13 else 11
def flagF : Bs → Option (Bool × Bs)
  | [] => none
  | b :: r => if 1 < b.toNat then none else some (decide (b.toNat = 1), r)
def flagC : Bs → Int
  | [] => 11
  | _ :: _ => 10
end Go.Proofs.YtgjbhkbjdihddaaDoor
