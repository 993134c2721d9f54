/-
  No cell of these rows narrows 'for every input' (looked for: loops, veiled, ifaces, maps, wideKeys, modest, calm, conditions, laid).
  DERIVED. THE GIVEN ROWS OF THIS SEAT. 5 by the template 'for every input the law returns true; each argument reads behind the call as it read before'; 0 by the template 'total and deterministic' (their statements: YthcbffejjkmmfaaTotals.lean).
  GIVEN WITH THE SEED: the statements are not yours to turn. If you find one false, say at which input.
  Laid BY PROGRAM, IN A SANDBOX (cutbox-rows.mjs): the forced cells as the released guide's own fill.sh prints them over the translation af2a48ec724e3306… (all of the seat's roots in one cut). By AI agents, Wed Nov 11 2026. No macro, syntax, notation, axiom, sorry.
-/
import Derived.Test.YthcbffejjkmmfaaChecked
import GoSem.Claim
import GoSem.ClaimJoined
import GoSem.ClaimMapViews
import Derived.JoinedTies
import Derived.KernelRfl
namespace Go.Proofs.Ythcbffejjkmmfaa
/- THE CELL 'sum', in the pinned program and in every row, IS THE sha256 OF THE DUMP (.gsa) THAT YthcbffejjkmmfaaProg.lean LOADS. Nothing in Lean hashes anything: it is a label: what it is worth is what the hold of that sum in a sandbox is worth. -/
noncomputable def Try.pinned : Pinned := { name := "ythcbffejjkmmfaa", sum := "af2a48ec724e3306d892f4ca55d1ae94e8858062d7bc13bdeaea611c9a76c537", checked := Try.checked }
namespace Rows
def none {H : Type} : Left H := { results := [], args := [] }

/-- 'estuarylaw22.ChartTells': WHATEVER THE INPUT: true; the input reads as it did. -/
def chartTellsSpec : ChangeSpec := { name := "chartTells", fn := fun _ => fun
  | [d1, d2, d3] => { results := [.lit (.bool true)], args := [d1, d2, d3] }
  | _ => none }
def chartTellsRow : OpenClaim := { program := "ythcbffejjkmmfaa", sum := "af2a48ec724e3306d892f4ca55d1ae94e8858062d7bc13bdeaea611c9a76c537", func := "estuary/estuarylaw22.ChartTells", spec := "chartTells", apart := false }
def ChartTellsSaid : Prop := chartTellsRow.holds Try.pinned (OpenSpec.ofChange chartTellsSpec)

/-- ITS FALSE NEIGHBOUR: 'it returns false'. Refute it at one input. -/
def chartTellsWrong : ChangeSpec := { name := "chartTells", fn := fun _ => fun
  | [d1, d2, d3] => { results := [.lit (.bool false)], args := [d1, d2, d3] }
  | _ => none }
def ChartTellsWrongFalsely : Prop := chartTellsRow.holds Try.pinned (OpenSpec.ofChange chartTellsWrong)

/-- 'estuarylaw22.ChartParts': WHATEVER THE INPUT: true; the input reads as it did. -/
def chartPartsSpec : ChangeSpec := { name := "chartParts", fn := fun _ => fun
  | [d1, d2, d3] => { results := [.lit (.bool true)], args := [d1, d2, d3] }
  | _ => none }
def chartPartsRow : OpenClaim := { program := "ythcbffejjkmmfaa", sum := "af2a48ec724e3306d892f4ca55d1ae94e8858062d7bc13bdeaea611c9a76c537", func := "estuary/estuarylaw22.ChartParts", spec := "chartParts", apart := false }
def ChartPartsSaid : Prop := chartPartsRow.holds Try.pinned (OpenSpec.ofChange chartPartsSpec)

/-- ITS FALSE NEIGHBOUR: 'it returns false'. Refute it at one input. -/
def chartPartsWrong : ChangeSpec := { name := "chartParts", fn := fun _ => fun
  | [d1, d2, d3] => { results := [.lit (.bool false)], args := [d1, d2, d3] }
  | _ => none }
def ChartPartsWrongFalsely : Prop := chartPartsRow.holds Try.pinned (OpenSpec.ofChange chartPartsWrong)

/-- 'estuarylaw22.ChartAll': WHATEVER THE INPUT: true; the input reads as it did. -/
def chartAllSpec : ChangeSpec := { name := "chartAll", fn := fun _ => fun
  | [d1, d2] => { results := [.lit (.bool true)], args := [d1, d2] }
  | _ => none }
def chartAllRow : OpenClaim := { program := "ythcbffejjkmmfaa", sum := "af2a48ec724e3306d892f4ca55d1ae94e8858062d7bc13bdeaea611c9a76c537", func := "estuary/estuarylaw22.ChartAll", spec := "chartAll", apart := false }
def ChartAllSaid : Prop := chartAllRow.holds Try.pinned (OpenSpec.ofChange chartAllSpec)

/-- ITS FALSE NEIGHBOUR: 'it returns false'. Refute it at one input. -/
def chartAllWrong : ChangeSpec := { name := "chartAll", fn := fun _ => fun
  | [d1, d2] => { results := [.lit (.bool false)], args := [d1, d2] }
  | _ => none }
def ChartAllWrongFalsely : Prop := chartAllRow.holds Try.pinned (OpenSpec.ofChange chartAllWrong)

/-- 'estuarylaw13.HistoryGoes': WHATEVER THE INPUT: true; the input reads as it did. -/
def historyGoesSpec : ChangeSpec := { name := "historyGoes", fn := fun _ => fun
  | [d1, d2, d3, d4] => { results := [.lit (.bool true)], args := [d1, d2, d3, d4] }
  | _ => none }
def historyGoesRow : OpenClaim := { program := "ythcbffejjkmmfaa", sum := "af2a48ec724e3306d892f4ca55d1ae94e8858062d7bc13bdeaea611c9a76c537", func := "estuary/estuarylaw13.HistoryGoes", spec := "historyGoes", unfollowed := true, recurses := true, apart := false }
def HistoryGoesSaid : Prop := historyGoesRow.holds Try.pinned (OpenSpec.ofChange historyGoesSpec)

/-- ITS FALSE NEIGHBOUR: 'it returns false'. Refute it at one input. -/
def historyGoesWrong : ChangeSpec := { name := "historyGoes", fn := fun _ => fun
  | [d1, d2, d3, d4] => { results := [.lit (.bool false)], args := [d1, d2, d3, d4] }
  | _ => none }
def HistoryGoesWrongFalsely : Prop := historyGoesRow.holds Try.pinned (OpenSpec.ofChange historyGoesWrong)

/-- 'estuarylaw13.HistoryFloors': WHATEVER THE INPUT: true; the input reads as it did. -/
def historyFloorsSpec : ChangeSpec := { name := "historyFloors", fn := fun _ => fun
  | [d1, d2] => { results := [.lit (.bool true)], args := [d1, d2] }
  | _ => none }
def historyFloorsRow : OpenClaim := { program := "ythcbffejjkmmfaa", sum := "af2a48ec724e3306d892f4ca55d1ae94e8858062d7bc13bdeaea611c9a76c537", func := "estuary/estuarylaw13.HistoryFloors", spec := "historyFloors", unfollowed := true, recurses := true, apart := false }
def HistoryFloorsSaid : Prop := historyFloorsRow.holds Try.pinned (OpenSpec.ofChange historyFloorsSpec)

/-- ITS FALSE NEIGHBOUR: 'it returns false'. Refute it at one input. -/
def historyFloorsWrong : ChangeSpec := { name := "historyFloors", fn := fun _ => fun
  | [d1, d2] => { results := [.lit (.bool false)], args := [d1, d2] }
  | _ => none }
def HistoryFloorsWrongFalsely : Prop := historyFloorsRow.holds Try.pinned (OpenSpec.ofChange historyFloorsWrong)

/- THE SECOND FORM. 'bulk': how many values and letters a reading holds, each counted each time it is reached (what is shared counts as often as it is met; a slice's spare places count too). A statement '..UptoSaid' is the law's where the arguments, and the package variables that the reading takes, are together of bulk at most 1048576: NARROWER than '..Said'. Prove '..Said' where nothing that the law and all that it calls make is longer than what came in: it says more and counts as full. Else prove '..UptoSaid'. A law counts once. -/
mutual
def uptoBulk {H : Type} : DataW H → Nat
  | .lit (.string bytes) => bytes.length + 1
  | .lit _ => 1
  | .nil => 1
  | .ptr d => uptoBulk d + 1
  | .slice elems spare => uptoBulkAll elems + uptoBulkAll spare + 1
  | .agg parts => uptoBulkAll parts + 1
  | .iface _ d => uptoBulk d + 1
  | .map entries => uptoBulkEntries entries + 1
  | .held _ => 1
def uptoBulkAll {H : Type} : List (DataW H) → Nat
  | [] => 0
  | d :: r => uptoBulk d + uptoBulkAll r
def uptoBulkEntries {H : Type} : List (Lit × DataW H) → Nat
  | [] => 0
  | x :: r => uptoBulkEntry x + uptoBulkEntries r
def uptoBulkEntry {H : Type} : Lit × DataW H → Nat
  | (.string bytes, d) => bytes.length + uptoBulk d + 1
  | (_, d) => uptoBulk d + 1
 end
def uptoSmall : (H : Type) → List (DataW H) → Bool := fun _ ds => decide (uptoBulkAll ds ≤ 1048576)
def OpenSpec.upto (s : _root_.Go.ChangeSpec) : _root_.Go.OpenSpec := { _root_.Go.OpenSpec.ofChange s with cond := some uptoSmall }

/-- 'estuarylaw22.ChartTells', WHERE WHAT IT READS IS OF BULK AT MOST 1048576: true; the input reads as it did. -/
def chartTellsUptoRow : OpenClaim := { program := "ythcbffejjkmmfaa", sum := "af2a48ec724e3306d892f4ca55d1ae94e8858062d7bc13bdeaea611c9a76c537", func := "estuary/estuarylaw22.ChartTells", spec := "chartTells", apart := false, narrowed := true }
def ChartTellsUptoSaid : Prop := chartTellsUptoRow.holds Try.pinned (OpenSpec.upto chartTellsSpec)

/-- 'estuarylaw22.ChartParts', WHERE WHAT IT READS IS OF BULK AT MOST 1048576: true; the input reads as it did. -/
def chartPartsUptoRow : OpenClaim := { program := "ythcbffejjkmmfaa", sum := "af2a48ec724e3306d892f4ca55d1ae94e8858062d7bc13bdeaea611c9a76c537", func := "estuary/estuarylaw22.ChartParts", spec := "chartParts", apart := false, narrowed := true }
def ChartPartsUptoSaid : Prop := chartPartsUptoRow.holds Try.pinned (OpenSpec.upto chartPartsSpec)

/-- 'estuarylaw22.ChartAll', WHERE WHAT IT READS IS OF BULK AT MOST 1048576: true; the input reads as it did. -/
def chartAllUptoRow : OpenClaim := { program := "ythcbffejjkmmfaa", sum := "af2a48ec724e3306d892f4ca55d1ae94e8858062d7bc13bdeaea611c9a76c537", func := "estuary/estuarylaw22.ChartAll", spec := "chartAll", apart := false, narrowed := true }
def ChartAllUptoSaid : Prop := chartAllUptoRow.holds Try.pinned (OpenSpec.upto chartAllSpec)

/-- 'estuarylaw13.HistoryGoes', WHERE WHAT IT READS IS OF BULK AT MOST 1048576: true; the input reads as it did. -/
def historyGoesUptoRow : OpenClaim := { program := "ythcbffejjkmmfaa", sum := "af2a48ec724e3306d892f4ca55d1ae94e8858062d7bc13bdeaea611c9a76c537", func := "estuary/estuarylaw13.HistoryGoes", spec := "historyGoes", unfollowed := true, recurses := true, apart := false, narrowed := true }
def HistoryGoesUptoSaid : Prop := historyGoesUptoRow.holds Try.pinned (OpenSpec.upto historyGoesSpec)

/-- 'estuarylaw13.HistoryFloors', WHERE WHAT IT READS IS OF BULK AT MOST 1048576: true; the input reads as it did. -/
def historyFloorsUptoRow : OpenClaim := { program := "ythcbffejjkmmfaa", sum := "af2a48ec724e3306d892f4ca55d1ae94e8858062d7bc13bdeaea611c9a76c537", func := "estuary/estuarylaw13.HistoryFloors", spec := "historyFloors", unfollowed := true, recurses := true, apart := false, narrowed := true }
def HistoryFloorsUptoSaid : Prop := historyFloorsUptoRow.holds Try.pinned (OpenSpec.upto historyFloorsSpec)

end Rows
end Go.Proofs.Ythcbffejjkmmfaa
