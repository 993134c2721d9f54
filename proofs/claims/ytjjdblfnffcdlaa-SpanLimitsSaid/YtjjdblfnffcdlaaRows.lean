/-
  No cell of these rows narrows 'for every input' (looked for: loops, veiled, ifaces, maps, wideKeys, modest, calm, conditions, laid).
  DERIVED. THE GIVEN ROWS OF THIS SEAT. 4 by the template 'for every input the law returns true; each argument reads behind the call as it read before'; 0 by the template 'total and deterministic' (their statements: YtjjdblfnffcdlaaTotals.lean).
  GIVEN WITH THE SEED: the statements are not yours to turn. If you find one false, say at which input.
  Laid BY PROGRAM, IN A SANDBOX (cutbox-rows.mjs): the forced cells as the released guide's own fill.sh prints them over the translation 6d4fcde44d525ab1… (all of the seat's roots in one cut). By AI agents, Wed Nov 11 2026. No macro, syntax, notation, axiom, sorry.
-/
import Derived.Test.YtjjdblfnffcdlaaChecked
import GoSem.Claim
import GoSem.ClaimJoined
import GoSem.ClaimMapViews
import Derived.JoinedTies
import Derived.KernelRfl
namespace Go.Proofs.Ytjjdblfnffcdlaa
/- THE CELL 'sum', in the pinned program and in every row, IS THE sha256 OF THE DUMP (.gsa) THAT YtjjdblfnffcdlaaProg.lean LOADS. Nothing in Lean hashes anything: it is a label: what it is worth is what the hold of that sum in a sandbox is worth. -/
noncomputable def Try.pinned : Pinned := { name := "ytjjdblfnffcdlaa", sum := "6d4fcde44d525ab13e055c23f67d76981ec764a2b68f4c8c02e87d8bfe2756d7", checked := Try.checked }
namespace Rows
def none {H : Type} : Left H := { results := [], args := [] }

/-- 'estuarylaw1.SpanTells': WHATEVER THE INPUT: true; the input reads as it did. -/
def spanTellsSpec : ChangeSpec := { name := "spanTells", fn := fun _ => fun
  | [d1, d2, d3] => { results := [.lit (.bool true)], args := [d1, d2, d3] }
  | _ => none }
def spanTellsRow : OpenClaim := { program := "ytjjdblfnffcdlaa", sum := "6d4fcde44d525ab13e055c23f67d76981ec764a2b68f4c8c02e87d8bfe2756d7", func := "estuary/estuarylaw1.SpanTells", spec := "spanTells", apart := false }
def SpanTellsSaid : Prop := spanTellsRow.holds Try.pinned (OpenSpec.ofChange spanTellsSpec)

/-- ITS FALSE NEIGHBOUR: 'it returns false'. Refute it at one input. -/
def spanTellsWrong : ChangeSpec := { name := "spanTells", fn := fun _ => fun
  | [d1, d2, d3] => { results := [.lit (.bool false)], args := [d1, d2, d3] }
  | _ => none }
def SpanTellsWrongFalsely : Prop := spanTellsRow.holds Try.pinned (OpenSpec.ofChange spanTellsWrong)

/-- 'estuarylaw1.SpanKeys': WHATEVER THE INPUT: true; the input reads as it did. -/
def spanKeysSpec : ChangeSpec := { name := "spanKeys", fn := fun _ => fun
  | [d1, d2, d3, d4] => { results := [.lit (.bool true)], args := [d1, d2, d3, d4] }
  | _ => none }
def spanKeysRow : OpenClaim := { program := "ytjjdblfnffcdlaa", sum := "6d4fcde44d525ab13e055c23f67d76981ec764a2b68f4c8c02e87d8bfe2756d7", func := "estuary/estuarylaw1.SpanKeys", spec := "spanKeys", apart := false }
def SpanKeysSaid : Prop := spanKeysRow.holds Try.pinned (OpenSpec.ofChange spanKeysSpec)

/-- ITS FALSE NEIGHBOUR: 'it returns false'. Refute it at one input. -/
def spanKeysWrong : ChangeSpec := { name := "spanKeys", fn := fun _ => fun
  | [d1, d2, d3, d4] => { results := [.lit (.bool false)], args := [d1, d2, d3, d4] }
  | _ => none }
def SpanKeysWrongFalsely : Prop := spanKeysRow.holds Try.pinned (OpenSpec.ofChange spanKeysWrong)

/-- 'estuarylaw1.SpanOrders': WHATEVER THE INPUT: true; the input reads as it did. -/
def spanOrdersSpec : ChangeSpec := { name := "spanOrders", fn := fun _ => fun
  | [d1, d2, d3] => { results := [.lit (.bool true)], args := [d1, d2, d3] }
  | _ => none }
def spanOrdersRow : OpenClaim := { program := "ytjjdblfnffcdlaa", sum := "6d4fcde44d525ab13e055c23f67d76981ec764a2b68f4c8c02e87d8bfe2756d7", func := "estuary/estuarylaw1.SpanOrders", spec := "spanOrders", apart := false }
def SpanOrdersSaid : Prop := spanOrdersRow.holds Try.pinned (OpenSpec.ofChange spanOrdersSpec)

/-- ITS FALSE NEIGHBOUR: 'it returns false'. Refute it at one input. -/
def spanOrdersWrong : ChangeSpec := { name := "spanOrders", fn := fun _ => fun
  | [d1, d2, d3] => { results := [.lit (.bool false)], args := [d1, d2, d3] }
  | _ => none }
def SpanOrdersWrongFalsely : Prop := spanOrdersRow.holds Try.pinned (OpenSpec.ofChange spanOrdersWrong)

/-- 'estuarylaw1.SpanLimits': WHATEVER THE INPUT: true; the input reads as it did. -/
def spanLimitsSpec : ChangeSpec := { name := "spanLimits", fn := fun _ => fun
  | [d1, d2] => { results := [.lit (.bool true)], args := [d1, d2] }
  | _ => none }
def spanLimitsRow : OpenClaim := { program := "ytjjdblfnffcdlaa", sum := "6d4fcde44d525ab13e055c23f67d76981ec764a2b68f4c8c02e87d8bfe2756d7", func := "estuary/estuarylaw1.SpanLimits", spec := "spanLimits", apart := false }
def SpanLimitsSaid : Prop := spanLimitsRow.holds Try.pinned (OpenSpec.ofChange spanLimitsSpec)

/-- ITS FALSE NEIGHBOUR: 'it returns false'. Refute it at one input. -/
def spanLimitsWrong : ChangeSpec := { name := "spanLimits", fn := fun _ => fun
  | [d1, d2] => { results := [.lit (.bool false)], args := [d1, d2] }
  | _ => none }
def SpanLimitsWrongFalsely : Prop := spanLimitsRow.holds Try.pinned (OpenSpec.ofChange spanLimitsWrong)

/- THE SECOND FORM. 'bulk': how many values and letters a reading holds, each counted each time it is reached (what is shared counts as often as it is met; a slice's spare places count too). A statement '..UptoSaid' is the law's where the arguments, and the package variables that the reading takes, are together of bulk at most 1048576: NARROWER than '..Said'. Prove '..Said' where nothing that the law and all that it calls make is longer than what came in: it says more and counts as full. Else prove '..UptoSaid'. A law counts once. -/
mutual
def uptoBulk {H : Type} : DataW H → Nat
  | .lit (.string bytes) => bytes.length + 1
  | .lit _ => 1
  | .nil => 1
  | .ptr d => uptoBulk d + 1
  | .slice elems spare => uptoBulkAll elems + uptoBulkAll spare + 1
  | .agg parts => uptoBulkAll parts + 1
  | .iface _ d => uptoBulk d + 1
  | .map entries => uptoBulkEntries entries + 1
  | .held _ => 1
def uptoBulkAll {H : Type} : List (DataW H) → Nat
  | [] => 0
  | d :: r => uptoBulk d + uptoBulkAll r
def uptoBulkEntries {H : Type} : List (Lit × DataW H) → Nat
  | [] => 0
  | x :: r => uptoBulkEntry x + uptoBulkEntries r
def uptoBulkEntry {H : Type} : Lit × DataW H → Nat
  | (.string bytes, d) => bytes.length + uptoBulk d + 1
  | (_, d) => uptoBulk d + 1
 end
def uptoSmall : (H : Type) → List (DataW H) → Bool := fun _ ds => decide (uptoBulkAll ds ≤ 1048576)
def OpenSpec.upto (s : _root_.Go.ChangeSpec) : _root_.Go.OpenSpec := { _root_.Go.OpenSpec.ofChange s with cond := some uptoSmall }

/-- 'estuarylaw1.SpanTells', WHERE WHAT IT READS IS OF BULK AT MOST 1048576: true; the input reads as it did. -/
def spanTellsUptoRow : OpenClaim := { program := "ytjjdblfnffcdlaa", sum := "6d4fcde44d525ab13e055c23f67d76981ec764a2b68f4c8c02e87d8bfe2756d7", func := "estuary/estuarylaw1.SpanTells", spec := "spanTells", apart := false, narrowed := true }
def SpanTellsUptoSaid : Prop := spanTellsUptoRow.holds Try.pinned (OpenSpec.upto spanTellsSpec)

/-- 'estuarylaw1.SpanKeys', WHERE WHAT IT READS IS OF BULK AT MOST 1048576: true; the input reads as it did. -/
def spanKeysUptoRow : OpenClaim := { program := "ytjjdblfnffcdlaa", sum := "6d4fcde44d525ab13e055c23f67d76981ec764a2b68f4c8c02e87d8bfe2756d7", func := "estuary/estuarylaw1.SpanKeys", spec := "spanKeys", apart := false, narrowed := true }
def SpanKeysUptoSaid : Prop := spanKeysUptoRow.holds Try.pinned (OpenSpec.upto spanKeysSpec)

/-- 'estuarylaw1.SpanOrders', WHERE WHAT IT READS IS OF BULK AT MOST 1048576: true; the input reads as it did. -/
def spanOrdersUptoRow : OpenClaim := { program := "ytjjdblfnffcdlaa", sum := "6d4fcde44d525ab13e055c23f67d76981ec764a2b68f4c8c02e87d8bfe2756d7", func := "estuary/estuarylaw1.SpanOrders", spec := "spanOrders", apart := false, narrowed := true }
def SpanOrdersUptoSaid : Prop := spanOrdersUptoRow.holds Try.pinned (OpenSpec.upto spanOrdersSpec)

/-- 'estuarylaw1.SpanLimits', WHERE WHAT IT READS IS OF BULK AT MOST 1048576: true; the input reads as it did. -/
def spanLimitsUptoRow : OpenClaim := { program := "ytjjdblfnffcdlaa", sum := "6d4fcde44d525ab13e055c23f67d76981ec764a2b68f4c8c02e87d8bfe2756d7", func := "estuary/estuarylaw1.SpanLimits", spec := "spanLimits", apart := false, narrowed := true }
def SpanLimitsUptoSaid : Prop := spanLimitsUptoRow.holds Try.pinned (OpenSpec.upto spanLimitsSpec)

end Rows
end Go.Proofs.Ytjjdblfnffcdlaa
