/-
  NARROWER THAN 'FOR EVERY INPUT', by the rows' own cells (each row's printed sentence says how): DiskPlays: laid · DiskSafe: laid · CellTells: laid · CellVersions: laid · CellSpent: laid · DiskFull: laid.
  DERIVED. THE GIVEN ROWS OF THIS SEAT. 6 by the template 'for every input the law returns true; each argument reads behind the call as it read before'; 0 by the template 'total and deterministic' (their statements: YthcbffejjkmmfaaDoorTotals.lean).
  GIVEN WITH THE SEED: the statements are not yours to turn. If you find one false, say at which input.
  Laid BY PROGRAM, IN A SANDBOX (cutbox-rows.mjs): the forced cells as the released guide's own fill.sh prints them over the translation 7c352c51821fd7c8… (all of the seat's roots in one cut). By AI agents, Wed Nov 11 2026. No macro, syntax, notation, axiom, sorry.
-/
import Derived.Test.YthcbffejjkmmfaaDoorChecked
import GoSem.Claim
import GoSem.ClaimJoined
import GoSem.ClaimMapViews
import Derived.JoinedTies
import Derived.KernelRfl
namespace Go.Proofs.YthcbffejjkmmfaaDoor
/- THE CELL 'sum', in the pinned program and in every row, IS THE sha256 OF THE DUMP (.gsa) THAT YthcbffejjkmmfaaDoorProg.lean LOADS. Nothing in Lean hashes anything: it is a label: what it is worth is what the hold of that sum in a sandbox is worth. -/
noncomputable def Tryd.pinned : Pinned := { name := "ythcbffejjkmmfaadoor", sum := "7c352c51821fd7c8f6bcac10a8ad00897f7a78dc4ea9167b9b362fcfe62e9d7d", checked := Tryd.checked }
namespace Rows
def none {H : Type} : Left H := { results := [], args := [] }

/- WHAT THE LISTED PACKAGE-LEVEL VARIABLES READ AS WHEN THE CALL BEGINS. Each datum BY PROGRAM (the guide's laid-datum.mjs) off the statement by which the dump's own 'gosem.cut.vars' lays the variable. In a bare row this is a premise. The card (YthcbffejjkmmfaaDoorCards.lean) ties it to the program's text. -/
def laid_errors_errorType {H : Type} : DataW H := .iface "internal/reflectlite.rtype" (.agg [.ptr (.lit (.string [101, 114, 114, 111, 114]))])

/-- 'estuarylaw9.DiskPlays': WHATEVER THE INPUT: true; the input reads as it did. -/
def diskPlaysSpec : ChangeSpec := { name := "diskPlays", fn := fun _ => fun
  | [d] => { results := [.lit (.bool true)], args := [d] }
  | _ => none }
def diskPlaysRow : OpenClaim := { program := "ythcbffejjkmmfaadoor", sum := "7c352c51821fd7c8f6bcac10a8ad00897f7a78dc4ea9167b9b362fcfe62e9d7d", func := "estuary/estuarylaw9.DiskPlays", spec := "diskPlays", inPlace := ["internal/reflectlite.ValueOf", "(internal/reflectlite.Value).Type", "(internal/reflectlite.Value).IsNil", "internal/reflectlite.TypeOf", "(internal/reflectlite.Value).Elem", "(internal/reflectlite.Value).Set"], unfollowed := true, recurses := true, named := ["errors.errorType"], apart := false, laid := [("errors.errorType", laid_errors_errorType)] }
def DiskPlaysSaid : Prop := diskPlaysRow.holds Tryd.pinned (OpenSpec.ofChange diskPlaysSpec)

/-- ITS FALSE NEIGHBOUR: 'it returns false'. Refute it at one input. -/
def diskPlaysWrong : ChangeSpec := { name := "diskPlays", fn := fun _ => fun
  | [d] => { results := [.lit (.bool false)], args := [d] }
  | _ => none }
def DiskPlaysWrongFalsely : Prop := diskPlaysRow.holds Tryd.pinned (OpenSpec.ofChange diskPlaysWrong)

/-- 'estuarylaw9.DiskSafe': WHATEVER THE INPUT: true; the input reads as it did. -/
def diskSafeSpec : ChangeSpec := { name := "diskSafe", fn := fun _ => fun
  | [d1, d2, d3] => { results := [.lit (.bool true)], args := [d1, d2, d3] }
  | _ => none }
def diskSafeRow : OpenClaim := { program := "ythcbffejjkmmfaadoor", sum := "7c352c51821fd7c8f6bcac10a8ad00897f7a78dc4ea9167b9b362fcfe62e9d7d", func := "estuary/estuarylaw9.DiskSafe", spec := "diskSafe", inPlace := ["internal/reflectlite.ValueOf", "(internal/reflectlite.Value).Type", "(internal/reflectlite.Value).IsNil", "internal/reflectlite.TypeOf", "(internal/reflectlite.Value).Elem", "(internal/reflectlite.Value).Set"], unfollowed := true, recurses := true, named := ["errors.errorType"], apart := false, laid := [("errors.errorType", laid_errors_errorType)] }
def DiskSafeSaid : Prop := diskSafeRow.holds Tryd.pinned (OpenSpec.ofChange diskSafeSpec)

/-- ITS FALSE NEIGHBOUR: 'it returns false'. Refute it at one input. -/
def diskSafeWrong : ChangeSpec := { name := "diskSafe", fn := fun _ => fun
  | [d1, d2, d3] => { results := [.lit (.bool false)], args := [d1, d2, d3] }
  | _ => none }
def DiskSafeWrongFalsely : Prop := diskSafeRow.holds Tryd.pinned (OpenSpec.ofChange diskSafeWrong)

/-- 'estuarylaw11.CellTells': WHATEVER THE INPUT: true; the input reads as it did. -/
def cellTellsSpec : ChangeSpec := { name := "cellTells", fn := fun _ => fun
  | [d1, d2, d3] => { results := [.lit (.bool true)], args := [d1, d2, d3] }
  | _ => none }
def cellTellsRow : OpenClaim := { program := "ythcbffejjkmmfaadoor", sum := "7c352c51821fd7c8f6bcac10a8ad00897f7a78dc4ea9167b9b362fcfe62e9d7d", func := "estuary/estuarylaw11.CellTells", spec := "cellTells", inPlace := ["internal/reflectlite.ValueOf", "(internal/reflectlite.Value).Type", "(internal/reflectlite.Value).IsNil", "internal/reflectlite.TypeOf", "(internal/reflectlite.Value).Elem", "(internal/reflectlite.Value).Set"], unfollowed := true, recurses := true, named := ["errors.errorType"], apart := false, laid := [("errors.errorType", laid_errors_errorType)] }
def CellTellsSaid : Prop := cellTellsRow.holds Tryd.pinned (OpenSpec.ofChange cellTellsSpec)

/-- ITS FALSE NEIGHBOUR: 'it returns false'. Refute it at one input. -/
def cellTellsWrong : ChangeSpec := { name := "cellTells", fn := fun _ => fun
  | [d1, d2, d3] => { results := [.lit (.bool false)], args := [d1, d2, d3] }
  | _ => none }
def CellTellsWrongFalsely : Prop := cellTellsRow.holds Tryd.pinned (OpenSpec.ofChange cellTellsWrong)

/-- 'estuarylaw11.CellVersions': WHATEVER THE INPUT: true; the input reads as it did. -/
def cellVersionsSpec : ChangeSpec := { name := "cellVersions", fn := fun _ => fun
  | [d] => { results := [.lit (.bool true)], args := [d] }
  | _ => none }
def cellVersionsRow : OpenClaim := { program := "ythcbffejjkmmfaadoor", sum := "7c352c51821fd7c8f6bcac10a8ad00897f7a78dc4ea9167b9b362fcfe62e9d7d", func := "estuary/estuarylaw11.CellVersions", spec := "cellVersions", inPlace := ["internal/reflectlite.ValueOf", "(internal/reflectlite.Value).Type", "(internal/reflectlite.Value).IsNil", "internal/reflectlite.TypeOf", "(internal/reflectlite.Value).Elem", "(internal/reflectlite.Value).Set"], unfollowed := true, recurses := true, named := ["errors.errorType"], apart := false, laid := [("errors.errorType", laid_errors_errorType)] }
def CellVersionsSaid : Prop := cellVersionsRow.holds Tryd.pinned (OpenSpec.ofChange cellVersionsSpec)

/-- ITS FALSE NEIGHBOUR: 'it returns false'. Refute it at one input. -/
def cellVersionsWrong : ChangeSpec := { name := "cellVersions", fn := fun _ => fun
  | [d] => { results := [.lit (.bool false)], args := [d] }
  | _ => none }
def CellVersionsWrongFalsely : Prop := cellVersionsRow.holds Tryd.pinned (OpenSpec.ofChange cellVersionsWrong)

/-- 'estuarylaw11.CellSpent': WHATEVER THE INPUT: true; the input reads as it did. -/
def cellSpentSpec : ChangeSpec := { name := "cellSpent", fn := fun _ => fun
  | [d1, d2, d3] => { results := [.lit (.bool true)], args := [d1, d2, d3] }
  | _ => none }
def cellSpentRow : OpenClaim := { program := "ythcbffejjkmmfaadoor", sum := "7c352c51821fd7c8f6bcac10a8ad00897f7a78dc4ea9167b9b362fcfe62e9d7d", func := "estuary/estuarylaw11.CellSpent", spec := "cellSpent", inPlace := ["internal/reflectlite.ValueOf", "(internal/reflectlite.Value).Type", "(internal/reflectlite.Value).IsNil", "internal/reflectlite.TypeOf", "(internal/reflectlite.Value).Elem", "(internal/reflectlite.Value).Set"], unfollowed := true, recurses := true, named := ["errors.errorType"], apart := false, laid := [("errors.errorType", laid_errors_errorType)] }
def CellSpentSaid : Prop := cellSpentRow.holds Tryd.pinned (OpenSpec.ofChange cellSpentSpec)

/-- ITS FALSE NEIGHBOUR: 'it returns false'. Refute it at one input. -/
def cellSpentWrong : ChangeSpec := { name := "cellSpent", fn := fun _ => fun
  | [d1, d2, d3] => { results := [.lit (.bool false)], args := [d1, d2, d3] }
  | _ => none }
def CellSpentWrongFalsely : Prop := cellSpentRow.holds Tryd.pinned (OpenSpec.ofChange cellSpentWrong)

/-- 'estuarylaw9.DiskFull': WHATEVER THE INPUT: true; the input reads as it did. -/
def diskFullSpec : ChangeSpec := { name := "diskFull", fn := fun _ => fun
  | [d1, d2] => { results := [.lit (.bool true)], args := [d1, d2] }
  | _ => none }
def diskFullRow : OpenClaim := { program := "ythcbffejjkmmfaadoor", sum := "7c352c51821fd7c8f6bcac10a8ad00897f7a78dc4ea9167b9b362fcfe62e9d7d", func := "estuary/estuarylaw9.DiskFull", spec := "diskFull", inPlace := ["internal/reflectlite.ValueOf", "(internal/reflectlite.Value).Type", "(internal/reflectlite.Value).IsNil", "internal/reflectlite.TypeOf", "(internal/reflectlite.Value).Elem", "(internal/reflectlite.Value).Set"], unfollowed := true, recurses := true, named := ["errors.errorType"], apart := false, laid := [("errors.errorType", laid_errors_errorType)] }
def DiskFullSaid : Prop := diskFullRow.holds Tryd.pinned (OpenSpec.ofChange diskFullSpec)

/-- ITS FALSE NEIGHBOUR: 'it returns false'. Refute it at one input. -/
def diskFullWrong : ChangeSpec := { name := "diskFull", fn := fun _ => fun
  | [d1, d2] => { results := [.lit (.bool false)], args := [d1, d2] }
  | _ => none }
def DiskFullWrongFalsely : Prop := diskFullRow.holds Tryd.pinned (OpenSpec.ofChange diskFullWrong)

/- THE SECOND FORM. 'bulk': how many values and letters a reading holds, each counted each time it is reached (what is shared counts as often as it is met; a slice's spare places count too). A statement '..UptoSaid' is the law's where the arguments, and the package variables that the reading takes, are together of bulk at most 1048576: NARROWER than '..Said'. Prove '..Said' where nothing that the law and all that it calls make is longer than what came in: it says more and counts as full. Else prove '..UptoSaid'. A law counts once. -/
mutual
def uptoBulk {H : Type} : DataW H → Nat
  | .lit (.string bytes) => bytes.length + 1
  | .lit _ => 1
  | .nil => 1
  | .ptr d => uptoBulk d + 1
  | .slice elems spare => uptoBulkAll elems + uptoBulkAll spare + 1
  | .agg parts => uptoBulkAll parts + 1
  | .iface _ d => uptoBulk d + 1
  | .map entries => uptoBulkEntries entries + 1
  | .held _ => 1
def uptoBulkAll {H : Type} : List (DataW H) → Nat
  | [] => 0
  | d :: r => uptoBulk d + uptoBulkAll r
def uptoBulkEntries {H : Type} : List (Lit × DataW H) → Nat
  | [] => 0
  | x :: r => uptoBulkEntry x + uptoBulkEntries r
def uptoBulkEntry {H : Type} : Lit × DataW H → Nat
  | (.string bytes, d) => bytes.length + uptoBulk d + 1
  | (_, d) => uptoBulk d + 1
 end
def uptoSmall : (H : Type) → List (DataW H) → Bool := fun _ ds => decide (uptoBulkAll ds ≤ 1048576)
def OpenSpec.upto (s : _root_.Go.ChangeSpec) : _root_.Go.OpenSpec := { _root_.Go.OpenSpec.ofChange s with cond := some uptoSmall }

/-- 'estuarylaw9.DiskPlays', WHERE WHAT IT READS IS OF BULK AT MOST 1048576: true; the input reads as it did. -/
def diskPlaysUptoRow : OpenClaim := { program := "ythcbffejjkmmfaadoor", sum := "7c352c51821fd7c8f6bcac10a8ad00897f7a78dc4ea9167b9b362fcfe62e9d7d", func := "estuary/estuarylaw9.DiskPlays", spec := "diskPlays", inPlace := ["internal/reflectlite.ValueOf", "(internal/reflectlite.Value).Type", "(internal/reflectlite.Value).IsNil", "internal/reflectlite.TypeOf", "(internal/reflectlite.Value).Elem", "(internal/reflectlite.Value).Set"], unfollowed := true, recurses := true, named := ["errors.errorType"], apart := false, laid := [("errors.errorType", laid_errors_errorType)], narrowed := true }
def DiskPlaysUptoSaid : Prop := diskPlaysUptoRow.holds Tryd.pinned (OpenSpec.upto diskPlaysSpec)

/-- 'estuarylaw9.DiskSafe', WHERE WHAT IT READS IS OF BULK AT MOST 1048576: true; the input reads as it did. -/
def diskSafeUptoRow : OpenClaim := { program := "ythcbffejjkmmfaadoor", sum := "7c352c51821fd7c8f6bcac10a8ad00897f7a78dc4ea9167b9b362fcfe62e9d7d", func := "estuary/estuarylaw9.DiskSafe", spec := "diskSafe", inPlace := ["internal/reflectlite.ValueOf", "(internal/reflectlite.Value).Type", "(internal/reflectlite.Value).IsNil", "internal/reflectlite.TypeOf", "(internal/reflectlite.Value).Elem", "(internal/reflectlite.Value).Set"], unfollowed := true, recurses := true, named := ["errors.errorType"], apart := false, laid := [("errors.errorType", laid_errors_errorType)], narrowed := true }
def DiskSafeUptoSaid : Prop := diskSafeUptoRow.holds Tryd.pinned (OpenSpec.upto diskSafeSpec)

/-- 'estuarylaw11.CellTells', WHERE WHAT IT READS IS OF BULK AT MOST 1048576: true; the input reads as it did. -/
def cellTellsUptoRow : OpenClaim := { program := "ythcbffejjkmmfaadoor", sum := "7c352c51821fd7c8f6bcac10a8ad00897f7a78dc4ea9167b9b362fcfe62e9d7d", func := "estuary/estuarylaw11.CellTells", spec := "cellTells", inPlace := ["internal/reflectlite.ValueOf", "(internal/reflectlite.Value).Type", "(internal/reflectlite.Value).IsNil", "internal/reflectlite.TypeOf", "(internal/reflectlite.Value).Elem", "(internal/reflectlite.Value).Set"], unfollowed := true, recurses := true, named := ["errors.errorType"], apart := false, laid := [("errors.errorType", laid_errors_errorType)], narrowed := true }
def CellTellsUptoSaid : Prop := cellTellsUptoRow.holds Tryd.pinned (OpenSpec.upto cellTellsSpec)

/-- 'estuarylaw11.CellVersions', WHERE WHAT IT READS IS OF BULK AT MOST 1048576: true; the input reads as it did. -/
def cellVersionsUptoRow : OpenClaim := { program := "ythcbffejjkmmfaadoor", sum := "7c352c51821fd7c8f6bcac10a8ad00897f7a78dc4ea9167b9b362fcfe62e9d7d", func := "estuary/estuarylaw11.CellVersions", spec := "cellVersions", inPlace := ["internal/reflectlite.ValueOf", "(internal/reflectlite.Value).Type", "(internal/reflectlite.Value).IsNil", "internal/reflectlite.TypeOf", "(internal/reflectlite.Value).Elem", "(internal/reflectlite.Value).Set"], unfollowed := true, recurses := true, named := ["errors.errorType"], apart := false, laid := [("errors.errorType", laid_errors_errorType)], narrowed := true }
def CellVersionsUptoSaid : Prop := cellVersionsUptoRow.holds Tryd.pinned (OpenSpec.upto cellVersionsSpec)

/-- 'estuarylaw11.CellSpent', WHERE WHAT IT READS IS OF BULK AT MOST 1048576: true; the input reads as it did. -/
def cellSpentUptoRow : OpenClaim := { program := "ythcbffejjkmmfaadoor", sum := "7c352c51821fd7c8f6bcac10a8ad00897f7a78dc4ea9167b9b362fcfe62e9d7d", func := "estuary/estuarylaw11.CellSpent", spec := "cellSpent", inPlace := ["internal/reflectlite.ValueOf", "(internal/reflectlite.Value).Type", "(internal/reflectlite.Value).IsNil", "internal/reflectlite.TypeOf", "(internal/reflectlite.Value).Elem", "(internal/reflectlite.Value).Set"], unfollowed := true, recurses := true, named := ["errors.errorType"], apart := false, laid := [("errors.errorType", laid_errors_errorType)], narrowed := true }
def CellSpentUptoSaid : Prop := cellSpentUptoRow.holds Tryd.pinned (OpenSpec.upto cellSpentSpec)

/-- 'estuarylaw9.DiskFull', WHERE WHAT IT READS IS OF BULK AT MOST 1048576: true; the input reads as it did. -/
def diskFullUptoRow : OpenClaim := { program := "ythcbffejjkmmfaadoor", sum := "7c352c51821fd7c8f6bcac10a8ad00897f7a78dc4ea9167b9b362fcfe62e9d7d", func := "estuary/estuarylaw9.DiskFull", spec := "diskFull", inPlace := ["internal/reflectlite.ValueOf", "(internal/reflectlite.Value).Type", "(internal/reflectlite.Value).IsNil", "internal/reflectlite.TypeOf", "(internal/reflectlite.Value).Elem", "(internal/reflectlite.Value).Set"], unfollowed := true, recurses := true, named := ["errors.errorType"], apart := false, laid := [("errors.errorType", laid_errors_errorType)], narrowed := true }
def DiskFullUptoSaid : Prop := diskFullUptoRow.holds Tryd.pinned (OpenSpec.upto diskFullSpec)

end Rows
end Go.Proofs.YthcbffejjkmmfaaDoor
