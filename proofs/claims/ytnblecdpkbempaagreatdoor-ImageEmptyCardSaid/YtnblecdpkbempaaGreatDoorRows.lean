/-
  NARROWER THAN 'FOR EVERY INPUT', by the rows' own cells (each row's printed sentence says how): ImageBack: laid · ImageEmpty: laid · LetterBack: laid · LetterKinds: laid · LetterLimits: laid · BagFull: laid · BagAny: laid.
  DERIVED. THE GIVEN ROWS OF THIS SEAT. 7 by the template 'for every input the law returns true; each argument reads behind the call as it read before'; 0 by the template 'total and deterministic' (their statements: YtnblecdpkbempaaGreatDoorTotals.lean).
  GIVEN WITH THE SEED: the statements are not yours to turn. If you find one false, say at which input.
  Laid BY PROGRAM, IN A SANDBOX (cutbox-rows.mjs): the forced cells as the released guide's own fill.sh prints them over the translation c79a35f7df227d33… (all of the seat's roots in one cut). By AI agents, Wed Nov 11 2026. No macro, syntax, notation, axiom, sorry.
-/
import Derived.Test.YtnblecdpkbempaaGreatDoorChecked
import GoSem.Claim
import GoSem.ClaimJoined
import GoSem.ClaimMapViews
import Derived.JoinedTies
import Derived.KernelRfl
namespace Go.Proofs.YtnblecdpkbempaaGreatDoor
/- THE CELL 'sum', in the pinned program and in every row, IS THE sha256 OF THE DUMP (.gsa) THAT YtnblecdpkbempaaGreatDoorProg.lean LOADS. Nothing in Lean hashes anything: it is a label: what it is worth is what the hold of that sum in a sandbox is worth. -/
noncomputable def Tryz.pinned : Pinned := { name := "ytnblecdpkbempaagreatdoor", sum := "c79a35f7df227d33934e85b549625d585e55f523533e431a20d6d23ca751283d", checked := Tryz.checked }
namespace Rows
def none {H : Type} : Left H := { results := [], args := [] }

/- WHAT THE LISTED PACKAGE-LEVEL VARIABLES READ AS WHEN THE CALL BEGINS. Each datum BY PROGRAM (the guide's laid-datum.mjs) off the statement by which the dump's own 'gosem.cut.vars' lays the variable. In a bare row this is a premise. The card (YtnblecdpkbempaaGreatDoorCards.lean) ties it to the program's text. -/
def laid_errors_errorType {H : Type} : DataW H := .iface "internal/reflectlite.rtype" (.agg [.ptr (.lit (.string [101, 114, 114, 111, 114]))])

/-- 'estuarylaw16.ImageBack': WHATEVER THE INPUT: true; the input reads as it did. -/
def imageBackSpec : ChangeSpec := { name := "imageBack", fn := fun _ => fun
  | [d1, d2] => { results := [.lit (.bool true)], args := [d1, d2] }
  | _ => none }
def imageBackRow : OpenClaim := { program := "ytnblecdpkbempaagreatdoor", sum := "c79a35f7df227d33934e85b549625d585e55f523533e431a20d6d23ca751283d", func := "estuary/estuarylaw16.ImageBack", spec := "imageBack", inPlace := ["internal/reflectlite.TypeOf", "internal/reflectlite.ValueOf", "(internal/reflectlite.Value).Type", "(internal/reflectlite.Value).IsNil", "(internal/reflectlite.Value).Elem", "(internal/reflectlite.Value).Set", "internal/abi.NoEscape", "internal/bytealg.MakeNoZero"], unfollowed := true, recurses := true, named := ["errors.errorType"], apart := false, laid := [("errors.errorType", laid_errors_errorType)] }
def ImageBackSaid : Prop := imageBackRow.holds Tryz.pinned (OpenSpec.ofChange imageBackSpec)

/-- ITS FALSE NEIGHBOUR: 'it returns false'. Refute it at one input. -/
def imageBackWrong : ChangeSpec := { name := "imageBack", fn := fun _ => fun
  | [d1, d2] => { results := [.lit (.bool false)], args := [d1, d2] }
  | _ => none }
def ImageBackWrongFalsely : Prop := imageBackRow.holds Tryz.pinned (OpenSpec.ofChange imageBackWrong)

/-- 'estuarylaw16.ImageEmpty': WHATEVER THE INPUT: true; the input reads as it did. -/
def imageEmptySpec : ChangeSpec := { name := "imageEmpty", fn := fun _ => fun
  | [d1, d2, d3, d4] => { results := [.lit (.bool true)], args := [d1, d2, d3, d4] }
  | _ => none }
def imageEmptyRow : OpenClaim := { program := "ytnblecdpkbempaagreatdoor", sum := "c79a35f7df227d33934e85b549625d585e55f523533e431a20d6d23ca751283d", func := "estuary/estuarylaw16.ImageEmpty", spec := "imageEmpty", inPlace := ["internal/reflectlite.TypeOf", "internal/reflectlite.ValueOf", "(internal/reflectlite.Value).Type", "(internal/reflectlite.Value).IsNil", "(internal/reflectlite.Value).Elem", "(internal/reflectlite.Value).Set", "internal/abi.NoEscape", "internal/bytealg.MakeNoZero"], unfollowed := true, recurses := true, named := ["errors.errorType"], apart := false, laid := [("errors.errorType", laid_errors_errorType)] }
def ImageEmptySaid : Prop := imageEmptyRow.holds Tryz.pinned (OpenSpec.ofChange imageEmptySpec)

/-- ITS FALSE NEIGHBOUR: 'it returns false'. Refute it at one input. -/
def imageEmptyWrong : ChangeSpec := { name := "imageEmpty", fn := fun _ => fun
  | [d1, d2, d3, d4] => { results := [.lit (.bool false)], args := [d1, d2, d3, d4] }
  | _ => none }
def ImageEmptyWrongFalsely : Prop := imageEmptyRow.holds Tryz.pinned (OpenSpec.ofChange imageEmptyWrong)

/-- 'estuarylaw7.LetterBack': WHATEVER THE INPUT: true; the input reads as it did. -/
def letterBackSpec : ChangeSpec := { name := "letterBack", fn := fun _ => fun
  | [d1, d2, d3, d4, d5] => { results := [.lit (.bool true)], args := [d1, d2, d3, d4, d5] }
  | _ => none }
def letterBackRow : OpenClaim := { program := "ytnblecdpkbempaagreatdoor", sum := "c79a35f7df227d33934e85b549625d585e55f523533e431a20d6d23ca751283d", func := "estuary/estuarylaw7.LetterBack", spec := "letterBack", inPlace := ["internal/reflectlite.TypeOf", "internal/reflectlite.ValueOf", "(internal/reflectlite.Value).Type", "(internal/reflectlite.Value).IsNil", "(internal/reflectlite.Value).Elem", "(internal/reflectlite.Value).Set"], unfollowed := true, recurses := true, named := ["errors.errorType"], apart := false, laid := [("errors.errorType", laid_errors_errorType)] }
def LetterBackSaid : Prop := letterBackRow.holds Tryz.pinned (OpenSpec.ofChange letterBackSpec)

/-- ITS FALSE NEIGHBOUR: 'it returns false'. Refute it at one input. -/
def letterBackWrong : ChangeSpec := { name := "letterBack", fn := fun _ => fun
  | [d1, d2, d3, d4, d5] => { results := [.lit (.bool false)], args := [d1, d2, d3, d4, d5] }
  | _ => none }
def LetterBackWrongFalsely : Prop := letterBackRow.holds Tryz.pinned (OpenSpec.ofChange letterBackWrong)

/-- 'estuarylaw7.LetterKinds': WHATEVER THE INPUT: true; the input reads as it did. -/
def letterKindsSpec : ChangeSpec := { name := "letterKinds", fn := fun _ => fun
  | [d1, d2, d3, d4, d5] => { results := [.lit (.bool true)], args := [d1, d2, d3, d4, d5] }
  | _ => none }
def letterKindsRow : OpenClaim := { program := "ytnblecdpkbempaagreatdoor", sum := "c79a35f7df227d33934e85b549625d585e55f523533e431a20d6d23ca751283d", func := "estuary/estuarylaw7.LetterKinds", spec := "letterKinds", inPlace := ["internal/reflectlite.TypeOf", "internal/reflectlite.ValueOf", "(internal/reflectlite.Value).Type", "(internal/reflectlite.Value).IsNil", "(internal/reflectlite.Value).Elem", "(internal/reflectlite.Value).Set"], unfollowed := true, recurses := true, named := ["errors.errorType"], apart := false, laid := [("errors.errorType", laid_errors_errorType)] }
def LetterKindsSaid : Prop := letterKindsRow.holds Tryz.pinned (OpenSpec.ofChange letterKindsSpec)

/-- ITS FALSE NEIGHBOUR: 'it returns false'. Refute it at one input. -/
def letterKindsWrong : ChangeSpec := { name := "letterKinds", fn := fun _ => fun
  | [d1, d2, d3, d4, d5] => { results := [.lit (.bool false)], args := [d1, d2, d3, d4, d5] }
  | _ => none }
def LetterKindsWrongFalsely : Prop := letterKindsRow.holds Tryz.pinned (OpenSpec.ofChange letterKindsWrong)

/-- 'estuarylaw7.LetterLimits': WHATEVER THE INPUT: true; the input reads as it did. -/
def letterLimitsSpec : ChangeSpec := { name := "letterLimits", fn := fun _ => fun
  | [d1, d2, d3, d4] => { results := [.lit (.bool true)], args := [d1, d2, d3, d4] }
  | _ => none }
def letterLimitsRow : OpenClaim := { program := "ytnblecdpkbempaagreatdoor", sum := "c79a35f7df227d33934e85b549625d585e55f523533e431a20d6d23ca751283d", func := "estuary/estuarylaw7.LetterLimits", spec := "letterLimits", inPlace := ["internal/reflectlite.TypeOf", "internal/reflectlite.ValueOf", "(internal/reflectlite.Value).Type", "(internal/reflectlite.Value).IsNil", "(internal/reflectlite.Value).Elem", "(internal/reflectlite.Value).Set"], unfollowed := true, recurses := true, named := ["errors.errorType"], apart := false, laid := [("errors.errorType", laid_errors_errorType)] }
def LetterLimitsSaid : Prop := letterLimitsRow.holds Tryz.pinned (OpenSpec.ofChange letterLimitsSpec)

/-- ITS FALSE NEIGHBOUR: 'it returns false'. Refute it at one input. -/
def letterLimitsWrong : ChangeSpec := { name := "letterLimits", fn := fun _ => fun
  | [d1, d2, d3, d4] => { results := [.lit (.bool false)], args := [d1, d2, d3, d4] }
  | _ => none }
def LetterLimitsWrongFalsely : Prop := letterLimitsRow.holds Tryz.pinned (OpenSpec.ofChange letterLimitsWrong)

/-- 'estuarylaw8.BagFull': WHATEVER THE INPUT: true; the input reads as it did. -/
def bagFullSpec : ChangeSpec := { name := "bagFull", fn := fun _ => fun
  | [d] => { results := [.lit (.bool true)], args := [d] }
  | _ => none }
def bagFullRow : OpenClaim := { program := "ytnblecdpkbempaagreatdoor", sum := "c79a35f7df227d33934e85b549625d585e55f523533e431a20d6d23ca751283d", func := "estuary/estuarylaw8.BagFull", spec := "bagFull", inPlace := ["internal/reflectlite.TypeOf", "internal/reflectlite.ValueOf", "(internal/reflectlite.Value).Type", "(internal/reflectlite.Value).IsNil", "(internal/reflectlite.Value).Elem", "(internal/reflectlite.Value).Set"], unfollowed := true, recurses := true, named := ["errors.errorType"], apart := false, laid := [("errors.errorType", laid_errors_errorType)] }
def BagFullSaid : Prop := bagFullRow.holds Tryz.pinned (OpenSpec.ofChange bagFullSpec)

/-- ITS FALSE NEIGHBOUR: 'it returns false'. Refute it at one input. -/
def bagFullWrong : ChangeSpec := { name := "bagFull", fn := fun _ => fun
  | [d] => { results := [.lit (.bool false)], args := [d] }
  | _ => none }
def BagFullWrongFalsely : Prop := bagFullRow.holds Tryz.pinned (OpenSpec.ofChange bagFullWrong)

/-- 'estuarylaw8.BagAny': WHATEVER THE INPUT: true; the input reads as it did. -/
def bagAnySpec : ChangeSpec := { name := "bagAny", fn := fun _ => fun
  | [d1, d2, d3] => { results := [.lit (.bool true)], args := [d1, d2, d3] }
  | _ => none }
def bagAnyRow : OpenClaim := { program := "ytnblecdpkbempaagreatdoor", sum := "c79a35f7df227d33934e85b549625d585e55f523533e431a20d6d23ca751283d", func := "estuary/estuarylaw8.BagAny", spec := "bagAny", inPlace := ["internal/reflectlite.TypeOf", "internal/reflectlite.ValueOf", "(internal/reflectlite.Value).Type", "(internal/reflectlite.Value).IsNil", "(internal/reflectlite.Value).Elem", "(internal/reflectlite.Value).Set"], unfollowed := true, recurses := true, named := ["errors.errorType"], apart := false, laid := [("errors.errorType", laid_errors_errorType)] }
def BagAnySaid : Prop := bagAnyRow.holds Tryz.pinned (OpenSpec.ofChange bagAnySpec)

/-- ITS FALSE NEIGHBOUR: 'it returns false'. Refute it at one input. -/
def bagAnyWrong : ChangeSpec := { name := "bagAny", fn := fun _ => fun
  | [d1, d2, d3] => { results := [.lit (.bool false)], args := [d1, d2, d3] }
  | _ => none }
def BagAnyWrongFalsely : Prop := bagAnyRow.holds Tryz.pinned (OpenSpec.ofChange bagAnyWrong)

/- THE SECOND FORM. 'bulk': how many values and letters a reading holds, each counted each time it is reached (what is shared counts as often as it is met; a slice's spare places count too). A statement '..UptoSaid' is the law's where the arguments, and the package variables that the reading takes, are together of bulk at most 1048576: NARROWER than '..Said'. Prove '..Said' where nothing that the law and all that it calls make is longer than what came in: it says more and counts as full. Else prove '..UptoSaid'. A law counts once. -/
mutual
def uptoBulk {H : Type} : DataW H → Nat
  | .lit (.string bytes) => bytes.length + 1
  | .lit _ => 1
  | .nil => 1
  | .ptr d => uptoBulk d + 1
  | .slice elems spare => uptoBulkAll elems + uptoBulkAll spare + 1
  | .agg parts => uptoBulkAll parts + 1
  | .iface _ d => uptoBulk d + 1
  | .map entries => uptoBulkEntries entries + 1
  | .held _ => 1
def uptoBulkAll {H : Type} : List (DataW H) → Nat
  | [] => 0
  | d :: r => uptoBulk d + uptoBulkAll r
def uptoBulkEntries {H : Type} : List (Lit × DataW H) → Nat
  | [] => 0
  | x :: r => uptoBulkEntry x + uptoBulkEntries r
def uptoBulkEntry {H : Type} : Lit × DataW H → Nat
  | (.string bytes, d) => bytes.length + uptoBulk d + 1
  | (_, d) => uptoBulk d + 1
 end
def uptoSmall : (H : Type) → List (DataW H) → Bool := fun _ ds => decide (uptoBulkAll ds ≤ 1048576)
def OpenSpec.upto (s : _root_.Go.ChangeSpec) : _root_.Go.OpenSpec := { _root_.Go.OpenSpec.ofChange s with cond := some uptoSmall }

/-- 'estuarylaw16.ImageBack', WHERE WHAT IT READS IS OF BULK AT MOST 1048576: true; the input reads as it did. -/
def imageBackUptoRow : OpenClaim := { program := "ytnblecdpkbempaagreatdoor", sum := "c79a35f7df227d33934e85b549625d585e55f523533e431a20d6d23ca751283d", func := "estuary/estuarylaw16.ImageBack", spec := "imageBack", inPlace := ["internal/reflectlite.TypeOf", "internal/reflectlite.ValueOf", "(internal/reflectlite.Value).Type", "(internal/reflectlite.Value).IsNil", "(internal/reflectlite.Value).Elem", "(internal/reflectlite.Value).Set", "internal/abi.NoEscape", "internal/bytealg.MakeNoZero"], unfollowed := true, recurses := true, named := ["errors.errorType"], apart := false, laid := [("errors.errorType", laid_errors_errorType)], narrowed := true }
def ImageBackUptoSaid : Prop := imageBackUptoRow.holds Tryz.pinned (OpenSpec.upto imageBackSpec)

/-- 'estuarylaw16.ImageEmpty', WHERE WHAT IT READS IS OF BULK AT MOST 1048576: true; the input reads as it did. -/
def imageEmptyUptoRow : OpenClaim := { program := "ytnblecdpkbempaagreatdoor", sum := "c79a35f7df227d33934e85b549625d585e55f523533e431a20d6d23ca751283d", func := "estuary/estuarylaw16.ImageEmpty", spec := "imageEmpty", inPlace := ["internal/reflectlite.TypeOf", "internal/reflectlite.ValueOf", "(internal/reflectlite.Value).Type", "(internal/reflectlite.Value).IsNil", "(internal/reflectlite.Value).Elem", "(internal/reflectlite.Value).Set", "internal/abi.NoEscape", "internal/bytealg.MakeNoZero"], unfollowed := true, recurses := true, named := ["errors.errorType"], apart := false, laid := [("errors.errorType", laid_errors_errorType)], narrowed := true }
def ImageEmptyUptoSaid : Prop := imageEmptyUptoRow.holds Tryz.pinned (OpenSpec.upto imageEmptySpec)

/-- 'estuarylaw7.LetterBack', WHERE WHAT IT READS IS OF BULK AT MOST 1048576: true; the input reads as it did. -/
def letterBackUptoRow : OpenClaim := { program := "ytnblecdpkbempaagreatdoor", sum := "c79a35f7df227d33934e85b549625d585e55f523533e431a20d6d23ca751283d", func := "estuary/estuarylaw7.LetterBack", spec := "letterBack", inPlace := ["internal/reflectlite.TypeOf", "internal/reflectlite.ValueOf", "(internal/reflectlite.Value).Type", "(internal/reflectlite.Value).IsNil", "(internal/reflectlite.Value).Elem", "(internal/reflectlite.Value).Set"], unfollowed := true, recurses := true, named := ["errors.errorType"], apart := false, laid := [("errors.errorType", laid_errors_errorType)], narrowed := true }
def LetterBackUptoSaid : Prop := letterBackUptoRow.holds Tryz.pinned (OpenSpec.upto letterBackSpec)

/-- 'estuarylaw7.LetterKinds', WHERE WHAT IT READS IS OF BULK AT MOST 1048576: true; the input reads as it did. -/
def letterKindsUptoRow : OpenClaim := { program := "ytnblecdpkbempaagreatdoor", sum := "c79a35f7df227d33934e85b549625d585e55f523533e431a20d6d23ca751283d", func := "estuary/estuarylaw7.LetterKinds", spec := "letterKinds", inPlace := ["internal/reflectlite.TypeOf", "internal/reflectlite.ValueOf", "(internal/reflectlite.Value).Type", "(internal/reflectlite.Value).IsNil", "(internal/reflectlite.Value).Elem", "(internal/reflectlite.Value).Set"], unfollowed := true, recurses := true, named := ["errors.errorType"], apart := false, laid := [("errors.errorType", laid_errors_errorType)], narrowed := true }
def LetterKindsUptoSaid : Prop := letterKindsUptoRow.holds Tryz.pinned (OpenSpec.upto letterKindsSpec)

/-- 'estuarylaw7.LetterLimits', WHERE WHAT IT READS IS OF BULK AT MOST 1048576: true; the input reads as it did. -/
def letterLimitsUptoRow : OpenClaim := { program := "ytnblecdpkbempaagreatdoor", sum := "c79a35f7df227d33934e85b549625d585e55f523533e431a20d6d23ca751283d", func := "estuary/estuarylaw7.LetterLimits", spec := "letterLimits", inPlace := ["internal/reflectlite.TypeOf", "internal/reflectlite.ValueOf", "(internal/reflectlite.Value).Type", "(internal/reflectlite.Value).IsNil", "(internal/reflectlite.Value).Elem", "(internal/reflectlite.Value).Set"], unfollowed := true, recurses := true, named := ["errors.errorType"], apart := false, laid := [("errors.errorType", laid_errors_errorType)], narrowed := true }
def LetterLimitsUptoSaid : Prop := letterLimitsUptoRow.holds Tryz.pinned (OpenSpec.upto letterLimitsSpec)

/-- 'estuarylaw8.BagFull', WHERE WHAT IT READS IS OF BULK AT MOST 1048576: true; the input reads as it did. -/
def bagFullUptoRow : OpenClaim := { program := "ytnblecdpkbempaagreatdoor", sum := "c79a35f7df227d33934e85b549625d585e55f523533e431a20d6d23ca751283d", func := "estuary/estuarylaw8.BagFull", spec := "bagFull", inPlace := ["internal/reflectlite.TypeOf", "internal/reflectlite.ValueOf", "(internal/reflectlite.Value).Type", "(internal/reflectlite.Value).IsNil", "(internal/reflectlite.Value).Elem", "(internal/reflectlite.Value).Set"], unfollowed := true, recurses := true, named := ["errors.errorType"], apart := false, laid := [("errors.errorType", laid_errors_errorType)], narrowed := true }
def BagFullUptoSaid : Prop := bagFullUptoRow.holds Tryz.pinned (OpenSpec.upto bagFullSpec)

/-- 'estuarylaw8.BagAny', WHERE WHAT IT READS IS OF BULK AT MOST 1048576: true; the input reads as it did. -/
def bagAnyUptoRow : OpenClaim := { program := "ytnblecdpkbempaagreatdoor", sum := "c79a35f7df227d33934e85b549625d585e55f523533e431a20d6d23ca751283d", func := "estuary/estuarylaw8.BagAny", spec := "bagAny", inPlace := ["internal/reflectlite.TypeOf", "internal/reflectlite.ValueOf", "(internal/reflectlite.Value).Type", "(internal/reflectlite.Value).IsNil", "(internal/reflectlite.Value).Elem", "(internal/reflectlite.Value).Set"], unfollowed := true, recurses := true, named := ["errors.errorType"], apart := false, laid := [("errors.errorType", laid_errors_errorType)], narrowed := true }
def BagAnyUptoSaid : Prop := bagAnyUptoRow.holds Tryz.pinned (OpenSpec.upto bagAnySpec)

end Rows
end Go.Proofs.YtnblecdpkbempaaGreatDoor
