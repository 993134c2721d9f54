/-
  NARROWER THAN 'FOR EVERY INPUT', by the rows' own cells (each row's printed sentence says how): MoverEnds: laid · MoverAgain: laid · MoverMaps: laid · MoverAborts: laid · MoverRefuses: laid.
  DERIVED. THE GIVEN ROWS OF THIS SEAT. 5 by the template 'for every input the law returns true; each argument reads behind the call as it read before'; 0 by the template 'total and deterministic' (their statements: YtgjbhkbjdihddaaDoorTotals.lean).
  GIVEN WITH THE SEED: the statements are not yours to turn. If you find one false, say at which input.
  Laid BY PROGRAM, IN A SANDBOX (cutbox-rows.mjs): the forced cells as the released guide's own fill.sh prints them over the translation c2dfe99414028555… (all of the seat's roots in one cut). By AI agents, Wed Nov 11 2026. No macro, syntax, notation, axiom, sorry.
-/
import Derived.Test.YtgjbhkbjdihddaaDoorChecked
import GoSem.Claim
import GoSem.ClaimJoined
import GoSem.ClaimMapViews
import Derived.JoinedTies
import Derived.KernelRfl
namespace Go.Proofs.YtgjbhkbjdihddaaDoor
/- THE CELL 'sum', in the pinned program and in every row, IS THE sha256 OF THE DUMP (.gsa) THAT YtgjbhkbjdihddaaDoorProg.lean LOADS. Nothing in Lean hashes anything: it is a label: what it is worth is what the hold of that sum in a sandbox is worth. -/
noncomputable def Tryd.pinned : Pinned := { name := "ytgjbhkbjdihddaadoor", sum := "c2dfe99414028555086a63ef3a30960d444d6ba985c66339c11877eb6ca9ac1c", checked := Tryd.checked }
namespace Rows
def none {H : Type} : Left H := { results := [], args := [] }

/- WHAT THE LISTED PACKAGE-LEVEL VARIABLES READ AS WHEN THE CALL BEGINS. Each datum BY PROGRAM (the guide's laid-datum.mjs) off the statement by which the dump's own 'gosem.cut.vars' lays the variable. In a bare row this is a premise. The card (YtgjbhkbjdihddaaDoorCards.lean) ties it to the program's text. -/
def laid_errors_errorType {H : Type} : DataW H := .iface "internal/reflectlite.rtype" (.agg [.ptr (.lit (.string [101, 114, 114, 111, 114]))])

/-- 'estuarylaw21.MoverEnds': WHATEVER THE INPUT: true; the input reads as it did. -/
def moverEndsSpec : ChangeSpec := { name := "moverEnds", fn := fun _ => fun
  | [d1, d2, d3, d4] => { results := [.lit (.bool true)], args := [d1, d2, d3, d4] }
  | _ => none }
def moverEndsRow : OpenClaim := { program := "ytgjbhkbjdihddaadoor", sum := "c2dfe99414028555086a63ef3a30960d444d6ba985c66339c11877eb6ca9ac1c", func := "estuary/estuarylaw21.MoverEnds", spec := "moverEnds", inPlace := ["internal/reflectlite.TypeOf", "slices.overlaps[estuary/api.Place]", "internal/reflectlite.ValueOf", "(internal/reflectlite.Value).Type", "(internal/reflectlite.Value).IsNil", "(internal/reflectlite.Value).Elem", "(internal/reflectlite.Value).Set"], unfollowed := true, recurses := true, named := ["errors.errorType"], apart := false, laid := [("errors.errorType", laid_errors_errorType)] }
def MoverEndsSaid : Prop := moverEndsRow.holds Tryd.pinned (OpenSpec.ofChange moverEndsSpec)

/-- ITS FALSE NEIGHBOUR: 'it returns false'. Refute it at one input. -/
def moverEndsWrong : ChangeSpec := { name := "moverEnds", fn := fun _ => fun
  | [d1, d2, d3, d4] => { results := [.lit (.bool false)], args := [d1, d2, d3, d4] }
  | _ => none }
def MoverEndsWrongFalsely : Prop := moverEndsRow.holds Tryd.pinned (OpenSpec.ofChange moverEndsWrong)

/-- 'estuarylaw21.MoverAgain': WHATEVER THE INPUT: true; the input reads as it did. -/
def moverAgainSpec : ChangeSpec := { name := "moverAgain", fn := fun _ => fun
  | [d1, d2] => { results := [.lit (.bool true)], args := [d1, d2] }
  | _ => none }
def moverAgainRow : OpenClaim := { program := "ytgjbhkbjdihddaadoor", sum := "c2dfe99414028555086a63ef3a30960d444d6ba985c66339c11877eb6ca9ac1c", func := "estuary/estuarylaw21.MoverAgain", spec := "moverAgain", inPlace := ["internal/reflectlite.TypeOf", "slices.overlaps[estuary/api.Place]", "internal/reflectlite.ValueOf", "(internal/reflectlite.Value).Type", "(internal/reflectlite.Value).IsNil", "(internal/reflectlite.Value).Elem", "(internal/reflectlite.Value).Set"], unfollowed := true, recurses := true, named := ["errors.errorType"], apart := false, laid := [("errors.errorType", laid_errors_errorType)] }
def MoverAgainSaid : Prop := moverAgainRow.holds Tryd.pinned (OpenSpec.ofChange moverAgainSpec)

/-- ITS FALSE NEIGHBOUR: 'it returns false'. Refute it at one input. -/
def moverAgainWrong : ChangeSpec := { name := "moverAgain", fn := fun _ => fun
  | [d1, d2] => { results := [.lit (.bool false)], args := [d1, d2] }
  | _ => none }
def MoverAgainWrongFalsely : Prop := moverAgainRow.holds Tryd.pinned (OpenSpec.ofChange moverAgainWrong)

/-- 'estuarylaw21.MoverMaps': WHATEVER THE INPUT: true; the input reads as it did. -/
def moverMapsSpec : ChangeSpec := { name := "moverMaps", fn := fun _ => fun
  | [d1, d2] => { results := [.lit (.bool true)], args := [d1, d2] }
  | _ => none }
def moverMapsRow : OpenClaim := { program := "ytgjbhkbjdihddaadoor", sum := "c2dfe99414028555086a63ef3a30960d444d6ba985c66339c11877eb6ca9ac1c", func := "estuary/estuarylaw21.MoverMaps", spec := "moverMaps", inPlace := ["internal/reflectlite.TypeOf", "slices.overlaps[estuary/api.Place]", "internal/reflectlite.ValueOf", "(internal/reflectlite.Value).Type", "(internal/reflectlite.Value).IsNil", "(internal/reflectlite.Value).Elem", "(internal/reflectlite.Value).Set"], unfollowed := true, recurses := true, named := ["errors.errorType"], apart := false, laid := [("errors.errorType", laid_errors_errorType)] }
def MoverMapsSaid : Prop := moverMapsRow.holds Tryd.pinned (OpenSpec.ofChange moverMapsSpec)

/-- ITS FALSE NEIGHBOUR: 'it returns false'. Refute it at one input. -/
def moverMapsWrong : ChangeSpec := { name := "moverMaps", fn := fun _ => fun
  | [d1, d2] => { results := [.lit (.bool false)], args := [d1, d2] }
  | _ => none }
def MoverMapsWrongFalsely : Prop := moverMapsRow.holds Tryd.pinned (OpenSpec.ofChange moverMapsWrong)

/-- 'estuarylaw21.MoverAborts': WHATEVER THE INPUT: true; the input reads as it did. -/
def moverAbortsSpec : ChangeSpec := { name := "moverAborts", fn := fun _ => fun
  | [d] => { results := [.lit (.bool true)], args := [d] }
  | _ => none }
def moverAbortsRow : OpenClaim := { program := "ytgjbhkbjdihddaadoor", sum := "c2dfe99414028555086a63ef3a30960d444d6ba985c66339c11877eb6ca9ac1c", func := "estuary/estuarylaw21.MoverAborts", spec := "moverAborts", inPlace := ["internal/reflectlite.TypeOf", "slices.overlaps[estuary/api.Place]", "internal/reflectlite.ValueOf", "(internal/reflectlite.Value).Type", "(internal/reflectlite.Value).IsNil", "(internal/reflectlite.Value).Elem", "(internal/reflectlite.Value).Set"], unfollowed := true, recurses := true, named := ["errors.errorType"], apart := false, laid := [("errors.errorType", laid_errors_errorType)] }
def MoverAbortsSaid : Prop := moverAbortsRow.holds Tryd.pinned (OpenSpec.ofChange moverAbortsSpec)

/-- ITS FALSE NEIGHBOUR: 'it returns false'. Refute it at one input. -/
def moverAbortsWrong : ChangeSpec := { name := "moverAborts", fn := fun _ => fun
  | [d] => { results := [.lit (.bool false)], args := [d] }
  | _ => none }
def MoverAbortsWrongFalsely : Prop := moverAbortsRow.holds Tryd.pinned (OpenSpec.ofChange moverAbortsWrong)

/-- 'estuarylaw21.MoverRefuses': WHATEVER THE INPUT: true; the input reads as it did. -/
def moverRefusesSpec : ChangeSpec := { name := "moverRefuses", fn := fun _ => fun
  | [d1, d2] => { results := [.lit (.bool true)], args := [d1, d2] }
  | _ => none }
def moverRefusesRow : OpenClaim := { program := "ytgjbhkbjdihddaadoor", sum := "c2dfe99414028555086a63ef3a30960d444d6ba985c66339c11877eb6ca9ac1c", func := "estuary/estuarylaw21.MoverRefuses", spec := "moverRefuses", inPlace := ["internal/reflectlite.TypeOf", "slices.overlaps[estuary/api.Place]", "internal/reflectlite.ValueOf", "(internal/reflectlite.Value).Type", "(internal/reflectlite.Value).IsNil", "(internal/reflectlite.Value).Elem", "(internal/reflectlite.Value).Set"], unfollowed := true, recurses := true, named := ["errors.errorType"], apart := false, laid := [("errors.errorType", laid_errors_errorType)] }
def MoverRefusesSaid : Prop := moverRefusesRow.holds Tryd.pinned (OpenSpec.ofChange moverRefusesSpec)

/-- ITS FALSE NEIGHBOUR: 'it returns false'. Refute it at one input. -/
def moverRefusesWrong : ChangeSpec := { name := "moverRefuses", fn := fun _ => fun
  | [d1, d2] => { results := [.lit (.bool false)], args := [d1, d2] }
  | _ => none }
def MoverRefusesWrongFalsely : Prop := moverRefusesRow.holds Tryd.pinned (OpenSpec.ofChange moverRefusesWrong)

/- THE SECOND FORM. 'bulk': how many values and letters a reading holds, each counted each time it is reached (what is shared counts as often as it is met; a slice's spare places count too). A statement '..UptoSaid' is the law's where the arguments, and the package variables that the reading takes, are together of bulk at most 1048576: NARROWER than '..Said'. Prove '..Said' where nothing that the law and all that it calls make is longer than what came in: it says more and counts as full. Else prove '..UptoSaid'. A law counts once. -/
mutual
def uptoBulk {H : Type} : DataW H → Nat
  | .lit (.string bytes) => bytes.length + 1
  | .lit _ => 1
  | .nil => 1
  | .ptr d => uptoBulk d + 1
  | .slice elems spare => uptoBulkAll elems + uptoBulkAll spare + 1
  | .agg parts => uptoBulkAll parts + 1
  | .iface _ d => uptoBulk d + 1
  | .map entries => uptoBulkEntries entries + 1
  | .held _ => 1
def uptoBulkAll {H : Type} : List (DataW H) → Nat
  | [] => 0
  | d :: r => uptoBulk d + uptoBulkAll r
def uptoBulkEntries {H : Type} : List (Lit × DataW H) → Nat
  | [] => 0
  | x :: r => uptoBulkEntry x + uptoBulkEntries r
def uptoBulkEntry {H : Type} : Lit × DataW H → Nat
  | (.string bytes, d) => bytes.length + uptoBulk d + 1
  | (_, d) => uptoBulk d + 1
 end
def uptoSmall : (H : Type) → List (DataW H) → Bool := fun _ ds => decide (uptoBulkAll ds ≤ 1048576)
def OpenSpec.upto (s : _root_.Go.ChangeSpec) : _root_.Go.OpenSpec := { _root_.Go.OpenSpec.ofChange s with cond := some uptoSmall }

/-- 'estuarylaw21.MoverEnds', WHERE WHAT IT READS IS OF BULK AT MOST 1048576: true; the input reads as it did. -/
def moverEndsUptoRow : OpenClaim := { program := "ytgjbhkbjdihddaadoor", sum := "c2dfe99414028555086a63ef3a30960d444d6ba985c66339c11877eb6ca9ac1c", func := "estuary/estuarylaw21.MoverEnds", spec := "moverEnds", inPlace := ["internal/reflectlite.TypeOf", "slices.overlaps[estuary/api.Place]", "internal/reflectlite.ValueOf", "(internal/reflectlite.Value).Type", "(internal/reflectlite.Value).IsNil", "(internal/reflectlite.Value).Elem", "(internal/reflectlite.Value).Set"], unfollowed := true, recurses := true, named := ["errors.errorType"], apart := false, laid := [("errors.errorType", laid_errors_errorType)], narrowed := true }
def MoverEndsUptoSaid : Prop := moverEndsUptoRow.holds Tryd.pinned (OpenSpec.upto moverEndsSpec)

/-- 'estuarylaw21.MoverAgain', WHERE WHAT IT READS IS OF BULK AT MOST 1048576: true; the input reads as it did. -/
def moverAgainUptoRow : OpenClaim := { program := "ytgjbhkbjdihddaadoor", sum := "c2dfe99414028555086a63ef3a30960d444d6ba985c66339c11877eb6ca9ac1c", func := "estuary/estuarylaw21.MoverAgain", spec := "moverAgain", inPlace := ["internal/reflectlite.TypeOf", "slices.overlaps[estuary/api.Place]", "internal/reflectlite.ValueOf", "(internal/reflectlite.Value).Type", "(internal/reflectlite.Value).IsNil", "(internal/reflectlite.Value).Elem", "(internal/reflectlite.Value).Set"], unfollowed := true, recurses := true, named := ["errors.errorType"], apart := false, laid := [("errors.errorType", laid_errors_errorType)], narrowed := true }
def MoverAgainUptoSaid : Prop := moverAgainUptoRow.holds Tryd.pinned (OpenSpec.upto moverAgainSpec)

/-- 'estuarylaw21.MoverMaps', WHERE WHAT IT READS IS OF BULK AT MOST 1048576: true; the input reads as it did. -/
def moverMapsUptoRow : OpenClaim := { program := "ytgjbhkbjdihddaadoor", sum := "c2dfe99414028555086a63ef3a30960d444d6ba985c66339c11877eb6ca9ac1c", func := "estuary/estuarylaw21.MoverMaps", spec := "moverMaps", inPlace := ["internal/reflectlite.TypeOf", "slices.overlaps[estuary/api.Place]", "internal/reflectlite.ValueOf", "(internal/reflectlite.Value).Type", "(internal/reflectlite.Value).IsNil", "(internal/reflectlite.Value).Elem", "(internal/reflectlite.Value).Set"], unfollowed := true, recurses := true, named := ["errors.errorType"], apart := false, laid := [("errors.errorType", laid_errors_errorType)], narrowed := true }
def MoverMapsUptoSaid : Prop := moverMapsUptoRow.holds Tryd.pinned (OpenSpec.upto moverMapsSpec)

/-- 'estuarylaw21.MoverAborts', WHERE WHAT IT READS IS OF BULK AT MOST 1048576: true; the input reads as it did. -/
def moverAbortsUptoRow : OpenClaim := { program := "ytgjbhkbjdihddaadoor", sum := "c2dfe99414028555086a63ef3a30960d444d6ba985c66339c11877eb6ca9ac1c", func := "estuary/estuarylaw21.MoverAborts", spec := "moverAborts", inPlace := ["internal/reflectlite.TypeOf", "slices.overlaps[estuary/api.Place]", "internal/reflectlite.ValueOf", "(internal/reflectlite.Value).Type", "(internal/reflectlite.Value).IsNil", "(internal/reflectlite.Value).Elem", "(internal/reflectlite.Value).Set"], unfollowed := true, recurses := true, named := ["errors.errorType"], apart := false, laid := [("errors.errorType", laid_errors_errorType)], narrowed := true }
def MoverAbortsUptoSaid : Prop := moverAbortsUptoRow.holds Tryd.pinned (OpenSpec.upto moverAbortsSpec)

/-- 'estuarylaw21.MoverRefuses', WHERE WHAT IT READS IS OF BULK AT MOST 1048576: true; the input reads as it did. -/
def moverRefusesUptoRow : OpenClaim := { program := "ytgjbhkbjdihddaadoor", sum := "c2dfe99414028555086a63ef3a30960d444d6ba985c66339c11877eb6ca9ac1c", func := "estuary/estuarylaw21.MoverRefuses", spec := "moverRefuses", inPlace := ["internal/reflectlite.TypeOf", "slices.overlaps[estuary/api.Place]", "internal/reflectlite.ValueOf", "(internal/reflectlite.Value).Type", "(internal/reflectlite.Value).IsNil", "(internal/reflectlite.Value).Elem", "(internal/reflectlite.Value).Set"], unfollowed := true, recurses := true, named := ["errors.errorType"], apart := false, laid := [("errors.errorType", laid_errors_errorType)], narrowed := true }
def MoverRefusesUptoSaid : Prop := moverRefusesUptoRow.holds Tryd.pinned (OpenSpec.upto moverRefusesSpec)

end Rows
end Go.Proofs.YtgjbhkbjdihddaaDoor
