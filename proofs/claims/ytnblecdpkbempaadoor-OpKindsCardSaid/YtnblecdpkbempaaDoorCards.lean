/-
  DERIVED. GIVEN WITH THE SEED: THE CARDS: each row of YtnblecdpkbempaaDoorRows.lean that lists a variable, with what it lists TIED to the program's text (the seventh form; the later family's looks); each row that meets fmt, with fmt's text TOLD by the authors' own Lean function (tested against real Go, not proved from fmt's source: count such statements apart). THE CARD IS WHAT COUNTS. Prove the row's statement (the work); the ties are given (YtnblecdpkbempaaDoorTie.lean); close each card by the builder's one call (the guide's Derived/Test/ToyasCard.lean, 'card_holds'). Laid BY PROGRAM, IN A SANDBOX (cutbox-door.mjs). By AI agents, Wed Nov 11 2026. No macro, syntax, notation, axiom, sorry.
-/
import Derived.Test.YtnblecdpkbempaaDoorRows
import GoSem.ClaimSeven
namespace Go.Proofs.YtnblecdpkbempaaDoor
namespace Rows

/-- THE TIED CARD OF 'estuarylaw6.OpKinds'. -/
def opKindsCard : Claim7 := { stood := { row := opKindsRow, standIns := [], harness := (true, "6b4f202004d2df02297a9dc6d58ca5ebef59b173fa025cc27a87b7e5cca2b4a6"), looks := true }, kinds := [], alts := [], laidByText := true, laidKinds := [.handle], laidTests := true, laidLooks := .later }
def OpKindsCardSaid : Prop := Claim7.holds Tryd.pinned (.plain (OpenSpec.ofChange opKindsSpec)) opKindsCard

/-- THE TIED CARD OF 'estuarylaw6.OpBatches'. -/
def opBatchesCard : Claim7 := { stood := { row := opBatchesRow, standIns := [], harness := (true, "6b4f202004d2df02297a9dc6d58ca5ebef59b173fa025cc27a87b7e5cca2b4a6"), looks := true }, kinds := [], alts := [], laidByText := true, laidKinds := [.handle], laidTests := true, laidLooks := .later }
def OpBatchesCardSaid : Prop := Claim7.holds Tryd.pinned (.plain (OpenSpec.ofChange opBatchesSpec)) opBatchesCard

/-- THE SECOND FORM's CARD OF 'estuarylaw6.OpKinds'. -/
def opKindsUptoCard : Claim7 := { stood := { row := opKindsUptoRow, standIns := [], harness := (true, "6b4f202004d2df02297a9dc6d58ca5ebef59b173fa025cc27a87b7e5cca2b4a6"), looks := true }, kinds := [], alts := [], laidByText := true, laidKinds := [.handle], laidTests := true, laidLooks := .later }
def OpKindsUptoCardSaid : Prop := Claim7.holds Tryd.pinned (.plain (OpenSpec.upto opKindsSpec)) opKindsUptoCard

/-- THE SECOND FORM's CARD OF 'estuarylaw6.OpBatches'. -/
def opBatchesUptoCard : Claim7 := { stood := { row := opBatchesUptoRow, standIns := [], harness := (true, "6b4f202004d2df02297a9dc6d58ca5ebef59b173fa025cc27a87b7e5cca2b4a6"), looks := true }, kinds := [], alts := [], laidByText := true, laidKinds := [.handle], laidTests := true, laidLooks := .later }
def OpBatchesUptoCardSaid : Prop := Claim7.holds Tryd.pinned (.plain (OpenSpec.upto opBatchesSpec)) opBatchesUptoCard
end Rows
end Go.Proofs.YtnblecdpkbempaaDoor
