/-
  DERIVED. GIVEN WITH THE SEED: THE CARDS: each row of YthcbffejjkmmfaaDoorRows.lean that lists a variable, with what it lists TIED to the program's text (the seventh form; the later family's looks); each row that meets fmt, with fmt's text TOLD by the authors' own Lean function (tested against real Go, not proved from fmt's source: count such statements apart). THE CARD IS WHAT COUNTS. Prove the row's statement (the work); the ties are given (YthcbffejjkmmfaaDoorTie.lean); close each card by the builder's one call (the guide's Derived/Test/ToyasCard.lean, 'card_holds'). Laid BY PROGRAM, IN A SANDBOX (cutbox-door.mjs). By AI agents, Wed Nov 11 2026. No macro, syntax, notation, axiom, sorry.
-/
import Derived.Test.YthcbffejjkmmfaaDoorRows
import GoSem.ClaimSeven
namespace Go.Proofs.YthcbffejjkmmfaaDoor
namespace Rows

/-- THE TIED CARD OF 'estuarylaw9.DiskPlays'. -/
def diskPlaysCard : Claim7 := { stood := { row := diskPlaysRow, standIns := [], harness := (true, "be44bab77f91e34a5008cf255269a8bff9f9f0f2372668a471690ba4ce5c4340"), looks := true }, kinds := [], alts := [], laidByText := true, laidKinds := [.handle], laidTests := true, laidLooks := .later }
def DiskPlaysCardSaid : Prop := Claim7.holds Tryd.pinned (.plain (OpenSpec.ofChange diskPlaysSpec)) diskPlaysCard

/-- THE TIED CARD OF 'estuarylaw9.DiskSafe'. -/
def diskSafeCard : Claim7 := { stood := { row := diskSafeRow, standIns := [], harness := (true, "be44bab77f91e34a5008cf255269a8bff9f9f0f2372668a471690ba4ce5c4340"), looks := true }, kinds := [], alts := [], laidByText := true, laidKinds := [.handle], laidTests := true, laidLooks := .later }
def DiskSafeCardSaid : Prop := Claim7.holds Tryd.pinned (.plain (OpenSpec.ofChange diskSafeSpec)) diskSafeCard

/-- THE TIED CARD OF 'estuarylaw11.CellTells'. -/
def cellTellsCard : Claim7 := { stood := { row := cellTellsRow, standIns := [], harness := (true, "be44bab77f91e34a5008cf255269a8bff9f9f0f2372668a471690ba4ce5c4340"), looks := true }, kinds := [], alts := [], laidByText := true, laidKinds := [.handle], laidTests := true, laidLooks := .later }
def CellTellsCardSaid : Prop := Claim7.holds Tryd.pinned (.plain (OpenSpec.ofChange cellTellsSpec)) cellTellsCard

/-- THE TIED CARD OF 'estuarylaw11.CellVersions'. -/
def cellVersionsCard : Claim7 := { stood := { row := cellVersionsRow, standIns := [], harness := (true, "be44bab77f91e34a5008cf255269a8bff9f9f0f2372668a471690ba4ce5c4340"), looks := true }, kinds := [], alts := [], laidByText := true, laidKinds := [.handle], laidTests := true, laidLooks := .later }
def CellVersionsCardSaid : Prop := Claim7.holds Tryd.pinned (.plain (OpenSpec.ofChange cellVersionsSpec)) cellVersionsCard

/-- THE TIED CARD OF 'estuarylaw11.CellSpent'. -/
def cellSpentCard : Claim7 := { stood := { row := cellSpentRow, standIns := [], harness := (true, "be44bab77f91e34a5008cf255269a8bff9f9f0f2372668a471690ba4ce5c4340"), looks := true }, kinds := [], alts := [], laidByText := true, laidKinds := [.handle], laidTests := true, laidLooks := .later }
def CellSpentCardSaid : Prop := Claim7.holds Tryd.pinned (.plain (OpenSpec.ofChange cellSpentSpec)) cellSpentCard

/-- THE TIED CARD OF 'estuarylaw9.DiskFull'. -/
def diskFullCard : Claim7 := { stood := { row := diskFullRow, standIns := [], harness := (true, "be44bab77f91e34a5008cf255269a8bff9f9f0f2372668a471690ba4ce5c4340"), looks := true }, kinds := [], alts := [], laidByText := true, laidKinds := [.handle], laidTests := true, laidLooks := .later }
def DiskFullCardSaid : Prop := Claim7.holds Tryd.pinned (.plain (OpenSpec.ofChange diskFullSpec)) diskFullCard

/-- THE SECOND FORM's CARD OF 'estuarylaw9.DiskPlays'. -/
def diskPlaysUptoCard : Claim7 := { stood := { row := diskPlaysUptoRow, standIns := [], harness := (true, "be44bab77f91e34a5008cf255269a8bff9f9f0f2372668a471690ba4ce5c4340"), looks := true }, kinds := [], alts := [], laidByText := true, laidKinds := [.handle], laidTests := true, laidLooks := .later }
def DiskPlaysUptoCardSaid : Prop := Claim7.holds Tryd.pinned (.plain (OpenSpec.upto diskPlaysSpec)) diskPlaysUptoCard

/-- THE SECOND FORM's CARD OF 'estuarylaw9.DiskSafe'. -/
def diskSafeUptoCard : Claim7 := { stood := { row := diskSafeUptoRow, standIns := [], harness := (true, "be44bab77f91e34a5008cf255269a8bff9f9f0f2372668a471690ba4ce5c4340"), looks := true }, kinds := [], alts := [], laidByText := true, laidKinds := [.handle], laidTests := true, laidLooks := .later }
def DiskSafeUptoCardSaid : Prop := Claim7.holds Tryd.pinned (.plain (OpenSpec.upto diskSafeSpec)) diskSafeUptoCard

/-- THE SECOND FORM's CARD OF 'estuarylaw11.CellTells'. -/
def cellTellsUptoCard : Claim7 := { stood := { row := cellTellsUptoRow, standIns := [], harness := (true, "be44bab77f91e34a5008cf255269a8bff9f9f0f2372668a471690ba4ce5c4340"), looks := true }, kinds := [], alts := [], laidByText := true, laidKinds := [.handle], laidTests := true, laidLooks := .later }
def CellTellsUptoCardSaid : Prop := Claim7.holds Tryd.pinned (.plain (OpenSpec.upto cellTellsSpec)) cellTellsUptoCard

/-- THE SECOND FORM's CARD OF 'estuarylaw11.CellVersions'. -/
def cellVersionsUptoCard : Claim7 := { stood := { row := cellVersionsUptoRow, standIns := [], harness := (true, "be44bab77f91e34a5008cf255269a8bff9f9f0f2372668a471690ba4ce5c4340"), looks := true }, kinds := [], alts := [], laidByText := true, laidKinds := [.handle], laidTests := true, laidLooks := .later }
def CellVersionsUptoCardSaid : Prop := Claim7.holds Tryd.pinned (.plain (OpenSpec.upto cellVersionsSpec)) cellVersionsUptoCard

/-- THE SECOND FORM's CARD OF 'estuarylaw11.CellSpent'. -/
def cellSpentUptoCard : Claim7 := { stood := { row := cellSpentUptoRow, standIns := [], harness := (true, "be44bab77f91e34a5008cf255269a8bff9f9f0f2372668a471690ba4ce5c4340"), looks := true }, kinds := [], alts := [], laidByText := true, laidKinds := [.handle], laidTests := true, laidLooks := .later }
def CellSpentUptoCardSaid : Prop := Claim7.holds Tryd.pinned (.plain (OpenSpec.upto cellSpentSpec)) cellSpentUptoCard

/-- THE SECOND FORM's CARD OF 'estuarylaw9.DiskFull'. -/
def diskFullUptoCard : Claim7 := { stood := { row := diskFullUptoRow, standIns := [], harness := (true, "be44bab77f91e34a5008cf255269a8bff9f9f0f2372668a471690ba4ce5c4340"), looks := true }, kinds := [], alts := [], laidByText := true, laidKinds := [.handle], laidTests := true, laidLooks := .later }
def DiskFullUptoCardSaid : Prop := Claim7.holds Tryd.pinned (.plain (OpenSpec.upto diskFullSpec)) diskFullUptoCard
end Rows
end Go.Proofs.YthcbffejjkmmfaaDoor
