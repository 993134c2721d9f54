/-
  DERIVED. GIVEN WITH THE SEED: THE CARDS: each row of YtnblecdpkbempaaGreatDoorRows.lean that lists a variable, with what it lists TIED to the program's text (the seventh form; the later family's looks); each row that meets fmt, with fmt's text TOLD by the authors' own Lean function (tested against real Go, not proved from fmt's source: count such statements apart). THE CARD IS WHAT COUNTS. Prove the row's statement (the work); the ties are given (YtnblecdpkbempaaGreatDoorTie.lean); close each card by the builder's one call (the guide's Derived/Test/ToyasCard.lean, 'card_holds'). Laid BY PROGRAM, IN A SANDBOX (cutbox-door.mjs). By AI agents, Wed Nov 11 2026. No macro, syntax, notation, axiom, sorry.
-/
import Derived.Test.YtnblecdpkbempaaGreatDoorRows
import GoSem.ClaimSeven
namespace Go.Proofs.YtnblecdpkbempaaGreatDoor
namespace Rows

/-- THE TIED CARD OF 'estuarylaw16.ImageBack'. -/
def imageBackCard : Claim7 := { stood := { row := imageBackRow, standIns := [], harness := (true, "3c2f8c5c33716193f2d7d9417e077a07db3328e947fef9b75fc33b74d20979c5"), looks := true }, kinds := [], alts := [], laidByText := true, laidKinds := [.handle], laidTests := true, laidLooks := .later }
def ImageBackCardSaid : Prop := Claim7.holds Tryz.pinned (.plain (OpenSpec.ofChange imageBackSpec)) imageBackCard

/-- THE TIED CARD OF 'estuarylaw16.ImageEmpty'. -/
def imageEmptyCard : Claim7 := { stood := { row := imageEmptyRow, standIns := [], harness := (true, "3c2f8c5c33716193f2d7d9417e077a07db3328e947fef9b75fc33b74d20979c5"), looks := true }, kinds := [], alts := [], laidByText := true, laidKinds := [.handle], laidTests := true, laidLooks := .later }
def ImageEmptyCardSaid : Prop := Claim7.holds Tryz.pinned (.plain (OpenSpec.ofChange imageEmptySpec)) imageEmptyCard

/-- THE TIED CARD OF 'estuarylaw7.LetterBack'. -/
def letterBackCard : Claim7 := { stood := { row := letterBackRow, standIns := [], harness := (true, "3c2f8c5c33716193f2d7d9417e077a07db3328e947fef9b75fc33b74d20979c5"), looks := true }, kinds := [], alts := [], laidByText := true, laidKinds := [.handle], laidTests := true, laidLooks := .later }
def LetterBackCardSaid : Prop := Claim7.holds Tryz.pinned (.plain (OpenSpec.ofChange letterBackSpec)) letterBackCard

/-- THE TIED CARD OF 'estuarylaw7.LetterKinds'. -/
def letterKindsCard : Claim7 := { stood := { row := letterKindsRow, standIns := [], harness := (true, "3c2f8c5c33716193f2d7d9417e077a07db3328e947fef9b75fc33b74d20979c5"), looks := true }, kinds := [], alts := [], laidByText := true, laidKinds := [.handle], laidTests := true, laidLooks := .later }
def LetterKindsCardSaid : Prop := Claim7.holds Tryz.pinned (.plain (OpenSpec.ofChange letterKindsSpec)) letterKindsCard

/-- THE TIED CARD OF 'estuarylaw7.LetterLimits'. -/
def letterLimitsCard : Claim7 := { stood := { row := letterLimitsRow, standIns := [], harness := (true, "3c2f8c5c33716193f2d7d9417e077a07db3328e947fef9b75fc33b74d20979c5"), looks := true }, kinds := [], alts := [], laidByText := true, laidKinds := [.handle], laidTests := true, laidLooks := .later }
def LetterLimitsCardSaid : Prop := Claim7.holds Tryz.pinned (.plain (OpenSpec.ofChange letterLimitsSpec)) letterLimitsCard

/-- THE TIED CARD OF 'estuarylaw8.BagFull'. -/
def bagFullCard : Claim7 := { stood := { row := bagFullRow, standIns := [], harness := (true, "3c2f8c5c33716193f2d7d9417e077a07db3328e947fef9b75fc33b74d20979c5"), looks := true }, kinds := [], alts := [], laidByText := true, laidKinds := [.handle], laidTests := true, laidLooks := .later }
def BagFullCardSaid : Prop := Claim7.holds Tryz.pinned (.plain (OpenSpec.ofChange bagFullSpec)) bagFullCard

/-- THE TIED CARD OF 'estuarylaw8.BagAny'. -/
def bagAnyCard : Claim7 := { stood := { row := bagAnyRow, standIns := [], harness := (true, "3c2f8c5c33716193f2d7d9417e077a07db3328e947fef9b75fc33b74d20979c5"), looks := true }, kinds := [], alts := [], laidByText := true, laidKinds := [.handle], laidTests := true, laidLooks := .later }
def BagAnyCardSaid : Prop := Claim7.holds Tryz.pinned (.plain (OpenSpec.ofChange bagAnySpec)) bagAnyCard

/-- THE SECOND FORM's CARD OF 'estuarylaw16.ImageBack'. -/
def imageBackUptoCard : Claim7 := { stood := { row := imageBackUptoRow, standIns := [], harness := (true, "3c2f8c5c33716193f2d7d9417e077a07db3328e947fef9b75fc33b74d20979c5"), looks := true }, kinds := [], alts := [], laidByText := true, laidKinds := [.handle], laidTests := true, laidLooks := .later }
def ImageBackUptoCardSaid : Prop := Claim7.holds Tryz.pinned (.plain (OpenSpec.upto imageBackSpec)) imageBackUptoCard

/-- THE SECOND FORM's CARD OF 'estuarylaw16.ImageEmpty'. -/
def imageEmptyUptoCard : Claim7 := { stood := { row := imageEmptyUptoRow, standIns := [], harness := (true, "3c2f8c5c33716193f2d7d9417e077a07db3328e947fef9b75fc33b74d20979c5"), looks := true }, kinds := [], alts := [], laidByText := true, laidKinds := [.handle], laidTests := true, laidLooks := .later }
def ImageEmptyUptoCardSaid : Prop := Claim7.holds Tryz.pinned (.plain (OpenSpec.upto imageEmptySpec)) imageEmptyUptoCard

/-- THE SECOND FORM's CARD OF 'estuarylaw7.LetterBack'. -/
def letterBackUptoCard : Claim7 := { stood := { row := letterBackUptoRow, standIns := [], harness := (true, "3c2f8c5c33716193f2d7d9417e077a07db3328e947fef9b75fc33b74d20979c5"), looks := true }, kinds := [], alts := [], laidByText := true, laidKinds := [.handle], laidTests := true, laidLooks := .later }
def LetterBackUptoCardSaid : Prop := Claim7.holds Tryz.pinned (.plain (OpenSpec.upto letterBackSpec)) letterBackUptoCard

/-- THE SECOND FORM's CARD OF 'estuarylaw7.LetterKinds'. -/
def letterKindsUptoCard : Claim7 := { stood := { row := letterKindsUptoRow, standIns := [], harness := (true, "3c2f8c5c33716193f2d7d9417e077a07db3328e947fef9b75fc33b74d20979c5"), looks := true }, kinds := [], alts := [], laidByText := true, laidKinds := [.handle], laidTests := true, laidLooks := .later }
def LetterKindsUptoCardSaid : Prop := Claim7.holds Tryz.pinned (.plain (OpenSpec.upto letterKindsSpec)) letterKindsUptoCard

/-- THE SECOND FORM's CARD OF 'estuarylaw7.LetterLimits'. -/
def letterLimitsUptoCard : Claim7 := { stood := { row := letterLimitsUptoRow, standIns := [], harness := (true, "3c2f8c5c33716193f2d7d9417e077a07db3328e947fef9b75fc33b74d20979c5"), looks := true }, kinds := [], alts := [], laidByText := true, laidKinds := [.handle], laidTests := true, laidLooks := .later }
def LetterLimitsUptoCardSaid : Prop := Claim7.holds Tryz.pinned (.plain (OpenSpec.upto letterLimitsSpec)) letterLimitsUptoCard

/-- THE SECOND FORM's CARD OF 'estuarylaw8.BagFull'. -/
def bagFullUptoCard : Claim7 := { stood := { row := bagFullUptoRow, standIns := [], harness := (true, "3c2f8c5c33716193f2d7d9417e077a07db3328e947fef9b75fc33b74d20979c5"), looks := true }, kinds := [], alts := [], laidByText := true, laidKinds := [.handle], laidTests := true, laidLooks := .later }
def BagFullUptoCardSaid : Prop := Claim7.holds Tryz.pinned (.plain (OpenSpec.upto bagFullSpec)) bagFullUptoCard

/-- THE SECOND FORM's CARD OF 'estuarylaw8.BagAny'. -/
def bagAnyUptoCard : Claim7 := { stood := { row := bagAnyUptoRow, standIns := [], harness := (true, "3c2f8c5c33716193f2d7d9417e077a07db3328e947fef9b75fc33b74d20979c5"), looks := true }, kinds := [], alts := [], laidByText := true, laidKinds := [.handle], laidTests := true, laidLooks := .later }
def BagAnyUptoCardSaid : Prop := Claim7.holds Tryz.pinned (.plain (OpenSpec.upto bagAnySpec)) bagAnyUptoCard
end Rows
end Go.Proofs.YtnblecdpkbempaaGreatDoor
