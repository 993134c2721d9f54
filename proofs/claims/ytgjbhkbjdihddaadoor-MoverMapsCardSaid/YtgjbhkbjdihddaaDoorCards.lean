/-
  DERIVED. GIVEN WITH THE SEED: THE CARDS: each row of YtgjbhkbjdihddaaDoorRows.lean that lists a variable, with what it lists TIED to the program's text (the seventh form; the later family's looks); each row that meets fmt, with fmt's text TOLD by the authors' own Lean function (tested against real Go, not proved from fmt's source: count such statements apart). THE CARD IS WHAT COUNTS. Prove the row's statement (the work); the ties are given (YtgjbhkbjdihddaaDoorTie.lean); close each card by the builder's one call (the guide's Derived/Test/ToyasCard.lean, 'card_holds'). Laid BY PROGRAM, IN A SANDBOX (cutbox-door.mjs). By AI agents, Wed Nov 11 2026. No macro, syntax, notation, axiom, sorry.
-/
import Derived.Test.YtgjbhkbjdihddaaDoorRows
import GoSem.ClaimSeven
namespace Go.Proofs.YtgjbhkbjdihddaaDoor
namespace Rows

/-- THE TIED CARD OF 'estuarylaw21.MoverEnds'. -/
def moverEndsCard : Claim7 := { stood := { row := moverEndsRow, standIns := [], harness := (true, "4a3ad06c2cb14c59d5d365184e5ca684a8980f60809cc4bed4e3d87480a9523a"), looks := true }, kinds := [], alts := [], laidByText := true, laidKinds := [.handle], laidTests := true, laidLooks := .later }
def MoverEndsCardSaid : Prop := Claim7.holds Tryd.pinned (.plain (OpenSpec.ofChange moverEndsSpec)) moverEndsCard

/-- THE TIED CARD OF 'estuarylaw21.MoverAgain'. -/
def moverAgainCard : Claim7 := { stood := { row := moverAgainRow, standIns := [], harness := (true, "4a3ad06c2cb14c59d5d365184e5ca684a8980f60809cc4bed4e3d87480a9523a"), looks := true }, kinds := [], alts := [], laidByText := true, laidKinds := [.handle], laidTests := true, laidLooks := .later }
def MoverAgainCardSaid : Prop := Claim7.holds Tryd.pinned (.plain (OpenSpec.ofChange moverAgainSpec)) moverAgainCard

/-- THE TIED CARD OF 'estuarylaw21.MoverMaps'. -/
def moverMapsCard : Claim7 := { stood := { row := moverMapsRow, standIns := [], harness := (true, "4a3ad06c2cb14c59d5d365184e5ca684a8980f60809cc4bed4e3d87480a9523a"), looks := true }, kinds := [], alts := [], laidByText := true, laidKinds := [.handle], laidTests := true, laidLooks := .later }
def MoverMapsCardSaid : Prop := Claim7.holds Tryd.pinned (.plain (OpenSpec.ofChange moverMapsSpec)) moverMapsCard

/-- THE TIED CARD OF 'estuarylaw21.MoverAborts'. -/
def moverAbortsCard : Claim7 := { stood := { row := moverAbortsRow, standIns := [], harness := (true, "4a3ad06c2cb14c59d5d365184e5ca684a8980f60809cc4bed4e3d87480a9523a"), looks := true }, kinds := [], alts := [], laidByText := true, laidKinds := [.handle], laidTests := true, laidLooks := .later }
def MoverAbortsCardSaid : Prop := Claim7.holds Tryd.pinned (.plain (OpenSpec.ofChange moverAbortsSpec)) moverAbortsCard

/-- THE TIED CARD OF 'estuarylaw21.MoverRefuses'. -/
def moverRefusesCard : Claim7 := { stood := { row := moverRefusesRow, standIns := [], harness := (true, "4a3ad06c2cb14c59d5d365184e5ca684a8980f60809cc4bed4e3d87480a9523a"), looks := true }, kinds := [], alts := [], laidByText := true, laidKinds := [.handle], laidTests := true, laidLooks := .later }
def MoverRefusesCardSaid : Prop := Claim7.holds Tryd.pinned (.plain (OpenSpec.ofChange moverRefusesSpec)) moverRefusesCard

/-- THE SECOND FORM's CARD OF 'estuarylaw21.MoverEnds'. -/
def moverEndsUptoCard : Claim7 := { stood := { row := moverEndsUptoRow, standIns := [], harness := (true, "4a3ad06c2cb14c59d5d365184e5ca684a8980f60809cc4bed4e3d87480a9523a"), looks := true }, kinds := [], alts := [], laidByText := true, laidKinds := [.handle], laidTests := true, laidLooks := .later }
def MoverEndsUptoCardSaid : Prop := Claim7.holds Tryd.pinned (.plain (OpenSpec.upto moverEndsSpec)) moverEndsUptoCard

/-- THE SECOND FORM's CARD OF 'estuarylaw21.MoverAgain'. -/
def moverAgainUptoCard : Claim7 := { stood := { row := moverAgainUptoRow, standIns := [], harness := (true, "4a3ad06c2cb14c59d5d365184e5ca684a8980f60809cc4bed4e3d87480a9523a"), looks := true }, kinds := [], alts := [], laidByText := true, laidKinds := [.handle], laidTests := true, laidLooks := .later }
def MoverAgainUptoCardSaid : Prop := Claim7.holds Tryd.pinned (.plain (OpenSpec.upto moverAgainSpec)) moverAgainUptoCard

/-- THE SECOND FORM's CARD OF 'estuarylaw21.MoverMaps'. -/
def moverMapsUptoCard : Claim7 := { stood := { row := moverMapsUptoRow, standIns := [], harness := (true, "4a3ad06c2cb14c59d5d365184e5ca684a8980f60809cc4bed4e3d87480a9523a"), looks := true }, kinds := [], alts := [], laidByText := true, laidKinds := [.handle], laidTests := true, laidLooks := .later }
def MoverMapsUptoCardSaid : Prop := Claim7.holds Tryd.pinned (.plain (OpenSpec.upto moverMapsSpec)) moverMapsUptoCard

/-- THE SECOND FORM's CARD OF 'estuarylaw21.MoverAborts'. -/
def moverAbortsUptoCard : Claim7 := { stood := { row := moverAbortsUptoRow, standIns := [], harness := (true, "4a3ad06c2cb14c59d5d365184e5ca684a8980f60809cc4bed4e3d87480a9523a"), looks := true }, kinds := [], alts := [], laidByText := true, laidKinds := [.handle], laidTests := true, laidLooks := .later }
def MoverAbortsUptoCardSaid : Prop := Claim7.holds Tryd.pinned (.plain (OpenSpec.upto moverAbortsSpec)) moverAbortsUptoCard

/-- THE SECOND FORM's CARD OF 'estuarylaw21.MoverRefuses'. -/
def moverRefusesUptoCard : Claim7 := { stood := { row := moverRefusesUptoRow, standIns := [], harness := (true, "4a3ad06c2cb14c59d5d365184e5ca684a8980f60809cc4bed4e3d87480a9523a"), looks := true }, kinds := [], alts := [], laidByText := true, laidKinds := [.handle], laidTests := true, laidLooks := .later }
def MoverRefusesUptoCardSaid : Prop := Claim7.holds Tryd.pinned (.plain (OpenSpec.upto moverRefusesSpec)) moverRefusesUptoCard
end Rows
end Go.Proofs.YtgjbhkbjdihddaaDoor
