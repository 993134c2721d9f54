/-
  DERIVED. GIVEN WITH THE SEED: THE CARDS: each row of YthchmjdgepbjpaaDoorRows.lean that lists a variable, with what it lists TIED to the program's text (the seventh form; the later family's looks); each row that meets fmt, with fmt's text TOLD by the authors' own Lean function (tested against real Go, not proved from fmt's source: count such statements apart). THE CARD IS WHAT COUNTS. Prove the row's statement (the work); the ties are given (YthchmjdgepbjpaaDoorTie.lean); close each card by the builder's one call (the guide's Derived/Test/ToyasCard.lean, 'card_holds'). Laid BY PROGRAM, IN A SANDBOX (cutbox-door.mjs). By AI agents, Wed Nov 11 2026. No macro, syntax, notation, axiom, sorry.
-/
import Derived.Test.YthchmjdgepbjpaaDoorRows
import GoSem.ClaimSeven
namespace Go.Proofs.YthchmjdgepbjpaaDoor
namespace Rows

/-- THE TIED CARD OF 'estuarylaw3.FaultWraps'. -/
def faultWrapsCard : Claim7 := { stood := { row := faultWrapsRow, standIns := [], harness := (true, "bba3bbdd9cbe40e5eed67db296d13de882226b788af62dfaea0c88ee477f7838"), looks := true }, kinds := [], alts := [], laidByText := true, laidKinds := [.data, .data, .data, .handle], laidTests := true, laidLooks := .later }
def FaultWrapsCardSaid : Prop := Claim7.holds Tryd.pinned (.plain (OpenSpec.ofChange faultWrapsSpec)) faultWrapsCard

/-- THE TIED CARD OF 'estuarylaw3.FaultOnce'. -/
def faultOnceCard : Claim7 := { stood := { row := faultOnceRow, standIns := [], harness := (true, "bba3bbdd9cbe40e5eed67db296d13de882226b788af62dfaea0c88ee477f7838"), looks := true }, kinds := [], alts := [], laidByText := true, laidKinds := [.handle], laidTests := true, laidLooks := .later }
def FaultOnceCardSaid : Prop := Claim7.holds Tryd.pinned (.plain (OpenSpec.ofChange faultOnceSpec)) faultOnceCard

/-- THE SECOND FORM's CARD OF 'estuarylaw3.FaultWraps'. -/
def faultWrapsUptoCard : Claim7 := { stood := { row := faultWrapsUptoRow, standIns := [], harness := (true, "bba3bbdd9cbe40e5eed67db296d13de882226b788af62dfaea0c88ee477f7838"), looks := true }, kinds := [], alts := [], laidByText := true, laidKinds := [.data, .data, .data, .handle], laidTests := true, laidLooks := .later }
def FaultWrapsUptoCardSaid : Prop := Claim7.holds Tryd.pinned (.plain (OpenSpec.upto faultWrapsSpec)) faultWrapsUptoCard

/-- THE SECOND FORM's CARD OF 'estuarylaw3.FaultOnce'. -/
def faultOnceUptoCard : Claim7 := { stood := { row := faultOnceUptoRow, standIns := [], harness := (true, "bba3bbdd9cbe40e5eed67db296d13de882226b788af62dfaea0c88ee477f7838"), looks := true }, kinds := [], alts := [], laidByText := true, laidKinds := [.handle], laidTests := true, laidLooks := .later }
def FaultOnceUptoCardSaid : Prop := Claim7.holds Tryd.pinned (.plain (OpenSpec.upto faultOnceSpec)) faultOnceUptoCard
end Rows
end Go.Proofs.YthchmjdgepbjpaaDoor
