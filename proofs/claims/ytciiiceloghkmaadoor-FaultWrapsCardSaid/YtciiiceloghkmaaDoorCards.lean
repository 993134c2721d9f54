/-
  DERIVED. GIVEN WITH THE SEED: THE CARDS: each row of YtciiiceloghkmaaDoorRows.lean that lists a variable, with what it lists TIED to the program's text (the seventh form; the later family's looks); each row that meets fmt, with fmt's text TOLD by the authors' own Lean function (tested against real Go, not proved from fmt's source: count such statements apart). THE CARD IS WHAT COUNTS. Prove the row's statement (the work); the ties are given (YtciiiceloghkmaaDoorTie.lean); close each card by the builder's one call (the guide's Derived/Test/ToyasCard.lean, 'card_holds'). Laid BY PROGRAM, IN A SANDBOX (cutbox-door.mjs). By AI agents, Wed Nov 11 2026. No macro, syntax, notation, axiom, sorry.
-/
import Derived.Test.YtciiiceloghkmaaDoorRows
import GoSem.ClaimSeven
namespace Go.Proofs.YtciiiceloghkmaaDoor
namespace Rows

/-- THE TIED CARD OF 'estuarylaw4.PackRows'. -/
def packRowsCard : Claim7 := { stood := { row := packRowsRow, standIns := [], harness := (true, "5bfc0a985b06d8dfdbcf83ba733eb78330ee9c5030b641407aa4874bb45596ce"), looks := true }, kinds := [], alts := [], laidByText := true, laidKinds := [.handle], laidTests := true, laidLooks := .later }
def PackRowsCardSaid : Prop := Claim7.holds Tryd.pinned (.plain (OpenSpec.ofChange packRowsSpec)) packRowsCard

/-- THE TIED CARD OF 'estuarylaw4.PackBack'. -/
def packBackCard : Claim7 := { stood := { row := packBackRow, standIns := [], harness := (true, "5bfc0a985b06d8dfdbcf83ba733eb78330ee9c5030b641407aa4874bb45596ce"), looks := true }, kinds := [], alts := [], laidByText := true, laidKinds := [.handle], laidTests := true, laidLooks := .later }
def PackBackCardSaid : Prop := Claim7.holds Tryd.pinned (.plain (OpenSpec.ofChange packBackSpec)) packBackCard

/-- THE TIED CARD OF 'estuarylaw5.FrameCuts'. -/
def frameCutsCard : Claim7 := { stood := { row := frameCutsRow, standIns := [], harness := (true, "5bfc0a985b06d8dfdbcf83ba733eb78330ee9c5030b641407aa4874bb45596ce"), looks := true }, kinds := [], alts := [], laidByText := true, laidKinds := [.handle], laidTests := true, laidLooks := .later }
def FrameCutsCardSaid : Prop := Claim7.holds Tryd.pinned (.plain (OpenSpec.ofChange frameCutsSpec)) frameCutsCard

/-- THE TIED CARD OF 'estuarylaw5.FrameAfter'. -/
def frameAfterCard : Claim7 := { stood := { row := frameAfterRow, standIns := [], harness := (true, "5bfc0a985b06d8dfdbcf83ba733eb78330ee9c5030b641407aa4874bb45596ce"), looks := true }, kinds := [], alts := [], laidByText := true, laidKinds := [.handle], laidTests := true, laidLooks := .later }
def FrameAfterCardSaid : Prop := Claim7.holds Tryd.pinned (.plain (OpenSpec.ofChange frameAfterSpec)) frameAfterCard

/-- THE TIED CARD OF 'estuarylaw10.JournalTorn'. -/
def journalTornCard : Claim7 := { stood := { row := journalTornRow, standIns := [], harness := (true, "5bfc0a985b06d8dfdbcf83ba733eb78330ee9c5030b641407aa4874bb45596ce"), looks := true }, kinds := [], alts := [], laidByText := true, laidKinds := [.handle], laidTests := true, laidLooks := .later }
def JournalTornCardSaid : Prop := Claim7.holds Tryd.pinned (.plain (OpenSpec.ofChange journalTornSpec)) journalTornCard

/-- THE TIED CARD OF 'estuarylaw10.JournalTwice'. -/
def journalTwiceCard : Claim7 := { stood := { row := journalTwiceRow, standIns := [], harness := (true, "5bfc0a985b06d8dfdbcf83ba733eb78330ee9c5030b641407aa4874bb45596ce"), looks := true }, kinds := [], alts := [], laidByText := true, laidKinds := [.handle], laidTests := true, laidLooks := .later }
def JournalTwiceCardSaid : Prop := Claim7.holds Tryd.pinned (.plain (OpenSpec.ofChange journalTwiceSpec)) journalTwiceCard

/-- THE TIED CARD OF 'estuarylaw10.JournalPlays'. -/
def journalPlaysCard : Claim7 := { stood := { row := journalPlaysRow, standIns := [], harness := (true, "5bfc0a985b06d8dfdbcf83ba733eb78330ee9c5030b641407aa4874bb45596ce"), looks := true }, kinds := [], alts := [], laidByText := true, laidKinds := [.handle], laidTests := true, laidLooks := .later }
def JournalPlaysCardSaid : Prop := Claim7.holds Tryd.pinned (.plain (OpenSpec.ofChange journalPlaysSpec)) journalPlaysCard

/-- THE TIED CARD OF 'estuarylaw10.JournalTrims'. -/
def journalTrimsCard : Claim7 := { stood := { row := journalTrimsRow, standIns := [], harness := (true, "5bfc0a985b06d8dfdbcf83ba733eb78330ee9c5030b641407aa4874bb45596ce"), looks := true }, kinds := [], alts := [], laidByText := true, laidKinds := [.handle], laidTests := true, laidLooks := .later }
def JournalTrimsCardSaid : Prop := Claim7.holds Tryd.pinned (.plain (OpenSpec.ofChange journalTrimsSpec)) journalTrimsCard

/-- THE TIED CARD OF 'estuarylaw3.FaultWraps'. -/
def faultWrapsCard : Claim7 := { stood := { row := faultWrapsRow, standIns := [], harness := (true, "5bfc0a985b06d8dfdbcf83ba733eb78330ee9c5030b641407aa4874bb45596ce"), looks := true }, kinds := [], alts := [], laidByText := true, laidKinds := [.data, .data, .data, .handle], laidTests := true, laidLooks := .later }
def FaultWrapsCardSaid : Prop := Claim7.holds Tryd.pinned (.plain (OpenSpec.ofChange faultWrapsSpec)) faultWrapsCard

/-- THE TIED CARD OF 'estuarylaw3.FaultOnce'. -/
def faultOnceCard : Claim7 := { stood := { row := faultOnceRow, standIns := [], harness := (true, "5bfc0a985b06d8dfdbcf83ba733eb78330ee9c5030b641407aa4874bb45596ce"), looks := true }, kinds := [], alts := [], laidByText := true, laidKinds := [.handle], laidTests := true, laidLooks := .later }
def FaultOnceCardSaid : Prop := Claim7.holds Tryd.pinned (.plain (OpenSpec.ofChange faultOnceSpec)) faultOnceCard

/-- THE SECOND FORM's CARD OF 'estuarylaw4.PackRows'. -/
def packRowsUptoCard : Claim7 := { stood := { row := packRowsUptoRow, standIns := [], harness := (true, "5bfc0a985b06d8dfdbcf83ba733eb78330ee9c5030b641407aa4874bb45596ce"), looks := true }, kinds := [], alts := [], laidByText := true, laidKinds := [.handle], laidTests := true, laidLooks := .later }
def PackRowsUptoCardSaid : Prop := Claim7.holds Tryd.pinned (.plain (OpenSpec.upto packRowsSpec)) packRowsUptoCard

/-- THE SECOND FORM's CARD OF 'estuarylaw4.PackBack'. -/
def packBackUptoCard : Claim7 := { stood := { row := packBackUptoRow, standIns := [], harness := (true, "5bfc0a985b06d8dfdbcf83ba733eb78330ee9c5030b641407aa4874bb45596ce"), looks := true }, kinds := [], alts := [], laidByText := true, laidKinds := [.handle], laidTests := true, laidLooks := .later }
def PackBackUptoCardSaid : Prop := Claim7.holds Tryd.pinned (.plain (OpenSpec.upto packBackSpec)) packBackUptoCard

/-- THE SECOND FORM's CARD OF 'estuarylaw5.FrameCuts'. -/
def frameCutsUptoCard : Claim7 := { stood := { row := frameCutsUptoRow, standIns := [], harness := (true, "5bfc0a985b06d8dfdbcf83ba733eb78330ee9c5030b641407aa4874bb45596ce"), looks := true }, kinds := [], alts := [], laidByText := true, laidKinds := [.handle], laidTests := true, laidLooks := .later }
def FrameCutsUptoCardSaid : Prop := Claim7.holds Tryd.pinned (.plain (OpenSpec.upto frameCutsSpec)) frameCutsUptoCard

/-- THE SECOND FORM's CARD OF 'estuarylaw5.FrameAfter'. -/
def frameAfterUptoCard : Claim7 := { stood := { row := frameAfterUptoRow, standIns := [], harness := (true, "5bfc0a985b06d8dfdbcf83ba733eb78330ee9c5030b641407aa4874bb45596ce"), looks := true }, kinds := [], alts := [], laidByText := true, laidKinds := [.handle], laidTests := true, laidLooks := .later }
def FrameAfterUptoCardSaid : Prop := Claim7.holds Tryd.pinned (.plain (OpenSpec.upto frameAfterSpec)) frameAfterUptoCard

/-- THE SECOND FORM's CARD OF 'estuarylaw10.JournalTorn'. -/
def journalTornUptoCard : Claim7 := { stood := { row := journalTornUptoRow, standIns := [], harness := (true, "5bfc0a985b06d8dfdbcf83ba733eb78330ee9c5030b641407aa4874bb45596ce"), looks := true }, kinds := [], alts := [], laidByText := true, laidKinds := [.handle], laidTests := true, laidLooks := .later }
def JournalTornUptoCardSaid : Prop := Claim7.holds Tryd.pinned (.plain (OpenSpec.upto journalTornSpec)) journalTornUptoCard

/-- THE SECOND FORM's CARD OF 'estuarylaw10.JournalTwice'. -/
def journalTwiceUptoCard : Claim7 := { stood := { row := journalTwiceUptoRow, standIns := [], harness := (true, "5bfc0a985b06d8dfdbcf83ba733eb78330ee9c5030b641407aa4874bb45596ce"), looks := true }, kinds := [], alts := [], laidByText := true, laidKinds := [.handle], laidTests := true, laidLooks := .later }
def JournalTwiceUptoCardSaid : Prop := Claim7.holds Tryd.pinned (.plain (OpenSpec.upto journalTwiceSpec)) journalTwiceUptoCard

/-- THE SECOND FORM's CARD OF 'estuarylaw10.JournalPlays'. -/
def journalPlaysUptoCard : Claim7 := { stood := { row := journalPlaysUptoRow, standIns := [], harness := (true, "5bfc0a985b06d8dfdbcf83ba733eb78330ee9c5030b641407aa4874bb45596ce"), looks := true }, kinds := [], alts := [], laidByText := true, laidKinds := [.handle], laidTests := true, laidLooks := .later }
def JournalPlaysUptoCardSaid : Prop := Claim7.holds Tryd.pinned (.plain (OpenSpec.upto journalPlaysSpec)) journalPlaysUptoCard

/-- THE SECOND FORM's CARD OF 'estuarylaw10.JournalTrims'. -/
def journalTrimsUptoCard : Claim7 := { stood := { row := journalTrimsUptoRow, standIns := [], harness := (true, "5bfc0a985b06d8dfdbcf83ba733eb78330ee9c5030b641407aa4874bb45596ce"), looks := true }, kinds := [], alts := [], laidByText := true, laidKinds := [.handle], laidTests := true, laidLooks := .later }
def JournalTrimsUptoCardSaid : Prop := Claim7.holds Tryd.pinned (.plain (OpenSpec.upto journalTrimsSpec)) journalTrimsUptoCard

/-- THE SECOND FORM's CARD OF 'estuarylaw3.FaultWraps'. -/
def faultWrapsUptoCard : Claim7 := { stood := { row := faultWrapsUptoRow, standIns := [], harness := (true, "5bfc0a985b06d8dfdbcf83ba733eb78330ee9c5030b641407aa4874bb45596ce"), looks := true }, kinds := [], alts := [], laidByText := true, laidKinds := [.data, .data, .data, .handle], laidTests := true, laidLooks := .later }
def FaultWrapsUptoCardSaid : Prop := Claim7.holds Tryd.pinned (.plain (OpenSpec.upto faultWrapsSpec)) faultWrapsUptoCard

/-- THE SECOND FORM's CARD OF 'estuarylaw3.FaultOnce'. -/
def faultOnceUptoCard : Claim7 := { stood := { row := faultOnceUptoRow, standIns := [], harness := (true, "5bfc0a985b06d8dfdbcf83ba733eb78330ee9c5030b641407aa4874bb45596ce"), looks := true }, kinds := [], alts := [], laidByText := true, laidKinds := [.handle], laidTests := true, laidLooks := .later }
def FaultOnceUptoCardSaid : Prop := Claim7.holds Tryd.pinned (.plain (OpenSpec.upto faultOnceSpec)) faultOnceUptoCard
end Rows
end Go.Proofs.YtciiiceloghkmaaDoor
