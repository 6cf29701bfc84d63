/-
  DERIVED. GIVEN WITH THE SEED: THE CARDS: each row of YtpfldhaaiglgdaaDoorRows.lean that lists a variable, with what it lists TIED to the program's text (the seventh form; the later family's looks); each row that meets fmt, with fmt's text TOLD by the authors' own Lean function (tested against real Go, not proved from fmt's source: count such statements apart). THE CARD IS WHAT COUNTS. Prove the row's statement (the work); the ties are given (YtpfldhaaiglgdaaDoorTie.lean); close each card by the builder's one call (the guide's Derived/Test/ToyasCard.lean, 'card_holds'). Laid BY PROGRAM, IN A SANDBOX (cutbox-door.mjs). By AI agents, Wed Nov 11 2026. No macro, syntax, notation, axiom, sorry.
-/
import Derived.Test.YtpfldhaaiglgdaaDoorRows
import GoSem.ClaimSeven
namespace Go.Proofs.YtpfldhaaiglgdaaDoor
namespace Rows

/-- THE TIED CARD OF 'hasselaw.ScribePrints'. -/
def scribePrintsCard : Claim7 := { stood := { row := scribePrintsRow, standIns := [], harness := (true, "2c705763b973a71d264b32eb6eb269e206b8917bcd493266fd903aa793d15a76"), looks := true }, kinds := [], alts := [], laidByText := true, laidKinds := [.data, .data, .data], laidTests := true, laidLooks := .later }
def ScribePrintsCardSaid : Prop := Claim7.holds Tryd.pinned (.plain (OpenSpec.ofChange scribePrintsSpec)) scribePrintsCard

/-- THE TIED CARD OF 'hasselaw.ScribeReads'. -/
def scribeReadsCard : Claim7 := { stood := { row := scribeReadsRow, standIns := [], harness := (true, "2c705763b973a71d264b32eb6eb269e206b8917bcd493266fd903aa793d15a76"), looks := true }, kinds := [], alts := [], laidByText := true, laidKinds := [.data, .data, .data], laidTests := true, laidLooks := .later }
def ScribeReadsCardSaid : Prop := Claim7.holds Tryd.pinned (.plain (OpenSpec.ofChange scribeReadsSpec)) scribeReadsCard

/-- THE TIED CARD OF 'hasselaw.ScribeTurns'. -/
def scribeTurnsCard : Claim7 := { stood := { row := scribeTurnsRow, standIns := [], harness := (true, "2c705763b973a71d264b32eb6eb269e206b8917bcd493266fd903aa793d15a76"), looks := true }, kinds := [], alts := [], laidByText := true, laidKinds := [.data, .data, .data], laidTests := true, laidLooks := .later }
def ScribeTurnsCardSaid : Prop := Claim7.holds Tryd.pinned (.plain (OpenSpec.ofChange scribeTurnsSpec)) scribeTurnsCard

/-- THE TIED CARD OF 'hasselaw.ScribeLeast'. -/
def scribeLeastCard : Claim7 := { stood := { row := scribeLeastRow, standIns := [], harness := (true, "2c705763b973a71d264b32eb6eb269e206b8917bcd493266fd903aa793d15a76"), looks := true }, kinds := [], alts := [], laidByText := true, laidKinds := [.data, .data, .data], laidTests := true, laidLooks := .later }
def ScribeLeastCardSaid : Prop := Claim7.holds Tryd.pinned (.plain (OpenSpec.ofChange scribeLeastSpec)) scribeLeastCard

/-- THE TIED CARD OF 'hasselaw.RestOrders'. -/
def restOrdersCard : Claim7 := { stood := { row := restOrdersRow, standIns := [], harness := (true, "2c705763b973a71d264b32eb6eb269e206b8917bcd493266fd903aa793d15a76"), looks := true }, kinds := [], alts := [], laidByText := true, laidKinds := [.data, .data], laidTests := true, laidLooks := .later }
def RestOrdersCardSaid : Prop := Claim7.holds Tryd.pinned (.plain (OpenSpec.ofChange restOrdersSpec)) restOrdersCard

/-- THE TIED CARD OF 'hasselaw.ChainGreene'. -/
def chainGreeneCard : Claim7 := { stood := { row := chainGreeneRow, standIns := [], harness := (true, "2c705763b973a71d264b32eb6eb269e206b8917bcd493266fd903aa793d15a76"), looks := true }, kinds := [], alts := [], laidByText := true, laidKinds := [.data, .data], laidTests := true, laidLooks := .later }
def ChainGreeneCardSaid : Prop := Claim7.holds Tryd.pinned (.plain (OpenSpec.ofChange chainGreeneSpec)) chainGreeneCard

/-- THE TIED CARD OF 'hasselaw.SeriesZigs'. -/
def seriesZigsCard : Claim7 := { stood := { row := seriesZigsRow, standIns := [], harness := (true, "2c705763b973a71d264b32eb6eb269e206b8917bcd493266fd903aa793d15a76"), looks := true }, kinds := [], alts := [], laidByText := true, laidKinds := [.data, .data], laidTests := true, laidLooks := .later }
def SeriesZigsCardSaid : Prop := Claim7.holds Tryd.pinned (.plain (OpenSpec.ofChange seriesZigsSpec)) seriesZigsCard

/-- THE TIED CARD OF 'hasselaw.RestLattices'. -/
def restLatticesCard : Claim7 := { stood := { row := restLatticesRow, standIns := [], harness := (true, "2c705763b973a71d264b32eb6eb269e206b8917bcd493266fd903aa793d15a76"), looks := true }, kinds := [], alts := [], laidByText := true, laidKinds := [.data, .data], laidTests := true, laidLooks := .later }
def RestLatticesCardSaid : Prop := Claim7.holds Tryd.pinned (.plain (OpenSpec.ofChange restLatticesSpec)) restLatticesCard

/-- THE SECOND FORM's CARD OF 'hasselaw.ScribePrints'. -/
def scribePrintsUptoCard : Claim7 := { stood := { row := scribePrintsUptoRow, standIns := [], harness := (true, "2c705763b973a71d264b32eb6eb269e206b8917bcd493266fd903aa793d15a76"), looks := true }, kinds := [], alts := [], laidByText := true, laidKinds := [.data, .data, .data], laidTests := true, laidLooks := .later }
def ScribePrintsUptoCardSaid : Prop := Claim7.holds Tryd.pinned (.plain (OpenSpec.upto scribePrintsSpec)) scribePrintsUptoCard

/-- THE SECOND FORM's CARD OF 'hasselaw.ScribeReads'. -/
def scribeReadsUptoCard : Claim7 := { stood := { row := scribeReadsUptoRow, standIns := [], harness := (true, "2c705763b973a71d264b32eb6eb269e206b8917bcd493266fd903aa793d15a76"), looks := true }, kinds := [], alts := [], laidByText := true, laidKinds := [.data, .data, .data], laidTests := true, laidLooks := .later }
def ScribeReadsUptoCardSaid : Prop := Claim7.holds Tryd.pinned (.plain (OpenSpec.upto scribeReadsSpec)) scribeReadsUptoCard

/-- THE SECOND FORM's CARD OF 'hasselaw.ScribeTurns'. -/
def scribeTurnsUptoCard : Claim7 := { stood := { row := scribeTurnsUptoRow, standIns := [], harness := (true, "2c705763b973a71d264b32eb6eb269e206b8917bcd493266fd903aa793d15a76"), looks := true }, kinds := [], alts := [], laidByText := true, laidKinds := [.data, .data, .data], laidTests := true, laidLooks := .later }
def ScribeTurnsUptoCardSaid : Prop := Claim7.holds Tryd.pinned (.plain (OpenSpec.upto scribeTurnsSpec)) scribeTurnsUptoCard

/-- THE SECOND FORM's CARD OF 'hasselaw.ScribeLeast'. -/
def scribeLeastUptoCard : Claim7 := { stood := { row := scribeLeastUptoRow, standIns := [], harness := (true, "2c705763b973a71d264b32eb6eb269e206b8917bcd493266fd903aa793d15a76"), looks := true }, kinds := [], alts := [], laidByText := true, laidKinds := [.data, .data, .data], laidTests := true, laidLooks := .later }
def ScribeLeastUptoCardSaid : Prop := Claim7.holds Tryd.pinned (.plain (OpenSpec.upto scribeLeastSpec)) scribeLeastUptoCard

/-- THE SECOND FORM's CARD OF 'hasselaw.RestOrders'. -/
def restOrdersUptoCard : Claim7 := { stood := { row := restOrdersUptoRow, standIns := [], harness := (true, "2c705763b973a71d264b32eb6eb269e206b8917bcd493266fd903aa793d15a76"), looks := true }, kinds := [], alts := [], laidByText := true, laidKinds := [.data, .data], laidTests := true, laidLooks := .later }
def RestOrdersUptoCardSaid : Prop := Claim7.holds Tryd.pinned (.plain (OpenSpec.upto restOrdersSpec)) restOrdersUptoCard

/-- THE SECOND FORM's CARD OF 'hasselaw.ChainGreene'. -/
def chainGreeneUptoCard : Claim7 := { stood := { row := chainGreeneUptoRow, standIns := [], harness := (true, "2c705763b973a71d264b32eb6eb269e206b8917bcd493266fd903aa793d15a76"), looks := true }, kinds := [], alts := [], laidByText := true, laidKinds := [.data, .data], laidTests := true, laidLooks := .later }
def ChainGreeneUptoCardSaid : Prop := Claim7.holds Tryd.pinned (.plain (OpenSpec.upto chainGreeneSpec)) chainGreeneUptoCard

/-- THE SECOND FORM's CARD OF 'hasselaw.SeriesZigs'. -/
def seriesZigsUptoCard : Claim7 := { stood := { row := seriesZigsUptoRow, standIns := [], harness := (true, "2c705763b973a71d264b32eb6eb269e206b8917bcd493266fd903aa793d15a76"), looks := true }, kinds := [], alts := [], laidByText := true, laidKinds := [.data, .data], laidTests := true, laidLooks := .later }
def SeriesZigsUptoCardSaid : Prop := Claim7.holds Tryd.pinned (.plain (OpenSpec.upto seriesZigsSpec)) seriesZigsUptoCard

/-- THE SECOND FORM's CARD OF 'hasselaw.RestLattices'. -/
def restLatticesUptoCard : Claim7 := { stood := { row := restLatticesUptoRow, standIns := [], harness := (true, "2c705763b973a71d264b32eb6eb269e206b8917bcd493266fd903aa793d15a76"), looks := true }, kinds := [], alts := [], laidByText := true, laidKinds := [.data, .data], laidTests := true, laidLooks := .later }
def RestLatticesUptoCardSaid : Prop := Claim7.holds Tryd.pinned (.plain (OpenSpec.upto restLatticesSpec)) restLatticesUptoCard
end Rows
end Go.Proofs.YtpfldhaaiglgdaaDoor
