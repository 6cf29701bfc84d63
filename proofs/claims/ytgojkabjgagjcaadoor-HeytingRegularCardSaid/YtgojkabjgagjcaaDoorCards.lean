/-
  DERIVED. GIVEN WITH THE SEED: THE CARDS: each row of YtgojkabjgagjcaaDoorRows.lean that lists a variable, with what it lists TIED to the program's text (the seventh form; the later family's looks); each row that meets fmt, with fmt's text TOLD by the authors' own Lean function (tested against real Go, not proved from fmt's source: count such statements apart). THE CARD IS WHAT COUNTS. Prove the row's statement (the work); the ties are given (YtgojkabjgagjcaaDoorTie.lean); close each card by the builder's one call (the guide's Derived/Test/ToyasCard.lean, 'card_holds'). Laid BY PROGRAM, IN A SANDBOX (cutbox-door.mjs). By AI agents, Wed Nov 11 2026. No macro, syntax, notation, axiom, sorry.
-/
import Derived.Test.YtgojkabjgagjcaaDoorRows
import GoSem.ClaimSeven
namespace Go.Proofs.YtgojkabjgagjcaaDoor
namespace Rows

/-- THE TIED CARD OF 'hasselaw.RealizeTurned'. -/
def realizeTurnedCard : Claim7 := { stood := { row := realizeTurnedRow, standIns := [], harness := (true, "21c88d9afaf9ffc8725b5f50f2b0b327c3cdfe6d4ef30e7516558d86c81b678b"), looks := true }, kinds := [], alts := [], laidByText := true, laidKinds := [.data, .data], laidTests := true, laidLooks := .later }
def RealizeTurnedCardSaid : Prop := Claim7.holds Tryd.pinned (.plain (OpenSpec.ofChange realizeTurnedSpec)) realizeTurnedCard

/-- THE TIED CARD OF 'hasselaw.RealizeDushnik'. -/
def realizeDushnikCard : Claim7 := { stood := { row := realizeDushnikRow, standIns := [], harness := (true, "21c88d9afaf9ffc8725b5f50f2b0b327c3cdfe6d4ef30e7516558d86c81b678b"), looks := true }, kinds := [], alts := [], laidByText := true, laidKinds := [.data, .data], laidTests := true, laidLooks := .later }
def RealizeDushnikCardSaid : Prop := Claim7.holds Tryd.pinned (.plain (OpenSpec.ofChange realizeDushnikSpec)) realizeDushnikCard

/-- THE TIED CARD OF 'hasselaw.RealizeHiraguchi'. -/
def realizeHiraguchiCard : Claim7 := { stood := { row := realizeHiraguchiRow, standIns := [], harness := (true, "21c88d9afaf9ffc8725b5f50f2b0b327c3cdfe6d4ef30e7516558d86c81b678b"), looks := true }, kinds := [], alts := [], laidByText := true, laidKinds := [.data, .data], laidTests := true, laidLooks := .later }
def RealizeHiraguchiCardSaid : Prop := Claim7.holds Tryd.pinned (.plain (OpenSpec.ofChange realizeHiraguchiSpec)) realizeHiraguchiCard

/-- THE TIED CARD OF 'hasselaw.HeytingImplies'. -/
def heytingImpliesCard : Claim7 := { stood := { row := heytingImpliesRow, standIns := [], harness := (true, "21c88d9afaf9ffc8725b5f50f2b0b327c3cdfe6d4ef30e7516558d86c81b678b"), looks := true }, kinds := [], alts := [], laidByText := true, laidKinds := [.data, .data], laidTests := true, laidLooks := .later }
def HeytingImpliesCardSaid : Prop := Claim7.holds Tryd.pinned (.plain (OpenSpec.ofChange heytingImpliesSpec)) heytingImpliesCard

/-- THE TIED CARD OF 'hasselaw.HeytingRegular'. -/
def heytingRegularCard : Claim7 := { stood := { row := heytingRegularRow, standIns := [], harness := (true, "21c88d9afaf9ffc8725b5f50f2b0b327c3cdfe6d4ef30e7516558d86c81b678b"), looks := true }, kinds := [], alts := [], laidByText := true, laidKinds := [.data, .data], laidTests := true, laidLooks := .later }
def HeytingRegularCardSaid : Prop := Claim7.holds Tryd.pinned (.plain (OpenSpec.ofChange heytingRegularSpec)) heytingRegularCard

/-- THE TIED CARD OF 'hasselaw.HeytingResiduates'. -/
def heytingResiduatesCard : Claim7 := { stood := { row := heytingResiduatesRow, standIns := [], harness := (true, "21c88d9afaf9ffc8725b5f50f2b0b327c3cdfe6d4ef30e7516558d86c81b678b"), looks := true }, kinds := [], alts := [], laidByText := true, laidKinds := [.data, .data], laidTests := true, laidLooks := .later }
def HeytingResiduatesCardSaid : Prop := Claim7.holds Tryd.pinned (.plain (OpenSpec.ofChange heytingResiduatesSpec)) heytingResiduatesCard

/-- THE TIED CARD OF 'hasselaw.HeytingCloses'. -/
def heytingClosesCard : Claim7 := { stood := { row := heytingClosesRow, standIns := [], harness := (true, "21c88d9afaf9ffc8725b5f50f2b0b327c3cdfe6d4ef30e7516558d86c81b678b"), looks := true }, kinds := [], alts := [], laidByText := true, laidKinds := [.data, .data], laidTests := true, laidLooks := .later }
def HeytingClosesCardSaid : Prop := Claim7.holds Tryd.pinned (.plain (OpenSpec.ofChange heytingClosesSpec)) heytingClosesCard

/-- THE TIED CARD OF 'hasselaw.ScribePrints'. -/
def scribePrintsCard : Claim7 := { stood := { row := scribePrintsRow, standIns := [], harness := (true, "21c88d9afaf9ffc8725b5f50f2b0b327c3cdfe6d4ef30e7516558d86c81b678b"), looks := true }, kinds := [], alts := [], laidByText := true, laidKinds := [.data, .data, .data], laidTests := true, laidLooks := .later }
def ScribePrintsCardSaid : Prop := Claim7.holds Tryd.pinned (.plain (OpenSpec.ofChange scribePrintsSpec)) scribePrintsCard

/-- THE TIED CARD OF 'hasselaw.ScribeReads'. -/
def scribeReadsCard : Claim7 := { stood := { row := scribeReadsRow, standIns := [], harness := (true, "21c88d9afaf9ffc8725b5f50f2b0b327c3cdfe6d4ef30e7516558d86c81b678b"), looks := true }, kinds := [], alts := [], laidByText := true, laidKinds := [.data, .data, .data], laidTests := true, laidLooks := .later }
def ScribeReadsCardSaid : Prop := Claim7.holds Tryd.pinned (.plain (OpenSpec.ofChange scribeReadsSpec)) scribeReadsCard

/-- THE TIED CARD OF 'hasselaw.ScribeTurns'. -/
def scribeTurnsCard : Claim7 := { stood := { row := scribeTurnsRow, standIns := [], harness := (true, "21c88d9afaf9ffc8725b5f50f2b0b327c3cdfe6d4ef30e7516558d86c81b678b"), looks := true }, kinds := [], alts := [], laidByText := true, laidKinds := [.data, .data, .data], laidTests := true, laidLooks := .later }
def ScribeTurnsCardSaid : Prop := Claim7.holds Tryd.pinned (.plain (OpenSpec.ofChange scribeTurnsSpec)) scribeTurnsCard

/-- THE TIED CARD OF 'hasselaw.ScribeLeast'. -/
def scribeLeastCard : Claim7 := { stood := { row := scribeLeastRow, standIns := [], harness := (true, "21c88d9afaf9ffc8725b5f50f2b0b327c3cdfe6d4ef30e7516558d86c81b678b"), looks := true }, kinds := [], alts := [], laidByText := true, laidKinds := [.data, .data, .data], laidTests := true, laidLooks := .later }
def ScribeLeastCardSaid : Prop := Claim7.holds Tryd.pinned (.plain (OpenSpec.ofChange scribeLeastSpec)) scribeLeastCard

/-- THE SECOND FORM's CARD OF 'hasselaw.RealizeTurned'. -/
def realizeTurnedUptoCard : Claim7 := { stood := { row := realizeTurnedUptoRow, standIns := [], harness := (true, "21c88d9afaf9ffc8725b5f50f2b0b327c3cdfe6d4ef30e7516558d86c81b678b"), looks := true }, kinds := [], alts := [], laidByText := true, laidKinds := [.data, .data], laidTests := true, laidLooks := .later }
def RealizeTurnedUptoCardSaid : Prop := Claim7.holds Tryd.pinned (.plain (OpenSpec.upto realizeTurnedSpec)) realizeTurnedUptoCard

/-- THE SECOND FORM's CARD OF 'hasselaw.RealizeDushnik'. -/
def realizeDushnikUptoCard : Claim7 := { stood := { row := realizeDushnikUptoRow, standIns := [], harness := (true, "21c88d9afaf9ffc8725b5f50f2b0b327c3cdfe6d4ef30e7516558d86c81b678b"), looks := true }, kinds := [], alts := [], laidByText := true, laidKinds := [.data, .data], laidTests := true, laidLooks := .later }
def RealizeDushnikUptoCardSaid : Prop := Claim7.holds Tryd.pinned (.plain (OpenSpec.upto realizeDushnikSpec)) realizeDushnikUptoCard

/-- THE SECOND FORM's CARD OF 'hasselaw.RealizeHiraguchi'. -/
def realizeHiraguchiUptoCard : Claim7 := { stood := { row := realizeHiraguchiUptoRow, standIns := [], harness := (true, "21c88d9afaf9ffc8725b5f50f2b0b327c3cdfe6d4ef30e7516558d86c81b678b"), looks := true }, kinds := [], alts := [], laidByText := true, laidKinds := [.data, .data], laidTests := true, laidLooks := .later }
def RealizeHiraguchiUptoCardSaid : Prop := Claim7.holds Tryd.pinned (.plain (OpenSpec.upto realizeHiraguchiSpec)) realizeHiraguchiUptoCard

/-- THE SECOND FORM's CARD OF 'hasselaw.HeytingImplies'. -/
def heytingImpliesUptoCard : Claim7 := { stood := { row := heytingImpliesUptoRow, standIns := [], harness := (true, "21c88d9afaf9ffc8725b5f50f2b0b327c3cdfe6d4ef30e7516558d86c81b678b"), looks := true }, kinds := [], alts := [], laidByText := true, laidKinds := [.data, .data], laidTests := true, laidLooks := .later }
def HeytingImpliesUptoCardSaid : Prop := Claim7.holds Tryd.pinned (.plain (OpenSpec.upto heytingImpliesSpec)) heytingImpliesUptoCard

/-- THE SECOND FORM's CARD OF 'hasselaw.HeytingRegular'. -/
def heytingRegularUptoCard : Claim7 := { stood := { row := heytingRegularUptoRow, standIns := [], harness := (true, "21c88d9afaf9ffc8725b5f50f2b0b327c3cdfe6d4ef30e7516558d86c81b678b"), looks := true }, kinds := [], alts := [], laidByText := true, laidKinds := [.data, .data], laidTests := true, laidLooks := .later }
def HeytingRegularUptoCardSaid : Prop := Claim7.holds Tryd.pinned (.plain (OpenSpec.upto heytingRegularSpec)) heytingRegularUptoCard

/-- THE SECOND FORM's CARD OF 'hasselaw.HeytingResiduates'. -/
def heytingResiduatesUptoCard : Claim7 := { stood := { row := heytingResiduatesUptoRow, standIns := [], harness := (true, "21c88d9afaf9ffc8725b5f50f2b0b327c3cdfe6d4ef30e7516558d86c81b678b"), looks := true }, kinds := [], alts := [], laidByText := true, laidKinds := [.data, .data], laidTests := true, laidLooks := .later }
def HeytingResiduatesUptoCardSaid : Prop := Claim7.holds Tryd.pinned (.plain (OpenSpec.upto heytingResiduatesSpec)) heytingResiduatesUptoCard

/-- THE SECOND FORM's CARD OF 'hasselaw.HeytingCloses'. -/
def heytingClosesUptoCard : Claim7 := { stood := { row := heytingClosesUptoRow, standIns := [], harness := (true, "21c88d9afaf9ffc8725b5f50f2b0b327c3cdfe6d4ef30e7516558d86c81b678b"), looks := true }, kinds := [], alts := [], laidByText := true, laidKinds := [.data, .data], laidTests := true, laidLooks := .later }
def HeytingClosesUptoCardSaid : Prop := Claim7.holds Tryd.pinned (.plain (OpenSpec.upto heytingClosesSpec)) heytingClosesUptoCard

/-- THE SECOND FORM's CARD OF 'hasselaw.ScribePrints'. -/
def scribePrintsUptoCard : Claim7 := { stood := { row := scribePrintsUptoRow, standIns := [], harness := (true, "21c88d9afaf9ffc8725b5f50f2b0b327c3cdfe6d4ef30e7516558d86c81b678b"), looks := true }, kinds := [], alts := [], laidByText := true, laidKinds := [.data, .data, .data], laidTests := true, laidLooks := .later }
def ScribePrintsUptoCardSaid : Prop := Claim7.holds Tryd.pinned (.plain (OpenSpec.upto scribePrintsSpec)) scribePrintsUptoCard

/-- THE SECOND FORM's CARD OF 'hasselaw.ScribeReads'. -/
def scribeReadsUptoCard : Claim7 := { stood := { row := scribeReadsUptoRow, standIns := [], harness := (true, "21c88d9afaf9ffc8725b5f50f2b0b327c3cdfe6d4ef30e7516558d86c81b678b"), looks := true }, kinds := [], alts := [], laidByText := true, laidKinds := [.data, .data, .data], laidTests := true, laidLooks := .later }
def ScribeReadsUptoCardSaid : Prop := Claim7.holds Tryd.pinned (.plain (OpenSpec.upto scribeReadsSpec)) scribeReadsUptoCard

/-- THE SECOND FORM's CARD OF 'hasselaw.ScribeTurns'. -/
def scribeTurnsUptoCard : Claim7 := { stood := { row := scribeTurnsUptoRow, standIns := [], harness := (true, "21c88d9afaf9ffc8725b5f50f2b0b327c3cdfe6d4ef30e7516558d86c81b678b"), looks := true }, kinds := [], alts := [], laidByText := true, laidKinds := [.data, .data, .data], laidTests := true, laidLooks := .later }
def ScribeTurnsUptoCardSaid : Prop := Claim7.holds Tryd.pinned (.plain (OpenSpec.upto scribeTurnsSpec)) scribeTurnsUptoCard

/-- THE SECOND FORM's CARD OF 'hasselaw.ScribeLeast'. -/
def scribeLeastUptoCard : Claim7 := { stood := { row := scribeLeastUptoRow, standIns := [], harness := (true, "21c88d9afaf9ffc8725b5f50f2b0b327c3cdfe6d4ef30e7516558d86c81b678b"), looks := true }, kinds := [], alts := [], laidByText := true, laidKinds := [.data, .data, .data], laidTests := true, laidLooks := .later }
def ScribeLeastUptoCardSaid : Prop := Claim7.holds Tryd.pinned (.plain (OpenSpec.upto scribeLeastSpec)) scribeLeastUptoCard
end Rows
end Go.Proofs.YtgojkabjgagjcaaDoor
