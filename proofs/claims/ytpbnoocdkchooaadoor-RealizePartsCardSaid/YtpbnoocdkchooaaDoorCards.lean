/-
  DERIVED. GIVEN WITH THE SEED: THE CARDS: each row of YtpbnoocdkchooaaDoorRows.lean that lists a variable, with what it lists TIED to the program's text (the seventh form; the later family's looks); each row that meets fmt, with fmt's text TOLD by the authors' own Lean function (tested against real Go, not proved from fmt's source: count such statements apart). THE CARD IS WHAT COUNTS. Prove the row's statement (the work); the ties are given (YtpbnoocdkchooaaDoorTie.lean); close each card by the builder's one call (the guide's Derived/Test/ToyasCard.lean, 'card_holds'). Laid BY PROGRAM, IN A SANDBOX (cutbox-door.mjs). By AI agents, Wed Nov 11 2026. No macro, syntax, notation, axiom, sorry.
-/
import Derived.Test.YtpbnoocdkchooaaDoorRows
import GoSem.ClaimSeven
namespace Go.Proofs.YtpbnoocdkchooaaDoor
namespace Rows

/-- THE TIED CARD OF 'hasselaw.RealizeParts'. -/
def realizePartsCard : Claim7 := { stood := { row := realizePartsRow, standIns := [], harness := (true, "100153eedbd528a78c96be318bebe4a40adc1385b0aa5719943f90defcf4ae36"), looks := false }, kinds := [], alts := [], laidByText := true, laidKinds := [.data, .data], laidTests := true, laidLooks := .later }
def RealizePartsCardSaid : Prop := Claim7.holds Tryd.pinned (.plain (OpenSpec.ofChange realizePartsSpec)) realizePartsCard

/-- THE TIED CARD OF 'hasselaw.RealizeTurned'. -/
def realizeTurnedCard : Claim7 := { stood := { row := realizeTurnedRow, standIns := [], harness := (true, "100153eedbd528a78c96be318bebe4a40adc1385b0aa5719943f90defcf4ae36"), looks := false }, kinds := [], alts := [], laidByText := true, laidKinds := [.data, .data], laidTests := true, laidLooks := .later }
def RealizeTurnedCardSaid : Prop := Claim7.holds Tryd.pinned (.plain (OpenSpec.ofChange realizeTurnedSpec)) realizeTurnedCard

/-- THE TIED CARD OF 'hasselaw.RealizeDushnik'. -/
def realizeDushnikCard : Claim7 := { stood := { row := realizeDushnikRow, standIns := [], harness := (true, "100153eedbd528a78c96be318bebe4a40adc1385b0aa5719943f90defcf4ae36"), looks := false }, kinds := [], alts := [], laidByText := true, laidKinds := [.data, .data], laidTests := true, laidLooks := .later }
def RealizeDushnikCardSaid : Prop := Claim7.holds Tryd.pinned (.plain (OpenSpec.ofChange realizeDushnikSpec)) realizeDushnikCard

/-- THE TIED CARD OF 'hasselaw.RealizeHiraguchi'. -/
def realizeHiraguchiCard : Claim7 := { stood := { row := realizeHiraguchiRow, standIns := [], harness := (true, "100153eedbd528a78c96be318bebe4a40adc1385b0aa5719943f90defcf4ae36"), looks := false }, kinds := [], alts := [], laidByText := true, laidKinds := [.data, .data], laidTests := true, laidLooks := .later }
def RealizeHiraguchiCardSaid : Prop := Claim7.holds Tryd.pinned (.plain (OpenSpec.ofChange realizeHiraguchiSpec)) realizeHiraguchiCard

/-- THE TIED CARD OF 'hasselaw.HeytingImplies'. -/
def heytingImpliesCard : Claim7 := { stood := { row := heytingImpliesRow, standIns := [], harness := (true, "100153eedbd528a78c96be318bebe4a40adc1385b0aa5719943f90defcf4ae36"), looks := false }, kinds := [], alts := [], laidByText := true, laidKinds := [.data, .data], laidTests := true, laidLooks := .later }
def HeytingImpliesCardSaid : Prop := Claim7.holds Tryd.pinned (.plain (OpenSpec.ofChange heytingImpliesSpec)) heytingImpliesCard

/-- THE TIED CARD OF 'hasselaw.HeytingRegular'. -/
def heytingRegularCard : Claim7 := { stood := { row := heytingRegularRow, standIns := [], harness := (true, "100153eedbd528a78c96be318bebe4a40adc1385b0aa5719943f90defcf4ae36"), looks := false }, kinds := [], alts := [], laidByText := true, laidKinds := [.data, .data], laidTests := true, laidLooks := .later }
def HeytingRegularCardSaid : Prop := Claim7.holds Tryd.pinned (.plain (OpenSpec.ofChange heytingRegularSpec)) heytingRegularCard

/-- THE TIED CARD OF 'hasselaw.HeytingResiduates'. -/
def heytingResiduatesCard : Claim7 := { stood := { row := heytingResiduatesRow, standIns := [], harness := (true, "100153eedbd528a78c96be318bebe4a40adc1385b0aa5719943f90defcf4ae36"), looks := false }, kinds := [], alts := [], laidByText := true, laidKinds := [.data, .data], laidTests := true, laidLooks := .later }
def HeytingResiduatesCardSaid : Prop := Claim7.holds Tryd.pinned (.plain (OpenSpec.ofChange heytingResiduatesSpec)) heytingResiduatesCard

/-- THE TIED CARD OF 'hasselaw.HeytingCloses'. -/
def heytingClosesCard : Claim7 := { stood := { row := heytingClosesRow, standIns := [], harness := (true, "100153eedbd528a78c96be318bebe4a40adc1385b0aa5719943f90defcf4ae36"), looks := false }, kinds := [], alts := [], laidByText := true, laidKinds := [.data, .data], laidTests := true, laidLooks := .later }
def HeytingClosesCardSaid : Prop := Claim7.holds Tryd.pinned (.plain (OpenSpec.ofChange heytingClosesSpec)) heytingClosesCard

/-- THE TIED CARD OF 'hasselaw.SeriesZigs'. -/
def seriesZigsCard : Claim7 := { stood := { row := seriesZigsRow, standIns := [], harness := (true, "100153eedbd528a78c96be318bebe4a40adc1385b0aa5719943f90defcf4ae36"), looks := false }, kinds := [], alts := [], laidByText := true, laidKinds := [.data, .data], laidTests := true, laidLooks := .later }
def SeriesZigsCardSaid : Prop := Claim7.holds Tryd.pinned (.plain (OpenSpec.ofChange seriesZigsSpec)) seriesZigsCard

/-- THE SECOND FORM's CARD OF 'hasselaw.RealizeParts'. -/
def realizePartsUptoCard : Claim7 := { stood := { row := realizePartsUptoRow, standIns := [], harness := (true, "100153eedbd528a78c96be318bebe4a40adc1385b0aa5719943f90defcf4ae36"), looks := false }, kinds := [], alts := [], laidByText := true, laidKinds := [.data, .data], laidTests := true, laidLooks := .later }
def RealizePartsUptoCardSaid : Prop := Claim7.holds Tryd.pinned (.plain (OpenSpec.upto realizePartsSpec)) realizePartsUptoCard

/-- THE SECOND FORM's CARD OF 'hasselaw.RealizeTurned'. -/
def realizeTurnedUptoCard : Claim7 := { stood := { row := realizeTurnedUptoRow, standIns := [], harness := (true, "100153eedbd528a78c96be318bebe4a40adc1385b0aa5719943f90defcf4ae36"), looks := false }, kinds := [], alts := [], laidByText := true, laidKinds := [.data, .data], laidTests := true, laidLooks := .later }
def RealizeTurnedUptoCardSaid : Prop := Claim7.holds Tryd.pinned (.plain (OpenSpec.upto realizeTurnedSpec)) realizeTurnedUptoCard

/-- THE SECOND FORM's CARD OF 'hasselaw.RealizeDushnik'. -/
def realizeDushnikUptoCard : Claim7 := { stood := { row := realizeDushnikUptoRow, standIns := [], harness := (true, "100153eedbd528a78c96be318bebe4a40adc1385b0aa5719943f90defcf4ae36"), looks := false }, kinds := [], alts := [], laidByText := true, laidKinds := [.data, .data], laidTests := true, laidLooks := .later }
def RealizeDushnikUptoCardSaid : Prop := Claim7.holds Tryd.pinned (.plain (OpenSpec.upto realizeDushnikSpec)) realizeDushnikUptoCard

/-- THE SECOND FORM's CARD OF 'hasselaw.RealizeHiraguchi'. -/
def realizeHiraguchiUptoCard : Claim7 := { stood := { row := realizeHiraguchiUptoRow, standIns := [], harness := (true, "100153eedbd528a78c96be318bebe4a40adc1385b0aa5719943f90defcf4ae36"), looks := false }, kinds := [], alts := [], laidByText := true, laidKinds := [.data, .data], laidTests := true, laidLooks := .later }
def RealizeHiraguchiUptoCardSaid : Prop := Claim7.holds Tryd.pinned (.plain (OpenSpec.upto realizeHiraguchiSpec)) realizeHiraguchiUptoCard

/-- THE SECOND FORM's CARD OF 'hasselaw.HeytingImplies'. -/
def heytingImpliesUptoCard : Claim7 := { stood := { row := heytingImpliesUptoRow, standIns := [], harness := (true, "100153eedbd528a78c96be318bebe4a40adc1385b0aa5719943f90defcf4ae36"), looks := false }, kinds := [], alts := [], laidByText := true, laidKinds := [.data, .data], laidTests := true, laidLooks := .later }
def HeytingImpliesUptoCardSaid : Prop := Claim7.holds Tryd.pinned (.plain (OpenSpec.upto heytingImpliesSpec)) heytingImpliesUptoCard

/-- THE SECOND FORM's CARD OF 'hasselaw.HeytingRegular'. -/
def heytingRegularUptoCard : Claim7 := { stood := { row := heytingRegularUptoRow, standIns := [], harness := (true, "100153eedbd528a78c96be318bebe4a40adc1385b0aa5719943f90defcf4ae36"), looks := false }, kinds := [], alts := [], laidByText := true, laidKinds := [.data, .data], laidTests := true, laidLooks := .later }
def HeytingRegularUptoCardSaid : Prop := Claim7.holds Tryd.pinned (.plain (OpenSpec.upto heytingRegularSpec)) heytingRegularUptoCard

/-- THE SECOND FORM's CARD OF 'hasselaw.HeytingResiduates'. -/
def heytingResiduatesUptoCard : Claim7 := { stood := { row := heytingResiduatesUptoRow, standIns := [], harness := (true, "100153eedbd528a78c96be318bebe4a40adc1385b0aa5719943f90defcf4ae36"), looks := false }, kinds := [], alts := [], laidByText := true, laidKinds := [.data, .data], laidTests := true, laidLooks := .later }
def HeytingResiduatesUptoCardSaid : Prop := Claim7.holds Tryd.pinned (.plain (OpenSpec.upto heytingResiduatesSpec)) heytingResiduatesUptoCard

/-- THE SECOND FORM's CARD OF 'hasselaw.HeytingCloses'. -/
def heytingClosesUptoCard : Claim7 := { stood := { row := heytingClosesUptoRow, standIns := [], harness := (true, "100153eedbd528a78c96be318bebe4a40adc1385b0aa5719943f90defcf4ae36"), looks := false }, kinds := [], alts := [], laidByText := true, laidKinds := [.data, .data], laidTests := true, laidLooks := .later }
def HeytingClosesUptoCardSaid : Prop := Claim7.holds Tryd.pinned (.plain (OpenSpec.upto heytingClosesSpec)) heytingClosesUptoCard

/-- THE SECOND FORM's CARD OF 'hasselaw.SeriesZigs'. -/
def seriesZigsUptoCard : Claim7 := { stood := { row := seriesZigsUptoRow, standIns := [], harness := (true, "100153eedbd528a78c96be318bebe4a40adc1385b0aa5719943f90defcf4ae36"), looks := false }, kinds := [], alts := [], laidByText := true, laidKinds := [.data, .data], laidTests := true, laidLooks := .later }
def SeriesZigsUptoCardSaid : Prop := Claim7.holds Tryd.pinned (.plain (OpenSpec.upto seriesZigsSpec)) seriesZigsUptoCard
end Rows
end Go.Proofs.YtpbnoocdkchooaaDoor
