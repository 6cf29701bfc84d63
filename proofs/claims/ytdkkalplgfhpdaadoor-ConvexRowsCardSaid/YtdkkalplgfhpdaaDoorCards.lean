/-
  DERIVED. GIVEN WITH THE SEED: THE CARDS: each row of YtdkkalplgfhpdaaDoorRows.lean that lists a variable, with what it lists TIED to the program's text (the seventh form; the later family's looks); each row that meets fmt, with fmt's text TOLD by the authors' own Lean function (tested against real Go, not proved from fmt's source: count such statements apart). THE CARD IS WHAT COUNTS. Prove the row's statement (the work); the ties are given (YtdkkalplgfhpdaaDoorTie.lean); close each card by the builder's one call (the guide's Derived/Test/ToyasCard.lean, 'card_holds'). Laid BY PROGRAM, IN A SANDBOX (cutbox-door.mjs). By AI agents, Wed Nov 11 2026. No macro, syntax, notation, axiom, sorry.
-/
import Derived.Test.YtdkkalplgfhpdaaDoorRows
import GoSem.ClaimSeven
namespace Go.Proofs.YtdkkalplgfhpdaaDoor
namespace Rows

/-- THE TIED CARD OF 'hasselaw.ClockCounts'. -/
def clockCountsCard : Claim7 := { stood := { row := clockCountsRow, standIns := [], harness := (true, "17fda6c531ee6f50f4d1dfdffc03f3dfb0c8a781cb14fa3d2f4dfecf0672066e"), looks := false }, kinds := [], alts := [], laidByText := true, laidKinds := [.data, .data], laidTests := true, laidLooks := .later }
def ClockCountsCardSaid : Prop := Claim7.holds Tryd.pinned (.plain (OpenSpec.ofChange clockCountsSpec)) clockCountsCard

/-- THE TIED CARD OF 'hasselaw.ClockMattern'. -/
def clockMatternCard : Claim7 := { stood := { row := clockMatternRow, standIns := [], harness := (true, "17fda6c531ee6f50f4d1dfdffc03f3dfb0c8a781cb14fa3d2f4dfecf0672066e"), looks := false }, kinds := [], alts := [], laidByText := true, laidKinds := [.data, .data], laidTests := true, laidLooks := .later }
def ClockMatternCardSaid : Prop := Claim7.holds Tryd.pinned (.plain (OpenSpec.ofChange clockMatternSpec)) clockMatternCard

/-- THE TIED CARD OF 'hasselaw.SpanOf'. -/
def spanOfCard : Claim7 := { stood := { row := spanOfRow, standIns := [], harness := (true, "17fda6c531ee6f50f4d1dfdffc03f3dfb0c8a781cb14fa3d2f4dfecf0672066e"), looks := false }, kinds := [], alts := [], laidByText := true, laidKinds := [.data, .data], laidTests := true, laidLooks := .later }
def SpanOfCardSaid : Prop := Claim7.holds Tryd.pinned (.plain (OpenSpec.ofChange spanOfSpec)) spanOfCard

/-- THE TIED CARD OF 'hasselaw.SpanTwo'. -/
def spanTwoCard : Claim7 := { stood := { row := spanTwoRow, standIns := [], harness := (true, "17fda6c531ee6f50f4d1dfdffc03f3dfb0c8a781cb14fa3d2f4dfecf0672066e"), looks := false }, kinds := [], alts := [], laidByText := true, laidKinds := [.data, .data], laidTests := true, laidLooks := .later }
def SpanTwoCardSaid : Prop := Claim7.holds Tryd.pinned (.plain (OpenSpec.ofChange spanTwoSpec)) spanTwoCard

/-- THE TIED CARD OF 'hasselaw.SpanThree'. -/
def spanThreeCard : Claim7 := { stood := { row := spanThreeRow, standIns := [], harness := (true, "17fda6c531ee6f50f4d1dfdffc03f3dfb0c8a781cb14fa3d2f4dfecf0672066e"), looks := false }, kinds := [], alts := [], laidByText := true, laidKinds := [.data, .data], laidTests := true, laidLooks := .later }
def SpanThreeCardSaid : Prop := Claim7.holds Tryd.pinned (.plain (OpenSpec.ofChange spanThreeSpec)) spanThreeCard

/-- THE TIED CARD OF 'hasselaw.SpanUnits'. -/
def spanUnitsCard : Claim7 := { stood := { row := spanUnitsRow, standIns := [], harness := (true, "17fda6c531ee6f50f4d1dfdffc03f3dfb0c8a781cb14fa3d2f4dfecf0672066e"), looks := false }, kinds := [], alts := [], laidByText := true, laidKinds := [.data, .data], laidTests := true, laidLooks := .later }
def SpanUnitsCardSaid : Prop := Claim7.holds Tryd.pinned (.plain (OpenSpec.ofChange spanUnitsSpec)) spanUnitsCard

/-- THE TIED CARD OF 'hasselaw.SpanSpans'. -/
def spanSpansCard : Claim7 := { stood := { row := spanSpansRow, standIns := [], harness := (true, "17fda6c531ee6f50f4d1dfdffc03f3dfb0c8a781cb14fa3d2f4dfecf0672066e"), looks := false }, kinds := [], alts := [], laidByText := true, laidKinds := [.data, .data], laidTests := true, laidLooks := .later }
def SpanSpansCardSaid : Prop := Claim7.holds Tryd.pinned (.plain (OpenSpec.ofChange spanSpansSpec)) spanSpansCard

/-- THE TIED CARD OF 'hasselaw.SpanFishburn'. -/
def spanFishburnCard : Claim7 := { stood := { row := spanFishburnRow, standIns := [], harness := (true, "17fda6c531ee6f50f4d1dfdffc03f3dfb0c8a781cb14fa3d2f4dfecf0672066e"), looks := false }, kinds := [], alts := [], laidByText := true, laidKinds := [.data, .data], laidTests := true, laidLooks := .later }
def SpanFishburnCardSaid : Prop := Claim7.holds Tryd.pinned (.plain (OpenSpec.ofChange spanFishburnSpec)) spanFishburnCard

/-- THE TIED CARD OF 'hasselaw.ConvexFamilies'. -/
def convexFamiliesCard : Claim7 := { stood := { row := convexFamiliesRow, standIns := [], harness := (true, "17fda6c531ee6f50f4d1dfdffc03f3dfb0c8a781cb14fa3d2f4dfecf0672066e"), looks := false }, kinds := [], alts := [], laidByText := true, laidKinds := [.data, .data], laidTests := true, laidLooks := .later }
def ConvexFamiliesCardSaid : Prop := Claim7.holds Tryd.pinned (.plain (OpenSpec.ofChange convexFamiliesSpec)) convexFamiliesCard

/-- THE TIED CARD OF 'hasselaw.ConvexRows'. -/
def convexRowsCard : Claim7 := { stood := { row := convexRowsRow, standIns := [], harness := (true, "17fda6c531ee6f50f4d1dfdffc03f3dfb0c8a781cb14fa3d2f4dfecf0672066e"), looks := false }, kinds := [], alts := [], laidByText := true, laidKinds := [.data, .data], laidTests := true, laidLooks := .later }
def ConvexRowsCardSaid : Prop := Claim7.holds Tryd.pinned (.plain (OpenSpec.ofChange convexRowsSpec)) convexRowsCard

/-- THE SECOND FORM's CARD OF 'hasselaw.ClockCounts'. -/
def clockCountsUptoCard : Claim7 := { stood := { row := clockCountsUptoRow, standIns := [], harness := (true, "17fda6c531ee6f50f4d1dfdffc03f3dfb0c8a781cb14fa3d2f4dfecf0672066e"), looks := false }, kinds := [], alts := [], laidByText := true, laidKinds := [.data, .data], laidTests := true, laidLooks := .later }
def ClockCountsUptoCardSaid : Prop := Claim7.holds Tryd.pinned (.plain (OpenSpec.upto clockCountsSpec)) clockCountsUptoCard

/-- THE SECOND FORM's CARD OF 'hasselaw.ClockMattern'. -/
def clockMatternUptoCard : Claim7 := { stood := { row := clockMatternUptoRow, standIns := [], harness := (true, "17fda6c531ee6f50f4d1dfdffc03f3dfb0c8a781cb14fa3d2f4dfecf0672066e"), looks := false }, kinds := [], alts := [], laidByText := true, laidKinds := [.data, .data], laidTests := true, laidLooks := .later }
def ClockMatternUptoCardSaid : Prop := Claim7.holds Tryd.pinned (.plain (OpenSpec.upto clockMatternSpec)) clockMatternUptoCard

/-- THE SECOND FORM's CARD OF 'hasselaw.SpanOf'. -/
def spanOfUptoCard : Claim7 := { stood := { row := spanOfUptoRow, standIns := [], harness := (true, "17fda6c531ee6f50f4d1dfdffc03f3dfb0c8a781cb14fa3d2f4dfecf0672066e"), looks := false }, kinds := [], alts := [], laidByText := true, laidKinds := [.data, .data], laidTests := true, laidLooks := .later }
def SpanOfUptoCardSaid : Prop := Claim7.holds Tryd.pinned (.plain (OpenSpec.upto spanOfSpec)) spanOfUptoCard

/-- THE SECOND FORM's CARD OF 'hasselaw.SpanTwo'. -/
def spanTwoUptoCard : Claim7 := { stood := { row := spanTwoUptoRow, standIns := [], harness := (true, "17fda6c531ee6f50f4d1dfdffc03f3dfb0c8a781cb14fa3d2f4dfecf0672066e"), looks := false }, kinds := [], alts := [], laidByText := true, laidKinds := [.data, .data], laidTests := true, laidLooks := .later }
def SpanTwoUptoCardSaid : Prop := Claim7.holds Tryd.pinned (.plain (OpenSpec.upto spanTwoSpec)) spanTwoUptoCard

/-- THE SECOND FORM's CARD OF 'hasselaw.SpanThree'. -/
def spanThreeUptoCard : Claim7 := { stood := { row := spanThreeUptoRow, standIns := [], harness := (true, "17fda6c531ee6f50f4d1dfdffc03f3dfb0c8a781cb14fa3d2f4dfecf0672066e"), looks := false }, kinds := [], alts := [], laidByText := true, laidKinds := [.data, .data], laidTests := true, laidLooks := .later }
def SpanThreeUptoCardSaid : Prop := Claim7.holds Tryd.pinned (.plain (OpenSpec.upto spanThreeSpec)) spanThreeUptoCard

/-- THE SECOND FORM's CARD OF 'hasselaw.SpanUnits'. -/
def spanUnitsUptoCard : Claim7 := { stood := { row := spanUnitsUptoRow, standIns := [], harness := (true, "17fda6c531ee6f50f4d1dfdffc03f3dfb0c8a781cb14fa3d2f4dfecf0672066e"), looks := false }, kinds := [], alts := [], laidByText := true, laidKinds := [.data, .data], laidTests := true, laidLooks := .later }
def SpanUnitsUptoCardSaid : Prop := Claim7.holds Tryd.pinned (.plain (OpenSpec.upto spanUnitsSpec)) spanUnitsUptoCard

/-- THE SECOND FORM's CARD OF 'hasselaw.SpanSpans'. -/
def spanSpansUptoCard : Claim7 := { stood := { row := spanSpansUptoRow, standIns := [], harness := (true, "17fda6c531ee6f50f4d1dfdffc03f3dfb0c8a781cb14fa3d2f4dfecf0672066e"), looks := false }, kinds := [], alts := [], laidByText := true, laidKinds := [.data, .data], laidTests := true, laidLooks := .later }
def SpanSpansUptoCardSaid : Prop := Claim7.holds Tryd.pinned (.plain (OpenSpec.upto spanSpansSpec)) spanSpansUptoCard

/-- THE SECOND FORM's CARD OF 'hasselaw.SpanFishburn'. -/
def spanFishburnUptoCard : Claim7 := { stood := { row := spanFishburnUptoRow, standIns := [], harness := (true, "17fda6c531ee6f50f4d1dfdffc03f3dfb0c8a781cb14fa3d2f4dfecf0672066e"), looks := false }, kinds := [], alts := [], laidByText := true, laidKinds := [.data, .data], laidTests := true, laidLooks := .later }
def SpanFishburnUptoCardSaid : Prop := Claim7.holds Tryd.pinned (.plain (OpenSpec.upto spanFishburnSpec)) spanFishburnUptoCard

/-- THE SECOND FORM's CARD OF 'hasselaw.ConvexFamilies'. -/
def convexFamiliesUptoCard : Claim7 := { stood := { row := convexFamiliesUptoRow, standIns := [], harness := (true, "17fda6c531ee6f50f4d1dfdffc03f3dfb0c8a781cb14fa3d2f4dfecf0672066e"), looks := false }, kinds := [], alts := [], laidByText := true, laidKinds := [.data, .data], laidTests := true, laidLooks := .later }
def ConvexFamiliesUptoCardSaid : Prop := Claim7.holds Tryd.pinned (.plain (OpenSpec.upto convexFamiliesSpec)) convexFamiliesUptoCard

/-- THE SECOND FORM's CARD OF 'hasselaw.ConvexRows'. -/
def convexRowsUptoCard : Claim7 := { stood := { row := convexRowsUptoRow, standIns := [], harness := (true, "17fda6c531ee6f50f4d1dfdffc03f3dfb0c8a781cb14fa3d2f4dfecf0672066e"), looks := false }, kinds := [], alts := [], laidByText := true, laidKinds := [.data, .data], laidTests := true, laidLooks := .later }
def ConvexRowsUptoCardSaid : Prop := Claim7.holds Tryd.pinned (.plain (OpenSpec.upto convexRowsSpec)) convexRowsUptoCard
end Rows
end Go.Proofs.YtdkkalplgfhpdaaDoor
