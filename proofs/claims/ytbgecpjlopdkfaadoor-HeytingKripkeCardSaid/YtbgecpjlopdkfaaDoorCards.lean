/-
  DERIVED. GIVEN WITH THE SEED: THE CARDS: each row of YtbgecpjlopdkfaaDoorRows.lean that lists a variable, with what it lists TIED to the program's text (the seventh form; the later family's looks); each row that meets fmt, with fmt's text TOLD by the authors' own Lean function (tested against real Go, not proved from fmt's source: count such statements apart). THE CARD IS WHAT COUNTS. Prove the row's statement (the work); the ties are given (YtbgecpjlopdkfaaDoorTie.lean); close each card by the builder's one call (the guide's Derived/Test/ToyasCard.lean, 'card_holds'). Laid BY PROGRAM, IN A SANDBOX (cutbox-door.mjs). By AI agents, Wed Nov 11 2026. No macro, syntax, notation, axiom, sorry.
-/
import Derived.Test.YtbgecpjlopdkfaaDoorRows
import GoSem.ClaimSeven
namespace Go.Proofs.YtbgecpjlopdkfaaDoor
namespace Rows

/-- THE TIED CARD OF 'hasselaw.SeriesZigs'. -/
def seriesZigsCard : Claim7 := { stood := { row := seriesZigsRow, standIns := [], harness := (true, "f51895cc30d3b5502e42c5965200da0814f62ff448adcac35df1d396ea5e06af"), looks := false }, kinds := [], alts := [], laidByText := true, laidKinds := [.data, .data], laidTests := true, laidLooks := .later }
def SeriesZigsCardSaid : Prop := Claim7.holds Tryd.pinned (.plain (OpenSpec.ofChange seriesZigsSpec)) seriesZigsCard

/-- THE TIED CARD OF 'hasselaw.SeriesSplits'. -/
def seriesSplitsCard : Claim7 := { stood := { row := seriesSplitsRow, standIns := [], harness := (true, "f51895cc30d3b5502e42c5965200da0814f62ff448adcac35df1d396ea5e06af"), looks := false }, kinds := [], alts := [], laidByText := true, laidKinds := [.data, .data], laidTests := true, laidLooks := .later }
def SeriesSplitsCardSaid : Prop := Claim7.holds Tryd.pinned (.plain (OpenSpec.ofChange seriesSplitsSpec)) seriesSplitsCard

/-- THE TIED CARD OF 'hasselaw.SeriesValdes'. -/
def seriesValdesCard : Claim7 := { stood := { row := seriesValdesRow, standIns := [], harness := (true, "f51895cc30d3b5502e42c5965200da0814f62ff448adcac35df1d396ea5e06af"), looks := false }, kinds := [], alts := [], laidByText := true, laidKinds := [.data, .data], laidTests := true, laidLooks := .later }
def SeriesValdesCardSaid : Prop := Claim7.holds Tryd.pinned (.plain (OpenSpec.ofChange seriesValdesSpec)) seriesValdesCard

/-- THE TIED CARD OF 'hasselaw.SeriesTurns'. -/
def seriesTurnsCard : Claim7 := { stood := { row := seriesTurnsRow, standIns := [], harness := (true, "f51895cc30d3b5502e42c5965200da0814f62ff448adcac35df1d396ea5e06af"), looks := false }, kinds := [], alts := [], laidByText := true, laidKinds := [.data, .data], laidTests := true, laidLooks := .later }
def SeriesTurnsCardSaid : Prop := Claim7.holds Tryd.pinned (.plain (OpenSpec.ofChange seriesTurnsSpec)) seriesTurnsCard

/-- THE TIED CARD OF 'hasselaw.SeriesRows'. -/
def seriesRowsCard : Claim7 := { stood := { row := seriesRowsRow, standIns := [], harness := (true, "f51895cc30d3b5502e42c5965200da0814f62ff448adcac35df1d396ea5e06af"), looks := false }, kinds := [], alts := [], laidByText := true, laidKinds := [.data, .data], laidTests := true, laidLooks := .later }
def SeriesRowsCardSaid : Prop := Claim7.holds Tryd.pinned (.plain (OpenSpec.ofChange seriesRowsSpec)) seriesRowsCard

/-- THE TIED CARD OF 'hasselaw.SeriesBuilds'. -/
def seriesBuildsCard : Claim7 := { stood := { row := seriesBuildsRow, standIns := [], harness := (true, "f51895cc30d3b5502e42c5965200da0814f62ff448adcac35df1d396ea5e06af"), looks := false }, kinds := [], alts := [], laidByText := true, laidKinds := [.data, .data], laidTests := true, laidLooks := .later }
def SeriesBuildsCardSaid : Prop := Claim7.holds Tryd.pinned (.plain (OpenSpec.ofChange seriesBuildsSpec)) seriesBuildsCard

/-- THE TIED CARD OF 'hasselaw.HeytingChecks'. -/
def heytingChecksCard : Claim7 := { stood := { row := heytingChecksRow, standIns := [], harness := (true, "f51895cc30d3b5502e42c5965200da0814f62ff448adcac35df1d396ea5e06af"), looks := false }, kinds := [], alts := [], laidByText := true, laidKinds := [.data, .data], laidTests := true, laidLooks := .later }
def HeytingChecksCardSaid : Prop := Claim7.holds Tryd.pinned (.plain (OpenSpec.ofChange heytingChecksSpec)) heytingChecksCard

/-- THE TIED CARD OF 'hasselaw.HeytingForces'. -/
def heytingForcesCard : Claim7 := { stood := { row := heytingForcesRow, standIns := [], harness := (true, "f51895cc30d3b5502e42c5965200da0814f62ff448adcac35df1d396ea5e06af"), looks := false }, kinds := [], alts := [], laidByText := true, laidKinds := [.data, .data], laidTests := true, laidLooks := .later }
def HeytingForcesCardSaid : Prop := Claim7.holds Tryd.pinned (.plain (OpenSpec.ofChange heytingForcesSpec)) heytingForcesCard

/-- THE TIED CARD OF 'hasselaw.HeytingValues'. -/
def heytingValuesCard : Claim7 := { stood := { row := heytingValuesRow, standIns := [], harness := (true, "f51895cc30d3b5502e42c5965200da0814f62ff448adcac35df1d396ea5e06af"), looks := false }, kinds := [], alts := [], laidByText := true, laidKinds := [.data, .data], laidTests := true, laidLooks := .later }
def HeytingValuesCardSaid : Prop := Claim7.holds Tryd.pinned (.plain (OpenSpec.ofChange heytingValuesSpec)) heytingValuesCard

/-- THE TIED CARD OF 'hasselaw.HeytingValid'. -/
def heytingValidCard : Claim7 := { stood := { row := heytingValidRow, standIns := [], harness := (true, "f51895cc30d3b5502e42c5965200da0814f62ff448adcac35df1d396ea5e06af"), looks := false }, kinds := [], alts := [], laidByText := true, laidKinds := [.data, .data], laidTests := true, laidLooks := .later }
def HeytingValidCardSaid : Prop := Claim7.holds Tryd.pinned (.plain (OpenSpec.ofChange heytingValidSpec)) heytingValidCard

/-- THE TIED CARD OF 'hasselaw.HeytingGlivenko'. -/
def heytingGlivenkoCard : Claim7 := { stood := { row := heytingGlivenkoRow, standIns := [], harness := (true, "f51895cc30d3b5502e42c5965200da0814f62ff448adcac35df1d396ea5e06af"), looks := false }, kinds := [], alts := [], laidByText := true, laidKinds := [.data, .data], laidTests := true, laidLooks := .later }
def HeytingGlivenkoCardSaid : Prop := Claim7.holds Tryd.pinned (.plain (OpenSpec.ofChange heytingGlivenkoSpec)) heytingGlivenkoCard

/-- THE TIED CARD OF 'hasselaw.HeytingKripke'. -/
def heytingKripkeCard : Claim7 := { stood := { row := heytingKripkeRow, standIns := [], harness := (true, "f51895cc30d3b5502e42c5965200da0814f62ff448adcac35df1d396ea5e06af"), looks := false }, kinds := [], alts := [], laidByText := true, laidKinds := [.data, .data], laidTests := true, laidLooks := .later }
def HeytingKripkeCardSaid : Prop := Claim7.holds Tryd.pinned (.plain (OpenSpec.ofChange heytingKripkeSpec)) heytingKripkeCard

/-- THE SECOND FORM's CARD OF 'hasselaw.SeriesZigs'. -/
def seriesZigsUptoCard : Claim7 := { stood := { row := seriesZigsUptoRow, standIns := [], harness := (true, "f51895cc30d3b5502e42c5965200da0814f62ff448adcac35df1d396ea5e06af"), looks := false }, kinds := [], alts := [], laidByText := true, laidKinds := [.data, .data], laidTests := true, laidLooks := .later }
def SeriesZigsUptoCardSaid : Prop := Claim7.holds Tryd.pinned (.plain (OpenSpec.upto seriesZigsSpec)) seriesZigsUptoCard

/-- THE SECOND FORM's CARD OF 'hasselaw.SeriesSplits'. -/
def seriesSplitsUptoCard : Claim7 := { stood := { row := seriesSplitsUptoRow, standIns := [], harness := (true, "f51895cc30d3b5502e42c5965200da0814f62ff448adcac35df1d396ea5e06af"), looks := false }, kinds := [], alts := [], laidByText := true, laidKinds := [.data, .data], laidTests := true, laidLooks := .later }
def SeriesSplitsUptoCardSaid : Prop := Claim7.holds Tryd.pinned (.plain (OpenSpec.upto seriesSplitsSpec)) seriesSplitsUptoCard

/-- THE SECOND FORM's CARD OF 'hasselaw.SeriesValdes'. -/
def seriesValdesUptoCard : Claim7 := { stood := { row := seriesValdesUptoRow, standIns := [], harness := (true, "f51895cc30d3b5502e42c5965200da0814f62ff448adcac35df1d396ea5e06af"), looks := false }, kinds := [], alts := [], laidByText := true, laidKinds := [.data, .data], laidTests := true, laidLooks := .later }
def SeriesValdesUptoCardSaid : Prop := Claim7.holds Tryd.pinned (.plain (OpenSpec.upto seriesValdesSpec)) seriesValdesUptoCard

/-- THE SECOND FORM's CARD OF 'hasselaw.SeriesTurns'. -/
def seriesTurnsUptoCard : Claim7 := { stood := { row := seriesTurnsUptoRow, standIns := [], harness := (true, "f51895cc30d3b5502e42c5965200da0814f62ff448adcac35df1d396ea5e06af"), looks := false }, kinds := [], alts := [], laidByText := true, laidKinds := [.data, .data], laidTests := true, laidLooks := .later }
def SeriesTurnsUptoCardSaid : Prop := Claim7.holds Tryd.pinned (.plain (OpenSpec.upto seriesTurnsSpec)) seriesTurnsUptoCard

/-- THE SECOND FORM's CARD OF 'hasselaw.SeriesRows'. -/
def seriesRowsUptoCard : Claim7 := { stood := { row := seriesRowsUptoRow, standIns := [], harness := (true, "f51895cc30d3b5502e42c5965200da0814f62ff448adcac35df1d396ea5e06af"), looks := false }, kinds := [], alts := [], laidByText := true, laidKinds := [.data, .data], laidTests := true, laidLooks := .later }
def SeriesRowsUptoCardSaid : Prop := Claim7.holds Tryd.pinned (.plain (OpenSpec.upto seriesRowsSpec)) seriesRowsUptoCard

/-- THE SECOND FORM's CARD OF 'hasselaw.SeriesBuilds'. -/
def seriesBuildsUptoCard : Claim7 := { stood := { row := seriesBuildsUptoRow, standIns := [], harness := (true, "f51895cc30d3b5502e42c5965200da0814f62ff448adcac35df1d396ea5e06af"), looks := false }, kinds := [], alts := [], laidByText := true, laidKinds := [.data, .data], laidTests := true, laidLooks := .later }
def SeriesBuildsUptoCardSaid : Prop := Claim7.holds Tryd.pinned (.plain (OpenSpec.upto seriesBuildsSpec)) seriesBuildsUptoCard

/-- THE SECOND FORM's CARD OF 'hasselaw.HeytingChecks'. -/
def heytingChecksUptoCard : Claim7 := { stood := { row := heytingChecksUptoRow, standIns := [], harness := (true, "f51895cc30d3b5502e42c5965200da0814f62ff448adcac35df1d396ea5e06af"), looks := false }, kinds := [], alts := [], laidByText := true, laidKinds := [.data, .data], laidTests := true, laidLooks := .later }
def HeytingChecksUptoCardSaid : Prop := Claim7.holds Tryd.pinned (.plain (OpenSpec.upto heytingChecksSpec)) heytingChecksUptoCard

/-- THE SECOND FORM's CARD OF 'hasselaw.HeytingForces'. -/
def heytingForcesUptoCard : Claim7 := { stood := { row := heytingForcesUptoRow, standIns := [], harness := (true, "f51895cc30d3b5502e42c5965200da0814f62ff448adcac35df1d396ea5e06af"), looks := false }, kinds := [], alts := [], laidByText := true, laidKinds := [.data, .data], laidTests := true, laidLooks := .later }
def HeytingForcesUptoCardSaid : Prop := Claim7.holds Tryd.pinned (.plain (OpenSpec.upto heytingForcesSpec)) heytingForcesUptoCard

/-- THE SECOND FORM's CARD OF 'hasselaw.HeytingValues'. -/
def heytingValuesUptoCard : Claim7 := { stood := { row := heytingValuesUptoRow, standIns := [], harness := (true, "f51895cc30d3b5502e42c5965200da0814f62ff448adcac35df1d396ea5e06af"), looks := false }, kinds := [], alts := [], laidByText := true, laidKinds := [.data, .data], laidTests := true, laidLooks := .later }
def HeytingValuesUptoCardSaid : Prop := Claim7.holds Tryd.pinned (.plain (OpenSpec.upto heytingValuesSpec)) heytingValuesUptoCard

/-- THE SECOND FORM's CARD OF 'hasselaw.HeytingValid'. -/
def heytingValidUptoCard : Claim7 := { stood := { row := heytingValidUptoRow, standIns := [], harness := (true, "f51895cc30d3b5502e42c5965200da0814f62ff448adcac35df1d396ea5e06af"), looks := false }, kinds := [], alts := [], laidByText := true, laidKinds := [.data, .data], laidTests := true, laidLooks := .later }
def HeytingValidUptoCardSaid : Prop := Claim7.holds Tryd.pinned (.plain (OpenSpec.upto heytingValidSpec)) heytingValidUptoCard

/-- THE SECOND FORM's CARD OF 'hasselaw.HeytingGlivenko'. -/
def heytingGlivenkoUptoCard : Claim7 := { stood := { row := heytingGlivenkoUptoRow, standIns := [], harness := (true, "f51895cc30d3b5502e42c5965200da0814f62ff448adcac35df1d396ea5e06af"), looks := false }, kinds := [], alts := [], laidByText := true, laidKinds := [.data, .data], laidTests := true, laidLooks := .later }
def HeytingGlivenkoUptoCardSaid : Prop := Claim7.holds Tryd.pinned (.plain (OpenSpec.upto heytingGlivenkoSpec)) heytingGlivenkoUptoCard

/-- THE SECOND FORM's CARD OF 'hasselaw.HeytingKripke'. -/
def heytingKripkeUptoCard : Claim7 := { stood := { row := heytingKripkeUptoRow, standIns := [], harness := (true, "f51895cc30d3b5502e42c5965200da0814f62ff448adcac35df1d396ea5e06af"), looks := false }, kinds := [], alts := [], laidByText := true, laidKinds := [.data, .data], laidTests := true, laidLooks := .later }
def HeytingKripkeUptoCardSaid : Prop := Claim7.holds Tryd.pinned (.plain (OpenSpec.upto heytingKripkeSpec)) heytingKripkeUptoCard
end Rows
end Go.Proofs.YtbgecpjlopdkfaaDoor
