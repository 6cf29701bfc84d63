/-
  DERIVED. GIVEN WITH THE SEED: THE CARDS: each row of YtjpjmcfhhjdkpaaDoorRows.lean that lists a variable, with what it lists TIED to the program's text (the seventh form; the later family's looks); each row that meets fmt, with fmt's text TOLD by the authors' own Lean function (tested against real Go, not proved from fmt's source: count such statements apart). THE CARD IS WHAT COUNTS. Prove the row's statement (the work); the ties are given (YtjpjmcfhhjdkpaaDoorTie.lean); close each card by the builder's one call (the guide's Derived/Test/ToyasCard.lean, 'card_holds'). Laid BY PROGRAM, IN A SANDBOX (cutbox-door.mjs). By AI agents, Wed Nov 11 2026. No macro, syntax, notation, axiom, sorry.
-/
import Derived.Test.YtjpjmcfhhjdkpaaDoorRows
import GoSem.ClaimSeven
namespace Go.Proofs.YtjpjmcfhhjdkpaaDoor
namespace Rows

/-- THE TIED CARD OF 'hasselaw.LatticeChecks'. -/
def latticeChecksCard : Claim7 := { stood := { row := latticeChecksRow, standIns := [], harness := (true, "43b314b9a8f3a566c51ce8d38785e04d4fc6bf18f4b1d8dd3dc3a06a00ec9a83"), looks := false }, kinds := [], alts := [], laidByText := true, laidKinds := [.data, .data], laidTests := true, laidLooks := .later }
def LatticeChecksCardSaid : Prop := Claim7.holds Tryd.pinned (.plain (OpenSpec.ofChange latticeChecksSpec)) latticeChecksCard

/-- THE TIED CARD OF 'hasselaw.LatticeTables'. -/
def latticeTablesCard : Claim7 := { stood := { row := latticeTablesRow, standIns := [], harness := (true, "43b314b9a8f3a566c51ce8d38785e04d4fc6bf18f4b1d8dd3dc3a06a00ec9a83"), looks := false }, kinds := [], alts := [], laidByText := true, laidKinds := [.data, .data], laidTests := true, laidLooks := .later }
def LatticeTablesCardSaid : Prop := Claim7.holds Tryd.pinned (.plain (OpenSpec.ofChange latticeTablesSpec)) latticeTablesCard

/-- THE TIED CARD OF 'hasselaw.LatticeDistributive'. -/
def latticeDistributiveCard : Claim7 := { stood := { row := latticeDistributiveRow, standIns := [], harness := (true, "43b314b9a8f3a566c51ce8d38785e04d4fc6bf18f4b1d8dd3dc3a06a00ec9a83"), looks := false }, kinds := [], alts := [], laidByText := true, laidKinds := [.data, .data], laidTests := true, laidLooks := .later }
def LatticeDistributiveCardSaid : Prop := Claim7.holds Tryd.pinned (.plain (OpenSpec.ofChange latticeDistributiveSpec)) latticeDistributiveCard

/-- THE TIED CARD OF 'hasselaw.LatticeModular'. -/
def latticeModularCard : Claim7 := { stood := { row := latticeModularRow, standIns := [], harness := (true, "43b314b9a8f3a566c51ce8d38785e04d4fc6bf18f4b1d8dd3dc3a06a00ec9a83"), looks := false }, kinds := [], alts := [], laidByText := true, laidKinds := [.data, .data], laidTests := true, laidLooks := .later }
def LatticeModularCardSaid : Prop := Claim7.holds Tryd.pinned (.plain (OpenSpec.ofChange latticeModularSpec)) latticeModularCard

/-- THE TIED CARD OF 'hasselaw.LatticePentagon'. -/
def latticePentagonCard : Claim7 := { stood := { row := latticePentagonRow, standIns := [], harness := (true, "43b314b9a8f3a566c51ce8d38785e04d4fc6bf18f4b1d8dd3dc3a06a00ec9a83"), looks := false }, kinds := [], alts := [], laidByText := true, laidKinds := [.data, .data], laidTests := true, laidLooks := .later }
def LatticePentagonCardSaid : Prop := Claim7.holds Tryd.pinned (.plain (OpenSpec.ofChange latticePentagonSpec)) latticePentagonCard

/-- THE TIED CARD OF 'hasselaw.LatticeDiamond'. -/
def latticeDiamondCard : Claim7 := { stood := { row := latticeDiamondRow, standIns := [], harness := (true, "43b314b9a8f3a566c51ce8d38785e04d4fc6bf18f4b1d8dd3dc3a06a00ec9a83"), looks := false }, kinds := [], alts := [], laidByText := true, laidKinds := [.data, .data], laidTests := true, laidLooks := .later }
def LatticeDiamondCardSaid : Prop := Claim7.holds Tryd.pinned (.plain (OpenSpec.ofChange latticeDiamondSpec)) latticeDiamondCard

/-- THE TIED CARD OF 'hasselaw.LatticeDedekind'. -/
def latticeDedekindCard : Claim7 := { stood := { row := latticeDedekindRow, standIns := [], harness := (true, "43b314b9a8f3a566c51ce8d38785e04d4fc6bf18f4b1d8dd3dc3a06a00ec9a83"), looks := false }, kinds := [], alts := [], laidByText := true, laidKinds := [.data, .data], laidTests := true, laidLooks := .later }
def LatticeDedekindCardSaid : Prop := Claim7.holds Tryd.pinned (.plain (OpenSpec.ofChange latticeDedekindSpec)) latticeDedekindCard

/-- THE TIED CARD OF 'hasselaw.LatticeOthers'. -/
def latticeOthersCard : Claim7 := { stood := { row := latticeOthersRow, standIns := [], harness := (true, "43b314b9a8f3a566c51ce8d38785e04d4fc6bf18f4b1d8dd3dc3a06a00ec9a83"), looks := false }, kinds := [], alts := [], laidByText := true, laidKinds := [.data, .data], laidTests := true, laidLooks := .later }
def LatticeOthersCardSaid : Prop := Claim7.holds Tryd.pinned (.plain (OpenSpec.ofChange latticeOthersSpec)) latticeOthersCard

/-- THE TIED CARD OF 'hasselaw.LatticeOne'. -/
def latticeOneCard : Claim7 := { stood := { row := latticeOneRow, standIns := [], harness := (true, "43b314b9a8f3a566c51ce8d38785e04d4fc6bf18f4b1d8dd3dc3a06a00ec9a83"), looks := false }, kinds := [], alts := [], laidByText := true, laidKinds := [.data, .data], laidTests := true, laidLooks := .later }
def LatticeOneCardSaid : Prop := Claim7.holds Tryd.pinned (.plain (OpenSpec.ofChange latticeOneSpec)) latticeOneCard

/-- THE TIED CARD OF 'hasselaw.LatticeOrders'. -/
def latticeOrdersCard : Claim7 := { stood := { row := latticeOrdersRow, standIns := [], harness := (true, "43b314b9a8f3a566c51ce8d38785e04d4fc6bf18f4b1d8dd3dc3a06a00ec9a83"), looks := false }, kinds := [], alts := [], laidByText := true, laidKinds := [.data, .data], laidTests := true, laidLooks := .later }
def LatticeOrdersCardSaid : Prop := Claim7.holds Tryd.pinned (.plain (OpenSpec.ofChange latticeOrdersSpec)) latticeOrdersCard

/-- THE TIED CARD OF 'hasselaw.LatticeBirkhoff'. -/
def latticeBirkhoffCard : Claim7 := { stood := { row := latticeBirkhoffRow, standIns := [], harness := (true, "43b314b9a8f3a566c51ce8d38785e04d4fc6bf18f4b1d8dd3dc3a06a00ec9a83"), looks := false }, kinds := [], alts := [], laidByText := true, laidKinds := [.data, .data], laidTests := true, laidLooks := .later }
def LatticeBirkhoffCardSaid : Prop := Claim7.holds Tryd.pinned (.plain (OpenSpec.ofChange latticeBirkhoffSpec)) latticeBirkhoffCard

/-- THE TIED CARD OF 'hasselaw.LatticeBack'. -/
def latticeBackCard : Claim7 := { stood := { row := latticeBackRow, standIns := [], harness := (true, "43b314b9a8f3a566c51ce8d38785e04d4fc6bf18f4b1d8dd3dc3a06a00ec9a83"), looks := false }, kinds := [], alts := [], laidByText := true, laidKinds := [.data, .data], laidTests := true, laidLooks := .later }
def LatticeBackCardSaid : Prop := Claim7.holds Tryd.pinned (.plain (OpenSpec.ofChange latticeBackSpec)) latticeBackCard

/-- THE SECOND FORM's CARD OF 'hasselaw.LatticeChecks'. -/
def latticeChecksUptoCard : Claim7 := { stood := { row := latticeChecksUptoRow, standIns := [], harness := (true, "43b314b9a8f3a566c51ce8d38785e04d4fc6bf18f4b1d8dd3dc3a06a00ec9a83"), looks := false }, kinds := [], alts := [], laidByText := true, laidKinds := [.data, .data], laidTests := true, laidLooks := .later }
def LatticeChecksUptoCardSaid : Prop := Claim7.holds Tryd.pinned (.plain (OpenSpec.upto latticeChecksSpec)) latticeChecksUptoCard

/-- THE SECOND FORM's CARD OF 'hasselaw.LatticeTables'. -/
def latticeTablesUptoCard : Claim7 := { stood := { row := latticeTablesUptoRow, standIns := [], harness := (true, "43b314b9a8f3a566c51ce8d38785e04d4fc6bf18f4b1d8dd3dc3a06a00ec9a83"), looks := false }, kinds := [], alts := [], laidByText := true, laidKinds := [.data, .data], laidTests := true, laidLooks := .later }
def LatticeTablesUptoCardSaid : Prop := Claim7.holds Tryd.pinned (.plain (OpenSpec.upto latticeTablesSpec)) latticeTablesUptoCard

/-- THE SECOND FORM's CARD OF 'hasselaw.LatticeDistributive'. -/
def latticeDistributiveUptoCard : Claim7 := { stood := { row := latticeDistributiveUptoRow, standIns := [], harness := (true, "43b314b9a8f3a566c51ce8d38785e04d4fc6bf18f4b1d8dd3dc3a06a00ec9a83"), looks := false }, kinds := [], alts := [], laidByText := true, laidKinds := [.data, .data], laidTests := true, laidLooks := .later }
def LatticeDistributiveUptoCardSaid : Prop := Claim7.holds Tryd.pinned (.plain (OpenSpec.upto latticeDistributiveSpec)) latticeDistributiveUptoCard

/-- THE SECOND FORM's CARD OF 'hasselaw.LatticeModular'. -/
def latticeModularUptoCard : Claim7 := { stood := { row := latticeModularUptoRow, standIns := [], harness := (true, "43b314b9a8f3a566c51ce8d38785e04d4fc6bf18f4b1d8dd3dc3a06a00ec9a83"), looks := false }, kinds := [], alts := [], laidByText := true, laidKinds := [.data, .data], laidTests := true, laidLooks := .later }
def LatticeModularUptoCardSaid : Prop := Claim7.holds Tryd.pinned (.plain (OpenSpec.upto latticeModularSpec)) latticeModularUptoCard

/-- THE SECOND FORM's CARD OF 'hasselaw.LatticePentagon'. -/
def latticePentagonUptoCard : Claim7 := { stood := { row := latticePentagonUptoRow, standIns := [], harness := (true, "43b314b9a8f3a566c51ce8d38785e04d4fc6bf18f4b1d8dd3dc3a06a00ec9a83"), looks := false }, kinds := [], alts := [], laidByText := true, laidKinds := [.data, .data], laidTests := true, laidLooks := .later }
def LatticePentagonUptoCardSaid : Prop := Claim7.holds Tryd.pinned (.plain (OpenSpec.upto latticePentagonSpec)) latticePentagonUptoCard

/-- THE SECOND FORM's CARD OF 'hasselaw.LatticeDiamond'. -/
def latticeDiamondUptoCard : Claim7 := { stood := { row := latticeDiamondUptoRow, standIns := [], harness := (true, "43b314b9a8f3a566c51ce8d38785e04d4fc6bf18f4b1d8dd3dc3a06a00ec9a83"), looks := false }, kinds := [], alts := [], laidByText := true, laidKinds := [.data, .data], laidTests := true, laidLooks := .later }
def LatticeDiamondUptoCardSaid : Prop := Claim7.holds Tryd.pinned (.plain (OpenSpec.upto latticeDiamondSpec)) latticeDiamondUptoCard

/-- THE SECOND FORM's CARD OF 'hasselaw.LatticeDedekind'. -/
def latticeDedekindUptoCard : Claim7 := { stood := { row := latticeDedekindUptoRow, standIns := [], harness := (true, "43b314b9a8f3a566c51ce8d38785e04d4fc6bf18f4b1d8dd3dc3a06a00ec9a83"), looks := false }, kinds := [], alts := [], laidByText := true, laidKinds := [.data, .data], laidTests := true, laidLooks := .later }
def LatticeDedekindUptoCardSaid : Prop := Claim7.holds Tryd.pinned (.plain (OpenSpec.upto latticeDedekindSpec)) latticeDedekindUptoCard

/-- THE SECOND FORM's CARD OF 'hasselaw.LatticeOthers'. -/
def latticeOthersUptoCard : Claim7 := { stood := { row := latticeOthersUptoRow, standIns := [], harness := (true, "43b314b9a8f3a566c51ce8d38785e04d4fc6bf18f4b1d8dd3dc3a06a00ec9a83"), looks := false }, kinds := [], alts := [], laidByText := true, laidKinds := [.data, .data], laidTests := true, laidLooks := .later }
def LatticeOthersUptoCardSaid : Prop := Claim7.holds Tryd.pinned (.plain (OpenSpec.upto latticeOthersSpec)) latticeOthersUptoCard

/-- THE SECOND FORM's CARD OF 'hasselaw.LatticeOne'. -/
def latticeOneUptoCard : Claim7 := { stood := { row := latticeOneUptoRow, standIns := [], harness := (true, "43b314b9a8f3a566c51ce8d38785e04d4fc6bf18f4b1d8dd3dc3a06a00ec9a83"), looks := false }, kinds := [], alts := [], laidByText := true, laidKinds := [.data, .data], laidTests := true, laidLooks := .later }
def LatticeOneUptoCardSaid : Prop := Claim7.holds Tryd.pinned (.plain (OpenSpec.upto latticeOneSpec)) latticeOneUptoCard

/-- THE SECOND FORM's CARD OF 'hasselaw.LatticeOrders'. -/
def latticeOrdersUptoCard : Claim7 := { stood := { row := latticeOrdersUptoRow, standIns := [], harness := (true, "43b314b9a8f3a566c51ce8d38785e04d4fc6bf18f4b1d8dd3dc3a06a00ec9a83"), looks := false }, kinds := [], alts := [], laidByText := true, laidKinds := [.data, .data], laidTests := true, laidLooks := .later }
def LatticeOrdersUptoCardSaid : Prop := Claim7.holds Tryd.pinned (.plain (OpenSpec.upto latticeOrdersSpec)) latticeOrdersUptoCard

/-- THE SECOND FORM's CARD OF 'hasselaw.LatticeBirkhoff'. -/
def latticeBirkhoffUptoCard : Claim7 := { stood := { row := latticeBirkhoffUptoRow, standIns := [], harness := (true, "43b314b9a8f3a566c51ce8d38785e04d4fc6bf18f4b1d8dd3dc3a06a00ec9a83"), looks := false }, kinds := [], alts := [], laidByText := true, laidKinds := [.data, .data], laidTests := true, laidLooks := .later }
def LatticeBirkhoffUptoCardSaid : Prop := Claim7.holds Tryd.pinned (.plain (OpenSpec.upto latticeBirkhoffSpec)) latticeBirkhoffUptoCard

/-- THE SECOND FORM's CARD OF 'hasselaw.LatticeBack'. -/
def latticeBackUptoCard : Claim7 := { stood := { row := latticeBackUptoRow, standIns := [], harness := (true, "43b314b9a8f3a566c51ce8d38785e04d4fc6bf18f4b1d8dd3dc3a06a00ec9a83"), looks := false }, kinds := [], alts := [], laidByText := true, laidKinds := [.data, .data], laidTests := true, laidLooks := .later }
def LatticeBackUptoCardSaid : Prop := Claim7.holds Tryd.pinned (.plain (OpenSpec.upto latticeBackSpec)) latticeBackUptoCard
end Rows
end Go.Proofs.YtjpjmcfhhjdkpaaDoor
