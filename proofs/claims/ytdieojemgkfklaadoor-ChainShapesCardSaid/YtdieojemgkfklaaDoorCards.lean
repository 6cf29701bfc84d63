/-
  DERIVED. GIVEN WITH THE SEED: THE CARDS: each row of YtdieojemgkfklaaDoorRows.lean that lists a variable, with what it lists TIED to the program's text (the seventh form; the later family's looks); each row that meets fmt, with fmt's text TOLD by the authors' own Lean function (tested against real Go, not proved from fmt's source: count such statements apart). THE CARD IS WHAT COUNTS. Prove the row's statement (the work); the ties are given (YtdieojemgkfklaaDoorTie.lean); close each card by the builder's one call (the guide's Derived/Test/ToyasCard.lean, 'card_holds'). Laid BY PROGRAM, IN A SANDBOX (cutbox-door.mjs). By AI agents, Wed Nov 11 2026. No macro, syntax, notation, axiom, sorry.
-/
import Derived.Test.YtdieojemgkfklaaDoorRows
import GoSem.ClaimSeven
namespace Go.Proofs.YtdieojemgkfklaaDoor
namespace Rows

/-- THE TIED CARD OF 'hasselaw.LatticeBack'. -/
def latticeBackCard : Claim7 := { stood := { row := latticeBackRow, standIns := [], harness := (true, "8d91be662e0f3142b965f12173ea9cd32454384b0c6b8cbb6867e06da93f801a"), looks := false }, kinds := [], alts := [], laidByText := true, laidKinds := [.data, .data], laidTests := true, laidLooks := .later }
def LatticeBackCardSaid : Prop := Claim7.holds Tryd.pinned (.plain (OpenSpec.ofChange latticeBackSpec)) latticeBackCard

/-- THE TIED CARD OF 'hasselaw.LatticeBirkhoff'. -/
def latticeBirkhoffCard : Claim7 := { stood := { row := latticeBirkhoffRow, standIns := [], harness := (true, "8d91be662e0f3142b965f12173ea9cd32454384b0c6b8cbb6867e06da93f801a"), looks := false }, kinds := [], alts := [], laidByText := true, laidKinds := [.data, .data], laidTests := true, laidLooks := .later }
def LatticeBirkhoffCardSaid : Prop := Claim7.holds Tryd.pinned (.plain (OpenSpec.ofChange latticeBirkhoffSpec)) latticeBirkhoffCard

/-- THE TIED CARD OF 'hasselaw.CompleteKeeps'. -/
def completeKeepsCard : Claim7 := { stood := { row := completeKeepsRow, standIns := [], harness := (true, "8d91be662e0f3142b965f12173ea9cd32454384b0c6b8cbb6867e06da93f801a"), looks := false }, kinds := [], alts := [], laidByText := true, laidKinds := [.data, .data], laidTests := true, laidLooks := .later }
def CompleteKeepsCardSaid : Prop := Claim7.holds Tryd.pinned (.plain (OpenSpec.ofChange completeKeepsSpec)) completeKeepsCard

/-- THE TIED CARD OF 'hasselaw.CompleteDense'. -/
def completeDenseCard : Claim7 := { stood := { row := completeDenseRow, standIns := [], harness := (true, "8d91be662e0f3142b965f12173ea9cd32454384b0c6b8cbb6867e06da93f801a"), looks := false }, kinds := [], alts := [], laidByText := true, laidKinds := [.data, .data], laidTests := true, laidLooks := .later }
def CompleteDenseCardSaid : Prop := Claim7.holds Tryd.pinned (.plain (OpenSpec.ofChange completeDenseSpec)) completeDenseCard

/-- THE TIED CARD OF 'hasselaw.CompleteNothing'. -/
def completeNothingCard : Claim7 := { stood := { row := completeNothingRow, standIns := [], harness := (true, "8d91be662e0f3142b965f12173ea9cd32454384b0c6b8cbb6867e06da93f801a"), looks := false }, kinds := [], alts := [], laidByText := true, laidKinds := [.data, .data], laidTests := true, laidLooks := .later }
def CompleteNothingCardSaid : Prop := Claim7.holds Tryd.pinned (.plain (OpenSpec.ofChange completeNothingSpec)) completeNothingCard

/-- THE TIED CARD OF 'hasselaw.ChainWidest'. -/
def chainWidestCard : Claim7 := { stood := { row := chainWidestRow, standIns := [], harness := (true, "8d91be662e0f3142b965f12173ea9cd32454384b0c6b8cbb6867e06da93f801a"), looks := false }, kinds := [], alts := [], laidByText := true, laidKinds := [.data, .data], laidTests := true, laidLooks := .later }
def ChainWidestCardSaid : Prop := Claim7.holds Tryd.pinned (.plain (OpenSpec.ofChange chainWidestSpec)) chainWidestCard

/-- THE TIED CARD OF 'hasselaw.ChainParts'. -/
def chainPartsCard : Claim7 := { stood := { row := chainPartsRow, standIns := [], harness := (true, "8d91be662e0f3142b965f12173ea9cd32454384b0c6b8cbb6867e06da93f801a"), looks := false }, kinds := [], alts := [], laidByText := true, laidKinds := [.data, .data], laidTests := true, laidLooks := .later }
def ChainPartsCardSaid : Prop := Claim7.holds Tryd.pinned (.plain (OpenSpec.ofChange chainPartsSpec)) chainPartsCard

/-- THE TIED CARD OF 'hasselaw.ChainDilworth'. -/
def chainDilworthCard : Claim7 := { stood := { row := chainDilworthRow, standIns := [], harness := (true, "8d91be662e0f3142b965f12173ea9cd32454384b0c6b8cbb6867e06da93f801a"), looks := false }, kinds := [], alts := [], laidByText := true, laidKinds := [.data, .data], laidTests := true, laidLooks := .later }
def ChainDilworthCardSaid : Prop := Claim7.holds Tryd.pinned (.plain (OpenSpec.ofChange chainDilworthSpec)) chainDilworthCard

/-- THE TIED CARD OF 'hasselaw.ChainShapes'. -/
def chainShapesCard : Claim7 := { stood := { row := chainShapesRow, standIns := [], harness := (true, "8d91be662e0f3142b965f12173ea9cd32454384b0c6b8cbb6867e06da93f801a"), looks := false }, kinds := [], alts := [], laidByText := true, laidKinds := [.data, .data], laidTests := true, laidLooks := .later }
def ChainShapesCardSaid : Prop := Claim7.holds Tryd.pinned (.plain (OpenSpec.ofChange chainShapesSpec)) chainShapesCard

/-- THE TIED CARD OF 'hasselaw.FixCounts'. -/
def fixCountsCard : Claim7 := { stood := { row := fixCountsRow, standIns := [], harness := (true, "8d91be662e0f3142b965f12173ea9cd32454384b0c6b8cbb6867e06da93f801a"), looks := false }, kinds := [], alts := [], laidByText := true, laidKinds := [.data, .data], laidTests := true, laidLooks := .later }
def FixCountsCardSaid : Prop := Claim7.holds Tryd.pinned (.plain (OpenSpec.ofChange fixCountsSpec)) fixCountsCard

/-- THE TIED CARD OF 'hasselaw.FixCores'. -/
def fixCoresCard : Claim7 := { stood := { row := fixCoresRow, standIns := [], harness := (true, "8d91be662e0f3142b965f12173ea9cd32454384b0c6b8cbb6867e06da93f801a"), looks := false }, kinds := [], alts := [], laidByText := true, laidKinds := [.data, .data], laidTests := true, laidLooks := .later }
def FixCoresCardSaid : Prop := Claim7.holds Tryd.pinned (.plain (OpenSpec.ofChange fixCoresSpec)) fixCoresCard

/-- THE TIED CARD OF 'hasselaw.FixEnds'. -/
def fixEndsCard : Claim7 := { stood := { row := fixEndsRow, standIns := [], harness := (true, "8d91be662e0f3142b965f12173ea9cd32454384b0c6b8cbb6867e06da93f801a"), looks := false }, kinds := [], alts := [], laidByText := true, laidKinds := [.data, .data], laidTests := true, laidLooks := .later }
def FixEndsCardSaid : Prop := Claim7.holds Tryd.pinned (.plain (OpenSpec.ofChange fixEndsSpec)) fixEndsCard

/-- THE SECOND FORM's CARD OF 'hasselaw.LatticeBack'. -/
def latticeBackUptoCard : Claim7 := { stood := { row := latticeBackUptoRow, standIns := [], harness := (true, "8d91be662e0f3142b965f12173ea9cd32454384b0c6b8cbb6867e06da93f801a"), looks := false }, kinds := [], alts := [], laidByText := true, laidKinds := [.data, .data], laidTests := true, laidLooks := .later }
def LatticeBackUptoCardSaid : Prop := Claim7.holds Tryd.pinned (.plain (OpenSpec.upto latticeBackSpec)) latticeBackUptoCard

/-- THE SECOND FORM's CARD OF 'hasselaw.LatticeBirkhoff'. -/
def latticeBirkhoffUptoCard : Claim7 := { stood := { row := latticeBirkhoffUptoRow, standIns := [], harness := (true, "8d91be662e0f3142b965f12173ea9cd32454384b0c6b8cbb6867e06da93f801a"), looks := false }, kinds := [], alts := [], laidByText := true, laidKinds := [.data, .data], laidTests := true, laidLooks := .later }
def LatticeBirkhoffUptoCardSaid : Prop := Claim7.holds Tryd.pinned (.plain (OpenSpec.upto latticeBirkhoffSpec)) latticeBirkhoffUptoCard

/-- THE SECOND FORM's CARD OF 'hasselaw.CompleteKeeps'. -/
def completeKeepsUptoCard : Claim7 := { stood := { row := completeKeepsUptoRow, standIns := [], harness := (true, "8d91be662e0f3142b965f12173ea9cd32454384b0c6b8cbb6867e06da93f801a"), looks := false }, kinds := [], alts := [], laidByText := true, laidKinds := [.data, .data], laidTests := true, laidLooks := .later }
def CompleteKeepsUptoCardSaid : Prop := Claim7.holds Tryd.pinned (.plain (OpenSpec.upto completeKeepsSpec)) completeKeepsUptoCard

/-- THE SECOND FORM's CARD OF 'hasselaw.CompleteDense'. -/
def completeDenseUptoCard : Claim7 := { stood := { row := completeDenseUptoRow, standIns := [], harness := (true, "8d91be662e0f3142b965f12173ea9cd32454384b0c6b8cbb6867e06da93f801a"), looks := false }, kinds := [], alts := [], laidByText := true, laidKinds := [.data, .data], laidTests := true, laidLooks := .later }
def CompleteDenseUptoCardSaid : Prop := Claim7.holds Tryd.pinned (.plain (OpenSpec.upto completeDenseSpec)) completeDenseUptoCard

/-- THE SECOND FORM's CARD OF 'hasselaw.CompleteNothing'. -/
def completeNothingUptoCard : Claim7 := { stood := { row := completeNothingUptoRow, standIns := [], harness := (true, "8d91be662e0f3142b965f12173ea9cd32454384b0c6b8cbb6867e06da93f801a"), looks := false }, kinds := [], alts := [], laidByText := true, laidKinds := [.data, .data], laidTests := true, laidLooks := .later }
def CompleteNothingUptoCardSaid : Prop := Claim7.holds Tryd.pinned (.plain (OpenSpec.upto completeNothingSpec)) completeNothingUptoCard

/-- THE SECOND FORM's CARD OF 'hasselaw.ChainWidest'. -/
def chainWidestUptoCard : Claim7 := { stood := { row := chainWidestUptoRow, standIns := [], harness := (true, "8d91be662e0f3142b965f12173ea9cd32454384b0c6b8cbb6867e06da93f801a"), looks := false }, kinds := [], alts := [], laidByText := true, laidKinds := [.data, .data], laidTests := true, laidLooks := .later }
def ChainWidestUptoCardSaid : Prop := Claim7.holds Tryd.pinned (.plain (OpenSpec.upto chainWidestSpec)) chainWidestUptoCard

/-- THE SECOND FORM's CARD OF 'hasselaw.ChainParts'. -/
def chainPartsUptoCard : Claim7 := { stood := { row := chainPartsUptoRow, standIns := [], harness := (true, "8d91be662e0f3142b965f12173ea9cd32454384b0c6b8cbb6867e06da93f801a"), looks := false }, kinds := [], alts := [], laidByText := true, laidKinds := [.data, .data], laidTests := true, laidLooks := .later }
def ChainPartsUptoCardSaid : Prop := Claim7.holds Tryd.pinned (.plain (OpenSpec.upto chainPartsSpec)) chainPartsUptoCard

/-- THE SECOND FORM's CARD OF 'hasselaw.ChainDilworth'. -/
def chainDilworthUptoCard : Claim7 := { stood := { row := chainDilworthUptoRow, standIns := [], harness := (true, "8d91be662e0f3142b965f12173ea9cd32454384b0c6b8cbb6867e06da93f801a"), looks := false }, kinds := [], alts := [], laidByText := true, laidKinds := [.data, .data], laidTests := true, laidLooks := .later }
def ChainDilworthUptoCardSaid : Prop := Claim7.holds Tryd.pinned (.plain (OpenSpec.upto chainDilworthSpec)) chainDilworthUptoCard

/-- THE SECOND FORM's CARD OF 'hasselaw.ChainShapes'. -/
def chainShapesUptoCard : Claim7 := { stood := { row := chainShapesUptoRow, standIns := [], harness := (true, "8d91be662e0f3142b965f12173ea9cd32454384b0c6b8cbb6867e06da93f801a"), looks := false }, kinds := [], alts := [], laidByText := true, laidKinds := [.data, .data], laidTests := true, laidLooks := .later }
def ChainShapesUptoCardSaid : Prop := Claim7.holds Tryd.pinned (.plain (OpenSpec.upto chainShapesSpec)) chainShapesUptoCard

/-- THE SECOND FORM's CARD OF 'hasselaw.FixCounts'. -/
def fixCountsUptoCard : Claim7 := { stood := { row := fixCountsUptoRow, standIns := [], harness := (true, "8d91be662e0f3142b965f12173ea9cd32454384b0c6b8cbb6867e06da93f801a"), looks := false }, kinds := [], alts := [], laidByText := true, laidKinds := [.data, .data], laidTests := true, laidLooks := .later }
def FixCountsUptoCardSaid : Prop := Claim7.holds Tryd.pinned (.plain (OpenSpec.upto fixCountsSpec)) fixCountsUptoCard

/-- THE SECOND FORM's CARD OF 'hasselaw.FixCores'. -/
def fixCoresUptoCard : Claim7 := { stood := { row := fixCoresUptoRow, standIns := [], harness := (true, "8d91be662e0f3142b965f12173ea9cd32454384b0c6b8cbb6867e06da93f801a"), looks := false }, kinds := [], alts := [], laidByText := true, laidKinds := [.data, .data], laidTests := true, laidLooks := .later }
def FixCoresUptoCardSaid : Prop := Claim7.holds Tryd.pinned (.plain (OpenSpec.upto fixCoresSpec)) fixCoresUptoCard

/-- THE SECOND FORM's CARD OF 'hasselaw.FixEnds'. -/
def fixEndsUptoCard : Claim7 := { stood := { row := fixEndsUptoRow, standIns := [], harness := (true, "8d91be662e0f3142b965f12173ea9cd32454384b0c6b8cbb6867e06da93f801a"), looks := false }, kinds := [], alts := [], laidByText := true, laidKinds := [.data, .data], laidTests := true, laidLooks := .later }
def FixEndsUptoCardSaid : Prop := Claim7.holds Tryd.pinned (.plain (OpenSpec.upto fixEndsSpec)) fixEndsUptoCard
end Rows
end Go.Proofs.YtdieojemgkfklaaDoor
