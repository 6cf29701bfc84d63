/-
  DERIVED. GIVEN WITH THE SEED: THE CARDS: each row of YtfoipkcdmbnbeaaDoorRows.lean that lists a variable, with what it lists TIED to the program's text (the seventh form; the later family's looks); each row that meets fmt, with fmt's text TOLD by the authors' own Lean function (tested against real Go, not proved from fmt's source: count such statements apart). THE CARD IS WHAT COUNTS. Prove the row's statement (the work); the ties are given (YtfoipkcdmbnbeaaDoorTie.lean); close each card by the builder's one call (the guide's Derived/Test/ToyasCard.lean, 'card_holds'). Laid BY PROGRAM, IN A SANDBOX (cutbox-door.mjs). By AI agents, Wed Nov 11 2026. No macro, syntax, notation, axiom, sorry.
-/
import Derived.Test.YtfoipkcdmbnbeaaDoorRows
import GoSem.ClaimSeven
namespace Go.Proofs.YtfoipkcdmbnbeaaDoor
namespace Rows

/-- THE TIED CARD OF 'hasselaw.OrderParts'. -/
def orderPartsCard : Claim7 := { stood := { row := orderPartsRow, standIns := [], harness := (true, "e378a0fd7e5443dc0b7d51aff89d703692347ef53d80b19aea74967af2449546"), looks := false }, kinds := [], alts := [], laidByText := true, laidKinds := [.data, .data], laidTests := true, laidLooks := .later }
def OrderPartsCardSaid : Prop := Claim7.holds Tryd.pinned (.plain (OpenSpec.ofChange orderPartsSpec)) orderPartsCard

/-- THE TIED CARD OF 'hasselaw.CompleteBounds'. -/
def completeBoundsCard : Claim7 := { stood := { row := completeBoundsRow, standIns := [], harness := (true, "e378a0fd7e5443dc0b7d51aff89d703692347ef53d80b19aea74967af2449546"), looks := false }, kinds := [], alts := [], laidByText := true, laidKinds := [.data, .data], laidTests := true, laidLooks := .later }
def CompleteBoundsCardSaid : Prop := Claim7.holds Tryd.pinned (.plain (OpenSpec.ofChange completeBoundsSpec)) completeBoundsCard

/-- THE TIED CARD OF 'hasselaw.CompleteCuts'. -/
def completeCutsCard : Claim7 := { stood := { row := completeCutsRow, standIns := [], harness := (true, "e378a0fd7e5443dc0b7d51aff89d703692347ef53d80b19aea74967af2449546"), looks := false }, kinds := [], alts := [], laidByText := true, laidKinds := [.data, .data], laidTests := true, laidLooks := .later }
def CompleteCutsCardSaid : Prop := Claim7.holds Tryd.pinned (.plain (OpenSpec.ofChange completeCutsSpec)) completeCutsCard

/-- THE TIED CARD OF 'hasselaw.CompleteFills'. -/
def completeFillsCard : Claim7 := { stood := { row := completeFillsRow, standIns := [], harness := (true, "e378a0fd7e5443dc0b7d51aff89d703692347ef53d80b19aea74967af2449546"), looks := false }, kinds := [], alts := [], laidByText := true, laidKinds := [.data, .data], laidTests := true, laidLooks := .later }
def CompleteFillsCardSaid : Prop := Claim7.holds Tryd.pinned (.plain (OpenSpec.ofChange completeFillsSpec)) completeFillsCard

/-- THE TIED CARD OF 'hasselaw.ConceptCuts'. -/
def conceptCutsCard : Claim7 := { stood := { row := conceptCutsRow, standIns := [], harness := (true, "e378a0fd7e5443dc0b7d51aff89d703692347ef53d80b19aea74967af2449546"), looks := false }, kinds := [], alts := [], laidByText := true, laidKinds := [.data, .data], laidTests := true, laidLooks := .later }
def ConceptCutsCardSaid : Prop := Claim7.holds Tryd.pinned (.plain (OpenSpec.ofChange conceptCutsSpec)) conceptCutsCard

/-- THE TIED CARD OF 'hasselaw.ChainWidest'. -/
def chainWidestCard : Claim7 := { stood := { row := chainWidestRow, standIns := [], harness := (true, "e378a0fd7e5443dc0b7d51aff89d703692347ef53d80b19aea74967af2449546"), looks := false }, kinds := [], alts := [], laidByText := true, laidKinds := [.data, .data], laidTests := true, laidLooks := .later }
def ChainWidestCardSaid : Prop := Claim7.holds Tryd.pinned (.plain (OpenSpec.ofChange chainWidestSpec)) chainWidestCard

/-- THE TIED CARD OF 'hasselaw.ChainParts'. -/
def chainPartsCard : Claim7 := { stood := { row := chainPartsRow, standIns := [], harness := (true, "e378a0fd7e5443dc0b7d51aff89d703692347ef53d80b19aea74967af2449546"), looks := false }, kinds := [], alts := [], laidByText := true, laidKinds := [.data, .data], laidTests := true, laidLooks := .later }
def ChainPartsCardSaid : Prop := Claim7.holds Tryd.pinned (.plain (OpenSpec.ofChange chainPartsSpec)) chainPartsCard

/-- THE TIED CARD OF 'hasselaw.ChainDilworth'. -/
def chainDilworthCard : Claim7 := { stood := { row := chainDilworthRow, standIns := [], harness := (true, "e378a0fd7e5443dc0b7d51aff89d703692347ef53d80b19aea74967af2449546"), looks := false }, kinds := [], alts := [], laidByText := true, laidKinds := [.data, .data], laidTests := true, laidLooks := .later }
def ChainDilworthCardSaid : Prop := Claim7.holds Tryd.pinned (.plain (OpenSpec.ofChange chainDilworthSpec)) chainDilworthCard

/-- THE TIED CARD OF 'hasselaw.CompleteKeeps'. -/
def completeKeepsCard : Claim7 := { stood := { row := completeKeepsRow, standIns := [], harness := (true, "e378a0fd7e5443dc0b7d51aff89d703692347ef53d80b19aea74967af2449546"), looks := false }, kinds := [], alts := [], laidByText := true, laidKinds := [.data, .data], laidTests := true, laidLooks := .later }
def CompleteKeepsCardSaid : Prop := Claim7.holds Tryd.pinned (.plain (OpenSpec.ofChange completeKeepsSpec)) completeKeepsCard

/-- THE TIED CARD OF 'hasselaw.CompleteDense'. -/
def completeDenseCard : Claim7 := { stood := { row := completeDenseRow, standIns := [], harness := (true, "e378a0fd7e5443dc0b7d51aff89d703692347ef53d80b19aea74967af2449546"), looks := false }, kinds := [], alts := [], laidByText := true, laidKinds := [.data, .data], laidTests := true, laidLooks := .later }
def CompleteDenseCardSaid : Prop := Claim7.holds Tryd.pinned (.plain (OpenSpec.ofChange completeDenseSpec)) completeDenseCard

/-- THE TIED CARD OF 'hasselaw.CompleteNothing'. -/
def completeNothingCard : Claim7 := { stood := { row := completeNothingRow, standIns := [], harness := (true, "e378a0fd7e5443dc0b7d51aff89d703692347ef53d80b19aea74967af2449546"), looks := false }, kinds := [], alts := [], laidByText := true, laidKinds := [.data, .data], laidTests := true, laidLooks := .later }
def CompleteNothingCardSaid : Prop := Claim7.holds Tryd.pinned (.plain (OpenSpec.ofChange completeNothingSpec)) completeNothingCard

/-- THE TIED CARD OF 'hasselaw.ChainShapes'. -/
def chainShapesCard : Claim7 := { stood := { row := chainShapesRow, standIns := [], harness := (true, "e378a0fd7e5443dc0b7d51aff89d703692347ef53d80b19aea74967af2449546"), looks := false }, kinds := [], alts := [], laidByText := true, laidKinds := [.data, .data], laidTests := true, laidLooks := .later }
def ChainShapesCardSaid : Prop := Claim7.holds Tryd.pinned (.plain (OpenSpec.ofChange chainShapesSpec)) chainShapesCard

/-- THE SECOND FORM's CARD OF 'hasselaw.OrderParts'. -/
def orderPartsUptoCard : Claim7 := { stood := { row := orderPartsUptoRow, standIns := [], harness := (true, "e378a0fd7e5443dc0b7d51aff89d703692347ef53d80b19aea74967af2449546"), looks := false }, kinds := [], alts := [], laidByText := true, laidKinds := [.data, .data], laidTests := true, laidLooks := .later }
def OrderPartsUptoCardSaid : Prop := Claim7.holds Tryd.pinned (.plain (OpenSpec.upto orderPartsSpec)) orderPartsUptoCard

/-- THE SECOND FORM's CARD OF 'hasselaw.CompleteBounds'. -/
def completeBoundsUptoCard : Claim7 := { stood := { row := completeBoundsUptoRow, standIns := [], harness := (true, "e378a0fd7e5443dc0b7d51aff89d703692347ef53d80b19aea74967af2449546"), looks := false }, kinds := [], alts := [], laidByText := true, laidKinds := [.data, .data], laidTests := true, laidLooks := .later }
def CompleteBoundsUptoCardSaid : Prop := Claim7.holds Tryd.pinned (.plain (OpenSpec.upto completeBoundsSpec)) completeBoundsUptoCard

/-- THE SECOND FORM's CARD OF 'hasselaw.CompleteCuts'. -/
def completeCutsUptoCard : Claim7 := { stood := { row := completeCutsUptoRow, standIns := [], harness := (true, "e378a0fd7e5443dc0b7d51aff89d703692347ef53d80b19aea74967af2449546"), looks := false }, kinds := [], alts := [], laidByText := true, laidKinds := [.data, .data], laidTests := true, laidLooks := .later }
def CompleteCutsUptoCardSaid : Prop := Claim7.holds Tryd.pinned (.plain (OpenSpec.upto completeCutsSpec)) completeCutsUptoCard

/-- THE SECOND FORM's CARD OF 'hasselaw.CompleteFills'. -/
def completeFillsUptoCard : Claim7 := { stood := { row := completeFillsUptoRow, standIns := [], harness := (true, "e378a0fd7e5443dc0b7d51aff89d703692347ef53d80b19aea74967af2449546"), looks := false }, kinds := [], alts := [], laidByText := true, laidKinds := [.data, .data], laidTests := true, laidLooks := .later }
def CompleteFillsUptoCardSaid : Prop := Claim7.holds Tryd.pinned (.plain (OpenSpec.upto completeFillsSpec)) completeFillsUptoCard

/-- THE SECOND FORM's CARD OF 'hasselaw.ConceptCuts'. -/
def conceptCutsUptoCard : Claim7 := { stood := { row := conceptCutsUptoRow, standIns := [], harness := (true, "e378a0fd7e5443dc0b7d51aff89d703692347ef53d80b19aea74967af2449546"), looks := false }, kinds := [], alts := [], laidByText := true, laidKinds := [.data, .data], laidTests := true, laidLooks := .later }
def ConceptCutsUptoCardSaid : Prop := Claim7.holds Tryd.pinned (.plain (OpenSpec.upto conceptCutsSpec)) conceptCutsUptoCard

/-- THE SECOND FORM's CARD OF 'hasselaw.ChainWidest'. -/
def chainWidestUptoCard : Claim7 := { stood := { row := chainWidestUptoRow, standIns := [], harness := (true, "e378a0fd7e5443dc0b7d51aff89d703692347ef53d80b19aea74967af2449546"), looks := false }, kinds := [], alts := [], laidByText := true, laidKinds := [.data, .data], laidTests := true, laidLooks := .later }
def ChainWidestUptoCardSaid : Prop := Claim7.holds Tryd.pinned (.plain (OpenSpec.upto chainWidestSpec)) chainWidestUptoCard

/-- THE SECOND FORM's CARD OF 'hasselaw.ChainParts'. -/
def chainPartsUptoCard : Claim7 := { stood := { row := chainPartsUptoRow, standIns := [], harness := (true, "e378a0fd7e5443dc0b7d51aff89d703692347ef53d80b19aea74967af2449546"), looks := false }, kinds := [], alts := [], laidByText := true, laidKinds := [.data, .data], laidTests := true, laidLooks := .later }
def ChainPartsUptoCardSaid : Prop := Claim7.holds Tryd.pinned (.plain (OpenSpec.upto chainPartsSpec)) chainPartsUptoCard

/-- THE SECOND FORM's CARD OF 'hasselaw.ChainDilworth'. -/
def chainDilworthUptoCard : Claim7 := { stood := { row := chainDilworthUptoRow, standIns := [], harness := (true, "e378a0fd7e5443dc0b7d51aff89d703692347ef53d80b19aea74967af2449546"), looks := false }, kinds := [], alts := [], laidByText := true, laidKinds := [.data, .data], laidTests := true, laidLooks := .later }
def ChainDilworthUptoCardSaid : Prop := Claim7.holds Tryd.pinned (.plain (OpenSpec.upto chainDilworthSpec)) chainDilworthUptoCard

/-- THE SECOND FORM's CARD OF 'hasselaw.CompleteKeeps'. -/
def completeKeepsUptoCard : Claim7 := { stood := { row := completeKeepsUptoRow, standIns := [], harness := (true, "e378a0fd7e5443dc0b7d51aff89d703692347ef53d80b19aea74967af2449546"), looks := false }, kinds := [], alts := [], laidByText := true, laidKinds := [.data, .data], laidTests := true, laidLooks := .later }
def CompleteKeepsUptoCardSaid : Prop := Claim7.holds Tryd.pinned (.plain (OpenSpec.upto completeKeepsSpec)) completeKeepsUptoCard

/-- THE SECOND FORM's CARD OF 'hasselaw.CompleteDense'. -/
def completeDenseUptoCard : Claim7 := { stood := { row := completeDenseUptoRow, standIns := [], harness := (true, "e378a0fd7e5443dc0b7d51aff89d703692347ef53d80b19aea74967af2449546"), looks := false }, kinds := [], alts := [], laidByText := true, laidKinds := [.data, .data], laidTests := true, laidLooks := .later }
def CompleteDenseUptoCardSaid : Prop := Claim7.holds Tryd.pinned (.plain (OpenSpec.upto completeDenseSpec)) completeDenseUptoCard

/-- THE SECOND FORM's CARD OF 'hasselaw.CompleteNothing'. -/
def completeNothingUptoCard : Claim7 := { stood := { row := completeNothingUptoRow, standIns := [], harness := (true, "e378a0fd7e5443dc0b7d51aff89d703692347ef53d80b19aea74967af2449546"), looks := false }, kinds := [], alts := [], laidByText := true, laidKinds := [.data, .data], laidTests := true, laidLooks := .later }
def CompleteNothingUptoCardSaid : Prop := Claim7.holds Tryd.pinned (.plain (OpenSpec.upto completeNothingSpec)) completeNothingUptoCard

/-- THE SECOND FORM's CARD OF 'hasselaw.ChainShapes'. -/
def chainShapesUptoCard : Claim7 := { stood := { row := chainShapesUptoRow, standIns := [], harness := (true, "e378a0fd7e5443dc0b7d51aff89d703692347ef53d80b19aea74967af2449546"), looks := false }, kinds := [], alts := [], laidByText := true, laidKinds := [.data, .data], laidTests := true, laidLooks := .later }
def ChainShapesUptoCardSaid : Prop := Claim7.holds Tryd.pinned (.plain (OpenSpec.upto chainShapesSpec)) chainShapesUptoCard
end Rows
end Go.Proofs.YtfoipkcdmbnbeaaDoor
