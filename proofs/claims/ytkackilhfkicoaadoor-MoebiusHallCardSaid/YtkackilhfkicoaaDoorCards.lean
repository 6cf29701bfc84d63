/-
  DERIVED. GIVEN WITH THE SEED: THE CARDS: each row of YtkackilhfkicoaaDoorRows.lean that lists a variable, with what it lists TIED to the program's text (the seventh form; the later family's looks); each row that meets fmt, with fmt's text TOLD by the authors' own Lean function (tested against real Go, not proved from fmt's source: count such statements apart). THE CARD IS WHAT COUNTS. Prove the row's statement (the work); the ties are given (YtkackilhfkicoaaDoorTie.lean); close each card by the builder's one call (the guide's Derived/Test/ToyasCard.lean, 'card_holds'). Laid BY PROGRAM, IN A SANDBOX (cutbox-door.mjs). By AI agents, Wed Nov 11 2026. No macro, syntax, notation, axiom, sorry.
-/
import Derived.Test.YtkackilhfkicoaaDoorRows
import GoSem.ClaimSeven
namespace Go.Proofs.YtkackilhfkicoaaDoor
namespace Rows

/-- THE TIED CARD OF 'hasselaw.PolyOnto'. -/
def polyOntoCard : Claim7 := { stood := { row := polyOntoRow, standIns := [], harness := (true, "ec018d082772e3a4180aa955eaa6c361a961457fa63f621ca0a1121c8dfae46b"), looks := false }, kinds := [], alts := [], laidByText := true, laidKinds := [.data, .data], laidTests := true, laidLooks := .later }
def PolyOntoCardSaid : Prop := Claim7.holds Tryd.pinned (.plain (OpenSpec.ofChange polyOntoSpec)) polyOntoCard

/-- THE TIED CARD OF 'hasselaw.PolyValues'. -/
def polyValuesCard : Claim7 := { stood := { row := polyValuesRow, standIns := [], harness := (true, "ec018d082772e3a4180aa955eaa6c361a961457fa63f621ca0a1121c8dfae46b"), looks := false }, kinds := [], alts := [], laidByText := true, laidKinds := [.data, .data], laidTests := true, laidLooks := .later }
def PolyValuesCardSaid : Prop := Claim7.holds Tryd.pinned (.plain (OpenSpec.ofChange polyValuesSpec)) polyValuesCard

/-- THE TIED CARD OF 'hasselaw.PolyStrict'. -/
def polyStrictCard : Claim7 := { stood := { row := polyStrictRow, standIns := [], harness := (true, "ec018d082772e3a4180aa955eaa6c361a961457fa63f621ca0a1121c8dfae46b"), looks := false }, kinds := [], alts := [], laidByText := true, laidKinds := [.data, .data], laidTests := true, laidLooks := .later }
def PolyStrictCardSaid : Prop := Claim7.holds Tryd.pinned (.plain (OpenSpec.ofChange polyStrictSpec)) polyStrictCard

/-- THE TIED CARD OF 'hasselaw.PolyZeta'. -/
def polyZetaCard : Claim7 := { stood := { row := polyZetaRow, standIns := [], harness := (true, "ec018d082772e3a4180aa955eaa6c361a961457fa63f621ca0a1121c8dfae46b"), looks := false }, kinds := [], alts := [], laidByText := true, laidKinds := [.data, .data], laidTests := true, laidLooks := .later }
def PolyZetaCardSaid : Prop := Claim7.holds Tryd.pinned (.plain (OpenSpec.ofChange polyZetaSpec)) polyZetaCard

/-- THE TIED CARD OF 'hasselaw.PolyCounts'. -/
def polyCountsCard : Claim7 := { stood := { row := polyCountsRow, standIns := [], harness := (true, "ec018d082772e3a4180aa955eaa6c361a961457fa63f621ca0a1121c8dfae46b"), looks := false }, kinds := [], alts := [], laidByText := true, laidKinds := [.data, .data], laidTests := true, laidLooks := .later }
def PolyCountsCardSaid : Prop := Claim7.holds Tryd.pinned (.plain (OpenSpec.ofChange polyCountsSpec)) polyCountsCard

/-- THE TIED CARD OF 'hasselaw.PolyStanley'. -/
def polyStanleyCard : Claim7 := { stood := { row := polyStanleyRow, standIns := [], harness := (true, "ec018d082772e3a4180aa955eaa6c361a961457fa63f621ca0a1121c8dfae46b"), looks := false }, kinds := [], alts := [], laidByText := true, laidKinds := [.data, .data], laidTests := true, laidLooks := .later }
def PolyStanleyCardSaid : Prop := Claim7.holds Tryd.pinned (.plain (OpenSpec.ofChange polyStanleySpec)) polyStanleyCard

/-- THE TIED CARD OF 'hasselaw.PolyLists'. -/
def polyListsCard : Claim7 := { stood := { row := polyListsRow, standIns := [], harness := (true, "ec018d082772e3a4180aa955eaa6c361a961457fa63f621ca0a1121c8dfae46b"), looks := false }, kinds := [], alts := [], laidByText := true, laidKinds := [.data, .data], laidTests := true, laidLooks := .later }
def PolyListsCardSaid : Prop := Claim7.holds Tryd.pinned (.plain (OpenSpec.ofChange polyListsSpec)) polyListsCard

/-- THE TIED CARD OF 'hasselaw.PolyHall'. -/
def polyHallCard : Claim7 := { stood := { row := polyHallRow, standIns := [], harness := (true, "ec018d082772e3a4180aa955eaa6c361a961457fa63f621ca0a1121c8dfae46b"), looks := false }, kinds := [], alts := [], laidByText := true, laidKinds := [.data, .data], laidTests := true, laidLooks := .later }
def PolyHallCardSaid : Prop := Claim7.holds Tryd.pinned (.plain (OpenSpec.ofChange polyHallSpec)) polyHallCard

/-- THE TIED CARD OF 'hasselaw.PolyRows'. -/
def polyRowsCard : Claim7 := { stood := { row := polyRowsRow, standIns := [], harness := (true, "ec018d082772e3a4180aa955eaa6c361a961457fa63f621ca0a1121c8dfae46b"), looks := false }, kinds := [], alts := [], laidByText := true, laidKinds := [.data, .data], laidTests := true, laidLooks := .later }
def PolyRowsCardSaid : Prop := Claim7.holds Tryd.pinned (.plain (OpenSpec.ofChange polyRowsSpec)) polyRowsCard

/-- THE TIED CARD OF 'hasselaw.MoebiusUndo'. -/
def moebiusUndoCard : Claim7 := { stood := { row := moebiusUndoRow, standIns := [], harness := (true, "ec018d082772e3a4180aa955eaa6c361a961457fa63f621ca0a1121c8dfae46b"), looks := false }, kinds := [], alts := [], laidByText := true, laidKinds := [.data, .data], laidTests := true, laidLooks := .later }
def MoebiusUndoCardSaid : Prop := Claim7.holds Tryd.pinned (.plain (OpenSpec.ofChange moebiusUndoSpec)) moebiusUndoCard

/-- THE TIED CARD OF 'hasselaw.MoebiusInverts'. -/
def moebiusInvertsCard : Claim7 := { stood := { row := moebiusInvertsRow, standIns := [], harness := (true, "ec018d082772e3a4180aa955eaa6c361a961457fa63f621ca0a1121c8dfae46b"), looks := false }, kinds := [], alts := [], laidByText := true, laidKinds := [.data, .data], laidTests := true, laidLooks := .later }
def MoebiusInvertsCardSaid : Prop := Claim7.holds Tryd.pinned (.plain (OpenSpec.ofChange moebiusInvertsSpec)) moebiusInvertsCard

/-- THE TIED CARD OF 'hasselaw.MoebiusHall'. -/
def moebiusHallCard : Claim7 := { stood := { row := moebiusHallRow, standIns := [], harness := (true, "ec018d082772e3a4180aa955eaa6c361a961457fa63f621ca0a1121c8dfae46b"), looks := false }, kinds := [], alts := [], laidByText := true, laidKinds := [.data, .data], laidTests := true, laidLooks := .later }
def MoebiusHallCardSaid : Prop := Claim7.holds Tryd.pinned (.plain (OpenSpec.ofChange moebiusHallSpec)) moebiusHallCard

/-- THE SECOND FORM's CARD OF 'hasselaw.PolyOnto'. -/
def polyOntoUptoCard : Claim7 := { stood := { row := polyOntoUptoRow, standIns := [], harness := (true, "ec018d082772e3a4180aa955eaa6c361a961457fa63f621ca0a1121c8dfae46b"), looks := false }, kinds := [], alts := [], laidByText := true, laidKinds := [.data, .data], laidTests := true, laidLooks := .later }
def PolyOntoUptoCardSaid : Prop := Claim7.holds Tryd.pinned (.plain (OpenSpec.upto polyOntoSpec)) polyOntoUptoCard

/-- THE SECOND FORM's CARD OF 'hasselaw.PolyValues'. -/
def polyValuesUptoCard : Claim7 := { stood := { row := polyValuesUptoRow, standIns := [], harness := (true, "ec018d082772e3a4180aa955eaa6c361a961457fa63f621ca0a1121c8dfae46b"), looks := false }, kinds := [], alts := [], laidByText := true, laidKinds := [.data, .data], laidTests := true, laidLooks := .later }
def PolyValuesUptoCardSaid : Prop := Claim7.holds Tryd.pinned (.plain (OpenSpec.upto polyValuesSpec)) polyValuesUptoCard

/-- THE SECOND FORM's CARD OF 'hasselaw.PolyStrict'. -/
def polyStrictUptoCard : Claim7 := { stood := { row := polyStrictUptoRow, standIns := [], harness := (true, "ec018d082772e3a4180aa955eaa6c361a961457fa63f621ca0a1121c8dfae46b"), looks := false }, kinds := [], alts := [], laidByText := true, laidKinds := [.data, .data], laidTests := true, laidLooks := .later }
def PolyStrictUptoCardSaid : Prop := Claim7.holds Tryd.pinned (.plain (OpenSpec.upto polyStrictSpec)) polyStrictUptoCard

/-- THE SECOND FORM's CARD OF 'hasselaw.PolyZeta'. -/
def polyZetaUptoCard : Claim7 := { stood := { row := polyZetaUptoRow, standIns := [], harness := (true, "ec018d082772e3a4180aa955eaa6c361a961457fa63f621ca0a1121c8dfae46b"), looks := false }, kinds := [], alts := [], laidByText := true, laidKinds := [.data, .data], laidTests := true, laidLooks := .later }
def PolyZetaUptoCardSaid : Prop := Claim7.holds Tryd.pinned (.plain (OpenSpec.upto polyZetaSpec)) polyZetaUptoCard

/-- THE SECOND FORM's CARD OF 'hasselaw.PolyCounts'. -/
def polyCountsUptoCard : Claim7 := { stood := { row := polyCountsUptoRow, standIns := [], harness := (true, "ec018d082772e3a4180aa955eaa6c361a961457fa63f621ca0a1121c8dfae46b"), looks := false }, kinds := [], alts := [], laidByText := true, laidKinds := [.data, .data], laidTests := true, laidLooks := .later }
def PolyCountsUptoCardSaid : Prop := Claim7.holds Tryd.pinned (.plain (OpenSpec.upto polyCountsSpec)) polyCountsUptoCard

/-- THE SECOND FORM's CARD OF 'hasselaw.PolyStanley'. -/
def polyStanleyUptoCard : Claim7 := { stood := { row := polyStanleyUptoRow, standIns := [], harness := (true, "ec018d082772e3a4180aa955eaa6c361a961457fa63f621ca0a1121c8dfae46b"), looks := false }, kinds := [], alts := [], laidByText := true, laidKinds := [.data, .data], laidTests := true, laidLooks := .later }
def PolyStanleyUptoCardSaid : Prop := Claim7.holds Tryd.pinned (.plain (OpenSpec.upto polyStanleySpec)) polyStanleyUptoCard

/-- THE SECOND FORM's CARD OF 'hasselaw.PolyLists'. -/
def polyListsUptoCard : Claim7 := { stood := { row := polyListsUptoRow, standIns := [], harness := (true, "ec018d082772e3a4180aa955eaa6c361a961457fa63f621ca0a1121c8dfae46b"), looks := false }, kinds := [], alts := [], laidByText := true, laidKinds := [.data, .data], laidTests := true, laidLooks := .later }
def PolyListsUptoCardSaid : Prop := Claim7.holds Tryd.pinned (.plain (OpenSpec.upto polyListsSpec)) polyListsUptoCard

/-- THE SECOND FORM's CARD OF 'hasselaw.PolyHall'. -/
def polyHallUptoCard : Claim7 := { stood := { row := polyHallUptoRow, standIns := [], harness := (true, "ec018d082772e3a4180aa955eaa6c361a961457fa63f621ca0a1121c8dfae46b"), looks := false }, kinds := [], alts := [], laidByText := true, laidKinds := [.data, .data], laidTests := true, laidLooks := .later }
def PolyHallUptoCardSaid : Prop := Claim7.holds Tryd.pinned (.plain (OpenSpec.upto polyHallSpec)) polyHallUptoCard

/-- THE SECOND FORM's CARD OF 'hasselaw.PolyRows'. -/
def polyRowsUptoCard : Claim7 := { stood := { row := polyRowsUptoRow, standIns := [], harness := (true, "ec018d082772e3a4180aa955eaa6c361a961457fa63f621ca0a1121c8dfae46b"), looks := false }, kinds := [], alts := [], laidByText := true, laidKinds := [.data, .data], laidTests := true, laidLooks := .later }
def PolyRowsUptoCardSaid : Prop := Claim7.holds Tryd.pinned (.plain (OpenSpec.upto polyRowsSpec)) polyRowsUptoCard

/-- THE SECOND FORM's CARD OF 'hasselaw.MoebiusUndo'. -/
def moebiusUndoUptoCard : Claim7 := { stood := { row := moebiusUndoUptoRow, standIns := [], harness := (true, "ec018d082772e3a4180aa955eaa6c361a961457fa63f621ca0a1121c8dfae46b"), looks := false }, kinds := [], alts := [], laidByText := true, laidKinds := [.data, .data], laidTests := true, laidLooks := .later }
def MoebiusUndoUptoCardSaid : Prop := Claim7.holds Tryd.pinned (.plain (OpenSpec.upto moebiusUndoSpec)) moebiusUndoUptoCard

/-- THE SECOND FORM's CARD OF 'hasselaw.MoebiusInverts'. -/
def moebiusInvertsUptoCard : Claim7 := { stood := { row := moebiusInvertsUptoRow, standIns := [], harness := (true, "ec018d082772e3a4180aa955eaa6c361a961457fa63f621ca0a1121c8dfae46b"), looks := false }, kinds := [], alts := [], laidByText := true, laidKinds := [.data, .data], laidTests := true, laidLooks := .later }
def MoebiusInvertsUptoCardSaid : Prop := Claim7.holds Tryd.pinned (.plain (OpenSpec.upto moebiusInvertsSpec)) moebiusInvertsUptoCard

/-- THE SECOND FORM's CARD OF 'hasselaw.MoebiusHall'. -/
def moebiusHallUptoCard : Claim7 := { stood := { row := moebiusHallUptoRow, standIns := [], harness := (true, "ec018d082772e3a4180aa955eaa6c361a961457fa63f621ca0a1121c8dfae46b"), looks := false }, kinds := [], alts := [], laidByText := true, laidKinds := [.data, .data], laidTests := true, laidLooks := .later }
def MoebiusHallUptoCardSaid : Prop := Claim7.holds Tryd.pinned (.plain (OpenSpec.upto moebiusHallSpec)) moebiusHallUptoCard
end Rows
end Go.Proofs.YtkackilhfkicoaaDoor
