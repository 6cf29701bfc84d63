/-
  DERIVED. GIVEN WITH THE SEED: THE CARDS: each row of YtajpfjmmhcbjkaaDoorRows.lean that lists a variable, with what it lists TIED to the program's text (the seventh form; the later family's looks); each row that meets fmt, with fmt's text TOLD by the authors' own Lean function (tested against real Go, not proved from fmt's source: count such statements apart). THE CARD IS WHAT COUNTS. Prove the row's statement (the work); the ties are given (YtajpfjmmhcbjkaaDoorTie.lean); close each card by the builder's one call (the guide's Derived/Test/ToyasCard.lean, 'card_holds'). Laid BY PROGRAM, IN A SANDBOX (cutbox-door.mjs). By AI agents, Wed Nov 11 2026. No macro, syntax, notation, axiom, sorry.
-/
import Derived.Test.YtajpfjmmhcbjkaaDoorRows
import GoSem.ClaimSeven
namespace Go.Proofs.YtajpfjmmhcbjkaaDoor
namespace Rows

/-- THE TIED CARD OF 'hasselaw.SpaceOpens'. -/
def spaceOpensCard : Claim7 := { stood := { row := spaceOpensRow, standIns := [], harness := (true, "02d80447239a48639baa5f41c841e20170932ccd583da69562e4fc6bdf62cce7"), looks := false }, kinds := [], alts := [], laidByText := true, laidKinds := [.data, .data], laidTests := true, laidLooks := .later }
def SpaceOpensCardSaid : Prop := Claim7.holds Tryd.pinned (.plain (OpenSpec.ofChange spaceOpensSpec)) spaceOpensCard

/-- THE TIED CARD OF 'hasselaw.SpaceTurns'. -/
def spaceTurnsCard : Claim7 := { stood := { row := spaceTurnsRow, standIns := [], harness := (true, "02d80447239a48639baa5f41c841e20170932ccd583da69562e4fc6bdf62cce7"), looks := false }, kinds := [], alts := [], laidByText := true, laidKinds := [.data, .data], laidTests := true, laidLooks := .later }
def SpaceTurnsCardSaid : Prop := Claim7.holds Tryd.pinned (.plain (OpenSpec.ofChange spaceTurnsSpec)) spaceTurnsCard

/-- THE TIED CARD OF 'hasselaw.SpacePieces'. -/
def spacePiecesCard : Claim7 := { stood := { row := spacePiecesRow, standIns := [], harness := (true, "02d80447239a48639baa5f41c841e20170932ccd583da69562e4fc6bdf62cce7"), looks := false }, kinds := [], alts := [], laidByText := true, laidKinds := [.data, .data], laidTests := true, laidLooks := .later }
def SpacePiecesCardSaid : Prop := Claim7.holds Tryd.pinned (.plain (OpenSpec.ofChange spacePiecesSpec)) spacePiecesCard

/-- THE TIED CARD OF 'hasselaw.SpaceCloses'. -/
def spaceClosesCard : Claim7 := { stood := { row := spaceClosesRow, standIns := [], harness := (true, "02d80447239a48639baa5f41c841e20170932ccd583da69562e4fc6bdf62cce7"), looks := false }, kinds := [], alts := [], laidByText := true, laidKinds := [.data, .data], laidTests := true, laidLooks := .later }
def SpaceClosesCardSaid : Prop := Claim7.holds Tryd.pinned (.plain (OpenSpec.ofChange spaceClosesSpec)) spaceClosesCard

/-- THE TIED CARD OF 'hasselaw.SpaceKuratowski'. -/
def spaceKuratowskiCard : Claim7 := { stood := { row := spaceKuratowskiRow, standIns := [], harness := (true, "02d80447239a48639baa5f41c841e20170932ccd583da69562e4fc6bdf62cce7"), looks := false }, kinds := [], alts := [], laidByText := true, laidKinds := [.data, .data], laidTests := true, laidLooks := .later }
def SpaceKuratowskiCardSaid : Prop := Claim7.holds Tryd.pinned (.plain (OpenSpec.ofChange spaceKuratowskiSpec)) spaceKuratowskiCard

/-- THE TIED CARD OF 'hasselaw.SpaceFrom'. -/
def spaceFromCard : Claim7 := { stood := { row := spaceFromRow, standIns := [], harness := (true, "02d80447239a48639baa5f41c841e20170932ccd583da69562e4fc6bdf62cce7"), looks := false }, kinds := [], alts := [], laidByText := true, laidKinds := [.data, .data], laidTests := true, laidLooks := .later }
def SpaceFromCardSaid : Prop := Claim7.holds Tryd.pinned (.plain (OpenSpec.ofChange spaceFromSpec)) spaceFromCard

/-- THE TIED CARD OF 'hasselaw.SpaceSmooth'. -/
def spaceSmoothCard : Claim7 := { stood := { row := spaceSmoothRow, standIns := [], harness := (true, "02d80447239a48639baa5f41c841e20170932ccd583da69562e4fc6bdf62cce7"), looks := false }, kinds := [], alts := [], laidByText := true, laidKinds := [.data, .data], laidTests := true, laidLooks := .later }
def SpaceSmoothCardSaid : Prop := Claim7.holds Tryd.pinned (.plain (OpenSpec.ofChange spaceSmoothSpec)) spaceSmoothCard

/-- THE TIED CARD OF 'hasselaw.SpaceConnected'. -/
def spaceConnectedCard : Claim7 := { stood := { row := spaceConnectedRow, standIns := [], harness := (true, "02d80447239a48639baa5f41c841e20170932ccd583da69562e4fc6bdf62cce7"), looks := false }, kinds := [], alts := [], laidByText := true, laidKinds := [.data, .data], laidTests := true, laidLooks := .later }
def SpaceConnectedCardSaid : Prop := Claim7.holds Tryd.pinned (.plain (OpenSpec.ofChange spaceConnectedSpec)) spaceConnectedCard

/-- THE TIED CARD OF 'hasselaw.SpaceAlexandrov'. -/
def spaceAlexandrovCard : Claim7 := { stood := { row := spaceAlexandrovRow, standIns := [], harness := (true, "02d80447239a48639baa5f41c841e20170932ccd583da69562e4fc6bdf62cce7"), looks := false }, kinds := [], alts := [], laidByText := true, laidKinds := [.data, .data], laidTests := true, laidLooks := .later }
def SpaceAlexandrovCardSaid : Prop := Claim7.holds Tryd.pinned (.plain (OpenSpec.ofChange spaceAlexandrovSpec)) spaceAlexandrovCard

/-- THE TIED CARD OF 'hasselaw.ConvexHulls'. -/
def convexHullsCard : Claim7 := { stood := { row := convexHullsRow, standIns := [], harness := (true, "02d80447239a48639baa5f41c841e20170932ccd583da69562e4fc6bdf62cce7"), looks := false }, kinds := [], alts := [], laidByText := true, laidKinds := [.data, .data], laidTests := true, laidLooks := .later }
def ConvexHullsCardSaid : Prop := Claim7.holds Tryd.pinned (.plain (OpenSpec.ofChange convexHullsSpec)) convexHullsCard

/-- THE TIED CARD OF 'hasselaw.ConvexCorners'. -/
def convexCornersCard : Claim7 := { stood := { row := convexCornersRow, standIns := [], harness := (true, "02d80447239a48639baa5f41c841e20170932ccd583da69562e4fc6bdf62cce7"), looks := false }, kinds := [], alts := [], laidByText := true, laidKinds := [.data, .data], laidTests := true, laidLooks := .later }
def ConvexCornersCardSaid : Prop := Claim7.holds Tryd.pinned (.plain (OpenSpec.ofChange convexCornersSpec)) convexCornersCard

/-- THE TIED CARD OF 'hasselaw.ConvexWords'. -/
def convexWordsCard : Claim7 := { stood := { row := convexWordsRow, standIns := [], harness := (true, "02d80447239a48639baa5f41c841e20170932ccd583da69562e4fc6bdf62cce7"), looks := false }, kinds := [], alts := [], laidByText := true, laidKinds := [.data, .data], laidTests := true, laidLooks := .later }
def ConvexWordsCardSaid : Prop := Claim7.holds Tryd.pinned (.plain (OpenSpec.ofChange convexWordsSpec)) convexWordsCard

/-- THE SECOND FORM's CARD OF 'hasselaw.SpaceOpens'. -/
def spaceOpensUptoCard : Claim7 := { stood := { row := spaceOpensUptoRow, standIns := [], harness := (true, "02d80447239a48639baa5f41c841e20170932ccd583da69562e4fc6bdf62cce7"), looks := false }, kinds := [], alts := [], laidByText := true, laidKinds := [.data, .data], laidTests := true, laidLooks := .later }
def SpaceOpensUptoCardSaid : Prop := Claim7.holds Tryd.pinned (.plain (OpenSpec.upto spaceOpensSpec)) spaceOpensUptoCard

/-- THE SECOND FORM's CARD OF 'hasselaw.SpaceTurns'. -/
def spaceTurnsUptoCard : Claim7 := { stood := { row := spaceTurnsUptoRow, standIns := [], harness := (true, "02d80447239a48639baa5f41c841e20170932ccd583da69562e4fc6bdf62cce7"), looks := false }, kinds := [], alts := [], laidByText := true, laidKinds := [.data, .data], laidTests := true, laidLooks := .later }
def SpaceTurnsUptoCardSaid : Prop := Claim7.holds Tryd.pinned (.plain (OpenSpec.upto spaceTurnsSpec)) spaceTurnsUptoCard

/-- THE SECOND FORM's CARD OF 'hasselaw.SpacePieces'. -/
def spacePiecesUptoCard : Claim7 := { stood := { row := spacePiecesUptoRow, standIns := [], harness := (true, "02d80447239a48639baa5f41c841e20170932ccd583da69562e4fc6bdf62cce7"), looks := false }, kinds := [], alts := [], laidByText := true, laidKinds := [.data, .data], laidTests := true, laidLooks := .later }
def SpacePiecesUptoCardSaid : Prop := Claim7.holds Tryd.pinned (.plain (OpenSpec.upto spacePiecesSpec)) spacePiecesUptoCard

/-- THE SECOND FORM's CARD OF 'hasselaw.SpaceCloses'. -/
def spaceClosesUptoCard : Claim7 := { stood := { row := spaceClosesUptoRow, standIns := [], harness := (true, "02d80447239a48639baa5f41c841e20170932ccd583da69562e4fc6bdf62cce7"), looks := false }, kinds := [], alts := [], laidByText := true, laidKinds := [.data, .data], laidTests := true, laidLooks := .later }
def SpaceClosesUptoCardSaid : Prop := Claim7.holds Tryd.pinned (.plain (OpenSpec.upto spaceClosesSpec)) spaceClosesUptoCard

/-- THE SECOND FORM's CARD OF 'hasselaw.SpaceKuratowski'. -/
def spaceKuratowskiUptoCard : Claim7 := { stood := { row := spaceKuratowskiUptoRow, standIns := [], harness := (true, "02d80447239a48639baa5f41c841e20170932ccd583da69562e4fc6bdf62cce7"), looks := false }, kinds := [], alts := [], laidByText := true, laidKinds := [.data, .data], laidTests := true, laidLooks := .later }
def SpaceKuratowskiUptoCardSaid : Prop := Claim7.holds Tryd.pinned (.plain (OpenSpec.upto spaceKuratowskiSpec)) spaceKuratowskiUptoCard

/-- THE SECOND FORM's CARD OF 'hasselaw.SpaceFrom'. -/
def spaceFromUptoCard : Claim7 := { stood := { row := spaceFromUptoRow, standIns := [], harness := (true, "02d80447239a48639baa5f41c841e20170932ccd583da69562e4fc6bdf62cce7"), looks := false }, kinds := [], alts := [], laidByText := true, laidKinds := [.data, .data], laidTests := true, laidLooks := .later }
def SpaceFromUptoCardSaid : Prop := Claim7.holds Tryd.pinned (.plain (OpenSpec.upto spaceFromSpec)) spaceFromUptoCard

/-- THE SECOND FORM's CARD OF 'hasselaw.SpaceSmooth'. -/
def spaceSmoothUptoCard : Claim7 := { stood := { row := spaceSmoothUptoRow, standIns := [], harness := (true, "02d80447239a48639baa5f41c841e20170932ccd583da69562e4fc6bdf62cce7"), looks := false }, kinds := [], alts := [], laidByText := true, laidKinds := [.data, .data], laidTests := true, laidLooks := .later }
def SpaceSmoothUptoCardSaid : Prop := Claim7.holds Tryd.pinned (.plain (OpenSpec.upto spaceSmoothSpec)) spaceSmoothUptoCard

/-- THE SECOND FORM's CARD OF 'hasselaw.SpaceConnected'. -/
def spaceConnectedUptoCard : Claim7 := { stood := { row := spaceConnectedUptoRow, standIns := [], harness := (true, "02d80447239a48639baa5f41c841e20170932ccd583da69562e4fc6bdf62cce7"), looks := false }, kinds := [], alts := [], laidByText := true, laidKinds := [.data, .data], laidTests := true, laidLooks := .later }
def SpaceConnectedUptoCardSaid : Prop := Claim7.holds Tryd.pinned (.plain (OpenSpec.upto spaceConnectedSpec)) spaceConnectedUptoCard

/-- THE SECOND FORM's CARD OF 'hasselaw.SpaceAlexandrov'. -/
def spaceAlexandrovUptoCard : Claim7 := { stood := { row := spaceAlexandrovUptoRow, standIns := [], harness := (true, "02d80447239a48639baa5f41c841e20170932ccd583da69562e4fc6bdf62cce7"), looks := false }, kinds := [], alts := [], laidByText := true, laidKinds := [.data, .data], laidTests := true, laidLooks := .later }
def SpaceAlexandrovUptoCardSaid : Prop := Claim7.holds Tryd.pinned (.plain (OpenSpec.upto spaceAlexandrovSpec)) spaceAlexandrovUptoCard

/-- THE SECOND FORM's CARD OF 'hasselaw.ConvexHulls'. -/
def convexHullsUptoCard : Claim7 := { stood := { row := convexHullsUptoRow, standIns := [], harness := (true, "02d80447239a48639baa5f41c841e20170932ccd583da69562e4fc6bdf62cce7"), looks := false }, kinds := [], alts := [], laidByText := true, laidKinds := [.data, .data], laidTests := true, laidLooks := .later }
def ConvexHullsUptoCardSaid : Prop := Claim7.holds Tryd.pinned (.plain (OpenSpec.upto convexHullsSpec)) convexHullsUptoCard

/-- THE SECOND FORM's CARD OF 'hasselaw.ConvexCorners'. -/
def convexCornersUptoCard : Claim7 := { stood := { row := convexCornersUptoRow, standIns := [], harness := (true, "02d80447239a48639baa5f41c841e20170932ccd583da69562e4fc6bdf62cce7"), looks := false }, kinds := [], alts := [], laidByText := true, laidKinds := [.data, .data], laidTests := true, laidLooks := .later }
def ConvexCornersUptoCardSaid : Prop := Claim7.holds Tryd.pinned (.plain (OpenSpec.upto convexCornersSpec)) convexCornersUptoCard

/-- THE SECOND FORM's CARD OF 'hasselaw.ConvexWords'. -/
def convexWordsUptoCard : Claim7 := { stood := { row := convexWordsUptoRow, standIns := [], harness := (true, "02d80447239a48639baa5f41c841e20170932ccd583da69562e4fc6bdf62cce7"), looks := false }, kinds := [], alts := [], laidByText := true, laidKinds := [.data, .data], laidTests := true, laidLooks := .later }
def ConvexWordsUptoCardSaid : Prop := Claim7.holds Tryd.pinned (.plain (OpenSpec.upto convexWordsSpec)) convexWordsUptoCard
end Rows
end Go.Proofs.YtajpfjmmhcbjkaaDoor
