/-
  DERIVED. GIVEN WITH THE SEED: THE CARDS: each row of YtlihpalpkdgclaaDoorRows.lean that lists a variable, with what it lists TIED to the program's text (the seventh form; the later family's looks); each row that meets fmt, with fmt's text TOLD by the authors' own Lean function (tested against real Go, not proved from fmt's source: count such statements apart). THE CARD IS WHAT COUNTS. Prove the row's statement (the work); the ties are given (YtlihpalpkdgclaaDoorTie.lean); close each card by the builder's one call (the guide's Derived/Test/ToyasCard.lean, 'card_holds'). Laid BY PROGRAM, IN A SANDBOX (cutbox-door.mjs). By AI agents, Wed Nov 11 2026. No macro, syntax, notation, axiom, sorry.
-/
import Derived.Test.YtlihpalpkdgclaaDoorRows
import GoSem.ClaimSeven
namespace Go.Proofs.YtlihpalpkdgclaaDoor
namespace Rows

/-- THE TIED CARD OF 'hasselaw.ConvexMinkowski'. -/
def convexMinkowskiCard : Claim7 := { stood := { row := convexMinkowskiRow, standIns := [], harness := (true, "f8b78812bbf19fad248fb574a50f00ecbf36f9b709696bbd1ae1725b8085664e"), looks := false }, kinds := [], alts := [], laidByText := true, laidKinds := [.data, .data], laidTests := true, laidLooks := .later }
def ConvexMinkowskiCardSaid : Prop := Claim7.holds Tryd.pinned (.plain (OpenSpec.ofChange convexMinkowskiSpec)) convexMinkowskiCard

/-- THE TIED CARD OF 'hasselaw.ConvexExchange'. -/
def convexExchangeCard : Claim7 := { stood := { row := convexExchangeRow, standIns := [], harness := (true, "f8b78812bbf19fad248fb574a50f00ecbf36f9b709696bbd1ae1725b8085664e"), looks := false }, kinds := [], alts := [], laidByText := true, laidKinds := [.data, .data], laidTests := true, laidLooks := .later }
def ConvexExchangeCardSaid : Prop := Claim7.holds Tryd.pinned (.plain (OpenSpec.ofChange convexExchangeSpec)) convexExchangeCard

/-- THE TIED CARD OF 'hasselaw.ConvexChecks'. -/
def convexChecksCard : Claim7 := { stood := { row := convexChecksRow, standIns := [], harness := (true, "f8b78812bbf19fad248fb574a50f00ecbf36f9b709696bbd1ae1725b8085664e"), looks := false }, kinds := [], alts := [], laidByText := true, laidKinds := [.data, .data], laidTests := true, laidLooks := .later }
def ConvexChecksCardSaid : Prop := Claim7.holds Tryd.pinned (.plain (OpenSpec.ofChange convexChecksSpec)) convexChecksCard

/-- THE TIED CARD OF 'hasselaw.FixMonotone'. -/
def fixMonotoneCard : Claim7 := { stood := { row := fixMonotoneRow, standIns := [], harness := (true, "f8b78812bbf19fad248fb574a50f00ecbf36f9b709696bbd1ae1725b8085664e"), looks := false }, kinds := [], alts := [], laidByText := true, laidKinds := [.data, .data], laidTests := true, laidLooks := .later }
def FixMonotoneCardSaid : Prop := Claim7.holds Tryd.pinned (.plain (OpenSpec.ofChange fixMonotoneSpec)) fixMonotoneCard

/-- THE TIED CARD OF 'hasselaw.FixCounts'. -/
def fixCountsCard : Claim7 := { stood := { row := fixCountsRow, standIns := [], harness := (true, "f8b78812bbf19fad248fb574a50f00ecbf36f9b709696bbd1ae1725b8085664e"), looks := false }, kinds := [], alts := [], laidByText := true, laidKinds := [.data, .data], laidTests := true, laidLooks := .later }
def FixCountsCardSaid : Prop := Claim7.holds Tryd.pinned (.plain (OpenSpec.ofChange fixCountsSpec)) fixCountsCard

/-- THE TIED CARD OF 'hasselaw.FixFixed'. -/
def fixFixedCard : Claim7 := { stood := { row := fixFixedRow, standIns := [], harness := (true, "f8b78812bbf19fad248fb574a50f00ecbf36f9b709696bbd1ae1725b8085664e"), looks := false }, kinds := [], alts := [], laidByText := true, laidKinds := [.data, .data], laidTests := true, laidLooks := .later }
def FixFixedCardSaid : Prop := Claim7.holds Tryd.pinned (.plain (OpenSpec.ofChange fixFixedSpec)) fixFixedCard

/-- THE TIED CARD OF 'hasselaw.FixCores'. -/
def fixCoresCard : Claim7 := { stood := { row := fixCoresRow, standIns := [], harness := (true, "f8b78812bbf19fad248fb574a50f00ecbf36f9b709696bbd1ae1725b8085664e"), looks := false }, kinds := [], alts := [], laidByText := true, laidKinds := [.data, .data], laidTests := true, laidLooks := .later }
def FixCoresCardSaid : Prop := Claim7.holds Tryd.pinned (.plain (OpenSpec.ofChange fixCoresSpec)) fixCoresCard

/-- THE TIED CARD OF 'hasselaw.FixEnds'. -/
def fixEndsCard : Claim7 := { stood := { row := fixEndsRow, standIns := [], harness := (true, "f8b78812bbf19fad248fb574a50f00ecbf36f9b709696bbd1ae1725b8085664e"), looks := false }, kinds := [], alts := [], laidByText := true, laidKinds := [.data, .data], laidTests := true, laidLooks := .later }
def FixEndsCardSaid : Prop := Claim7.holds Tryd.pinned (.plain (OpenSpec.ofChange fixEndsSpec)) fixEndsCard

/-- THE TIED CARD OF 'hasselaw.FixAlways'. -/
def fixAlwaysCard : Claim7 := { stood := { row := fixAlwaysRow, standIns := [], harness := (true, "f8b78812bbf19fad248fb574a50f00ecbf36f9b709696bbd1ae1725b8085664e"), looks := false }, kinds := [], alts := [], laidByText := true, laidKinds := [.data, .data], laidTests := true, laidLooks := .later }
def FixAlwaysCardSaid : Prop := Claim7.holds Tryd.pinned (.plain (OpenSpec.ofChange fixAlwaysSpec)) fixAlwaysCard

/-- THE TIED CARD OF 'hasselaw.FixTarski'. -/
def fixTarskiCard : Claim7 := { stood := { row := fixTarskiRow, standIns := [], harness := (true, "f8b78812bbf19fad248fb574a50f00ecbf36f9b709696bbd1ae1725b8085664e"), looks := false }, kinds := [], alts := [], laidByText := true, laidKinds := [.data, .data], laidTests := true, laidLooks := .later }
def FixTarskiCardSaid : Prop := Claim7.holds Tryd.pinned (.plain (OpenSpec.ofChange fixTarskiSpec)) fixTarskiCard

/-- THE TIED CARD OF 'hasselaw.FixAbian'. -/
def fixAbianCard : Claim7 := { stood := { row := fixAbianRow, standIns := [], harness := (true, "f8b78812bbf19fad248fb574a50f00ecbf36f9b709696bbd1ae1725b8085664e"), looks := false }, kinds := [], alts := [], laidByText := true, laidKinds := [.data, .data], laidTests := true, laidLooks := .later }
def FixAbianCardSaid : Prop := Claim7.holds Tryd.pinned (.plain (OpenSpec.ofChange fixAbianSpec)) fixAbianCard

/-- THE TIED CARD OF 'hasselaw.FixRival'. -/
def fixRivalCard : Claim7 := { stood := { row := fixRivalRow, standIns := [], harness := (true, "f8b78812bbf19fad248fb574a50f00ecbf36f9b709696bbd1ae1725b8085664e"), looks := false }, kinds := [], alts := [], laidByText := true, laidKinds := [.data, .data], laidTests := true, laidLooks := .later }
def FixRivalCardSaid : Prop := Claim7.holds Tryd.pinned (.plain (OpenSpec.ofChange fixRivalSpec)) fixRivalCard

/-- THE SECOND FORM's CARD OF 'hasselaw.ConvexMinkowski'. -/
def convexMinkowskiUptoCard : Claim7 := { stood := { row := convexMinkowskiUptoRow, standIns := [], harness := (true, "f8b78812bbf19fad248fb574a50f00ecbf36f9b709696bbd1ae1725b8085664e"), looks := false }, kinds := [], alts := [], laidByText := true, laidKinds := [.data, .data], laidTests := true, laidLooks := .later }
def ConvexMinkowskiUptoCardSaid : Prop := Claim7.holds Tryd.pinned (.plain (OpenSpec.upto convexMinkowskiSpec)) convexMinkowskiUptoCard

/-- THE SECOND FORM's CARD OF 'hasselaw.ConvexExchange'. -/
def convexExchangeUptoCard : Claim7 := { stood := { row := convexExchangeUptoRow, standIns := [], harness := (true, "f8b78812bbf19fad248fb574a50f00ecbf36f9b709696bbd1ae1725b8085664e"), looks := false }, kinds := [], alts := [], laidByText := true, laidKinds := [.data, .data], laidTests := true, laidLooks := .later }
def ConvexExchangeUptoCardSaid : Prop := Claim7.holds Tryd.pinned (.plain (OpenSpec.upto convexExchangeSpec)) convexExchangeUptoCard

/-- THE SECOND FORM's CARD OF 'hasselaw.ConvexChecks'. -/
def convexChecksUptoCard : Claim7 := { stood := { row := convexChecksUptoRow, standIns := [], harness := (true, "f8b78812bbf19fad248fb574a50f00ecbf36f9b709696bbd1ae1725b8085664e"), looks := false }, kinds := [], alts := [], laidByText := true, laidKinds := [.data, .data], laidTests := true, laidLooks := .later }
def ConvexChecksUptoCardSaid : Prop := Claim7.holds Tryd.pinned (.plain (OpenSpec.upto convexChecksSpec)) convexChecksUptoCard

/-- THE SECOND FORM's CARD OF 'hasselaw.FixMonotone'. -/
def fixMonotoneUptoCard : Claim7 := { stood := { row := fixMonotoneUptoRow, standIns := [], harness := (true, "f8b78812bbf19fad248fb574a50f00ecbf36f9b709696bbd1ae1725b8085664e"), looks := false }, kinds := [], alts := [], laidByText := true, laidKinds := [.data, .data], laidTests := true, laidLooks := .later }
def FixMonotoneUptoCardSaid : Prop := Claim7.holds Tryd.pinned (.plain (OpenSpec.upto fixMonotoneSpec)) fixMonotoneUptoCard

/-- THE SECOND FORM's CARD OF 'hasselaw.FixCounts'. -/
def fixCountsUptoCard : Claim7 := { stood := { row := fixCountsUptoRow, standIns := [], harness := (true, "f8b78812bbf19fad248fb574a50f00ecbf36f9b709696bbd1ae1725b8085664e"), looks := false }, kinds := [], alts := [], laidByText := true, laidKinds := [.data, .data], laidTests := true, laidLooks := .later }
def FixCountsUptoCardSaid : Prop := Claim7.holds Tryd.pinned (.plain (OpenSpec.upto fixCountsSpec)) fixCountsUptoCard

/-- THE SECOND FORM's CARD OF 'hasselaw.FixFixed'. -/
def fixFixedUptoCard : Claim7 := { stood := { row := fixFixedUptoRow, standIns := [], harness := (true, "f8b78812bbf19fad248fb574a50f00ecbf36f9b709696bbd1ae1725b8085664e"), looks := false }, kinds := [], alts := [], laidByText := true, laidKinds := [.data, .data], laidTests := true, laidLooks := .later }
def FixFixedUptoCardSaid : Prop := Claim7.holds Tryd.pinned (.plain (OpenSpec.upto fixFixedSpec)) fixFixedUptoCard

/-- THE SECOND FORM's CARD OF 'hasselaw.FixCores'. -/
def fixCoresUptoCard : Claim7 := { stood := { row := fixCoresUptoRow, standIns := [], harness := (true, "f8b78812bbf19fad248fb574a50f00ecbf36f9b709696bbd1ae1725b8085664e"), looks := false }, kinds := [], alts := [], laidByText := true, laidKinds := [.data, .data], laidTests := true, laidLooks := .later }
def FixCoresUptoCardSaid : Prop := Claim7.holds Tryd.pinned (.plain (OpenSpec.upto fixCoresSpec)) fixCoresUptoCard

/-- THE SECOND FORM's CARD OF 'hasselaw.FixEnds'. -/
def fixEndsUptoCard : Claim7 := { stood := { row := fixEndsUptoRow, standIns := [], harness := (true, "f8b78812bbf19fad248fb574a50f00ecbf36f9b709696bbd1ae1725b8085664e"), looks := false }, kinds := [], alts := [], laidByText := true, laidKinds := [.data, .data], laidTests := true, laidLooks := .later }
def FixEndsUptoCardSaid : Prop := Claim7.holds Tryd.pinned (.plain (OpenSpec.upto fixEndsSpec)) fixEndsUptoCard

/-- THE SECOND FORM's CARD OF 'hasselaw.FixAlways'. -/
def fixAlwaysUptoCard : Claim7 := { stood := { row := fixAlwaysUptoRow, standIns := [], harness := (true, "f8b78812bbf19fad248fb574a50f00ecbf36f9b709696bbd1ae1725b8085664e"), looks := false }, kinds := [], alts := [], laidByText := true, laidKinds := [.data, .data], laidTests := true, laidLooks := .later }
def FixAlwaysUptoCardSaid : Prop := Claim7.holds Tryd.pinned (.plain (OpenSpec.upto fixAlwaysSpec)) fixAlwaysUptoCard

/-- THE SECOND FORM's CARD OF 'hasselaw.FixTarski'. -/
def fixTarskiUptoCard : Claim7 := { stood := { row := fixTarskiUptoRow, standIns := [], harness := (true, "f8b78812bbf19fad248fb574a50f00ecbf36f9b709696bbd1ae1725b8085664e"), looks := false }, kinds := [], alts := [], laidByText := true, laidKinds := [.data, .data], laidTests := true, laidLooks := .later }
def FixTarskiUptoCardSaid : Prop := Claim7.holds Tryd.pinned (.plain (OpenSpec.upto fixTarskiSpec)) fixTarskiUptoCard

/-- THE SECOND FORM's CARD OF 'hasselaw.FixAbian'. -/
def fixAbianUptoCard : Claim7 := { stood := { row := fixAbianUptoRow, standIns := [], harness := (true, "f8b78812bbf19fad248fb574a50f00ecbf36f9b709696bbd1ae1725b8085664e"), looks := false }, kinds := [], alts := [], laidByText := true, laidKinds := [.data, .data], laidTests := true, laidLooks := .later }
def FixAbianUptoCardSaid : Prop := Claim7.holds Tryd.pinned (.plain (OpenSpec.upto fixAbianSpec)) fixAbianUptoCard

/-- THE SECOND FORM's CARD OF 'hasselaw.FixRival'. -/
def fixRivalUptoCard : Claim7 := { stood := { row := fixRivalUptoRow, standIns := [], harness := (true, "f8b78812bbf19fad248fb574a50f00ecbf36f9b709696bbd1ae1725b8085664e"), looks := false }, kinds := [], alts := [], laidByText := true, laidKinds := [.data, .data], laidTests := true, laidLooks := .later }
def FixRivalUptoCardSaid : Prop := Claim7.holds Tryd.pinned (.plain (OpenSpec.upto fixRivalSpec)) fixRivalUptoCard
end Rows
end Go.Proofs.YtlihpalpkdgclaaDoor
