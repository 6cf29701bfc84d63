/-
  DERIVED. GIVEN WITH THE SEED: THE CARDS: each row of YtkapohfnoflhlaaDoorRows.lean that lists a variable, with what it lists TIED to the program's text (the seventh form; the later family's looks); each row that meets fmt, with fmt's text TOLD by the authors' own Lean function (tested against real Go, not proved from fmt's source: count such statements apart). THE CARD IS WHAT COUNTS. Prove the row's statement (the work); the ties are given (YtkapohfnoflhlaaDoorTie.lean); close each card by the builder's one call (the guide's Derived/Test/ToyasCard.lean, 'card_holds'). Laid BY PROGRAM, IN A SANDBOX (cutbox-door.mjs). By AI agents, Wed Nov 11 2026. No macro, syntax, notation, axiom, sorry.
-/
import Derived.Test.YtkapohfnoflhlaaDoorRows
import GoSem.ClaimSeven
namespace Go.Proofs.YtkapohfnoflhlaaDoor
namespace Rows

/-- THE TIED CARD OF 'hasselaw.SpanScott'. -/
def spanScottCard : Claim7 := { stood := { row := spanScottRow, standIns := [], harness := (true, "dfea42eb68d89d9fee853869e9e8cea8a47493e37fcab5f353e32a63c4ad7a65"), looks := false }, kinds := [], alts := [], laidByText := true, laidKinds := [.data, .data], laidTests := true, laidLooks := .later }
def SpanScottCardSaid : Prop := Claim7.holds Tryd.pinned (.plain (OpenSpec.ofChange spanScottSpec)) spanScottCard

/-- THE TIED CARD OF 'hasselaw.RealizeDushnik'. -/
def realizeDushnikCard : Claim7 := { stood := { row := realizeDushnikRow, standIns := [], harness := (true, "dfea42eb68d89d9fee853869e9e8cea8a47493e37fcab5f353e32a63c4ad7a65"), looks := false }, kinds := [], alts := [], laidByText := true, laidKinds := [.data, .data], laidTests := true, laidLooks := .later }
def RealizeDushnikCardSaid : Prop := Claim7.holds Tryd.pinned (.plain (OpenSpec.ofChange realizeDushnikSpec)) realizeDushnikCard

/-- THE SECOND FORM's CARD OF 'hasselaw.SpanScott'. -/
def spanScottUptoCard : Claim7 := { stood := { row := spanScottUptoRow, standIns := [], harness := (true, "dfea42eb68d89d9fee853869e9e8cea8a47493e37fcab5f353e32a63c4ad7a65"), looks := false }, kinds := [], alts := [], laidByText := true, laidKinds := [.data, .data], laidTests := true, laidLooks := .later }
def SpanScottUptoCardSaid : Prop := Claim7.holds Tryd.pinned (.plain (OpenSpec.upto spanScottSpec)) spanScottUptoCard

/-- THE SECOND FORM's CARD OF 'hasselaw.RealizeDushnik'. -/
def realizeDushnikUptoCard : Claim7 := { stood := { row := realizeDushnikUptoRow, standIns := [], harness := (true, "dfea42eb68d89d9fee853869e9e8cea8a47493e37fcab5f353e32a63c4ad7a65"), looks := false }, kinds := [], alts := [], laidByText := true, laidKinds := [.data, .data], laidTests := true, laidLooks := .later }
def RealizeDushnikUptoCardSaid : Prop := Claim7.holds Tryd.pinned (.plain (OpenSpec.upto realizeDushnikSpec)) realizeDushnikUptoCard
end Rows
end Go.Proofs.YtkapohfnoflhlaaDoor
