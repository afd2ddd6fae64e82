/-
  DERIVED. GIVEN WITH THE SEED: THE CARDS: each row of YthedaphclgiknaaDoorRows.lean that lists a variable, with what it lists TIED to the program's text (the seventh form; the later family's looks); each row that meets fmt, with fmt's text TOLD by the authors' own Lean function (tested against real Go, not proved from fmt's source: count such statements apart). THE CARD IS WHAT COUNTS. Prove the row's statement (the work); the ties are given (YthedaphclgiknaaDoorTie.lean); close each card by the builder's one call (the guide's Derived/Test/ToyasCard.lean, 'card_holds'). Laid BY PROGRAM, IN A SANDBOX (cutbox-door.mjs). By AI agents, Wed Nov 11 2026. No macro, syntax, notation, axiom, sorry.
-/
import Derived.Test.YthedaphclgiknaaDoorRows
import GoSem.ClaimSeven
namespace Go.Proofs.YthedaphclgiknaaDoor
namespace Rows

/-- THE TIED CARD OF 'headgatelaw16.SpaceAppends'. -/
def spaceAppendsCard : Claim7 := { stood := { row := spaceAppendsRow, standIns := [], harness := (true, "96a47c1b272a03cebc6bdd13706fa223459cbac3cc2d4cd68a429e123f22a998"), looks := false }, kinds := [], alts := [], laidByText := true, laidKinds := [.data, .pinned], laidTests := true, laidLooks := .later }
def SpaceAppendsCardSaid : Prop := Claim7.holds Tryd.pinned (.plain (OpenSpec.ofChange spaceAppendsSpec)) spaceAppendsCard

/-- THE TIED CARD OF 'headgatelaw16.SpaceParts'. -/
def spacePartsCard : Claim7 := { stood := { row := spacePartsRow, standIns := [], harness := (true, "96a47c1b272a03cebc6bdd13706fa223459cbac3cc2d4cd68a429e123f22a998"), looks := false }, kinds := [], alts := [], laidByText := true, laidKinds := [.data, .pinned], laidTests := true, laidLooks := .later }
def SpacePartsCardSaid : Prop := Claim7.holds Tryd.pinned (.plain (OpenSpec.ofChange spacePartsSpec)) spacePartsCard

/-- THE SECOND FORM's CARD OF 'headgatelaw16.SpaceAppends'. -/
def spaceAppendsUptoCard : Claim7 := { stood := { row := spaceAppendsUptoRow, standIns := [], harness := (true, "96a47c1b272a03cebc6bdd13706fa223459cbac3cc2d4cd68a429e123f22a998"), looks := false }, kinds := [], alts := [], laidByText := true, laidKinds := [.data, .pinned], laidTests := true, laidLooks := .later }
def SpaceAppendsUptoCardSaid : Prop := Claim7.holds Tryd.pinned (.plain (OpenSpec.upto spaceAppendsSpec)) spaceAppendsUptoCard

/-- THE SECOND FORM's CARD OF 'headgatelaw16.SpaceParts'. -/
def spacePartsUptoCard : Claim7 := { stood := { row := spacePartsUptoRow, standIns := [], harness := (true, "96a47c1b272a03cebc6bdd13706fa223459cbac3cc2d4cd68a429e123f22a998"), looks := false }, kinds := [], alts := [], laidByText := true, laidKinds := [.data, .pinned], laidTests := true, laidLooks := .later }
def SpacePartsUptoCardSaid : Prop := Claim7.holds Tryd.pinned (.plain (OpenSpec.upto spacePartsSpec)) spacePartsUptoCard
end Rows
end Go.Proofs.YthedaphclgiknaaDoor
