/-
  DERIVED. GIVEN WITH THE SEED: THE CARDS: each row of YtblfodnajpamfaaDoorRows.lean that lists a variable, with what it lists TIED to the program's text (the seventh form; the later family's looks); each row that meets fmt, with fmt's text TOLD by the authors' own Lean function (tested against real Go, not proved from fmt's source: count such statements apart). THE CARD IS WHAT COUNTS. Prove the row's statement (the work); the ties are given (YtblfodnajpamfaaDoorTie.lean); close each card by the builder's one call (the guide's Derived/Test/ToyasCard.lean, 'card_holds'). Laid BY PROGRAM, IN A SANDBOX (cutbox-door.mjs). By AI agents, Wed Nov 11 2026. No macro, syntax, notation, axiom, sorry.
-/
import Derived.Test.YtblfodnajpamfaaDoorRows
import GoSem.ClaimSeven
namespace Go.Proofs.YtblfodnajpamfaaDoor
namespace Rows

/-- THE TIED CARD OF 'drosslaw15.InclusionImplies'. -/
def inclusionImpliesCard : Claim7 := { stood := { row := inclusionImpliesRow, standIns := [], harness := (true, "b5b9a8c1557cab69ee6a71684e1a0b39450a58be0ca1ed027b220c4bdc315d49"), looks := false }, kinds := [], alts := [], laidByText := true, laidKinds := [.data, .data, .data], laidTests := true, laidLooks := .later }
def InclusionImpliesCardSaid : Prop := Claim7.holds Tryd.pinned (.plain (OpenSpec.ofChange inclusionImpliesSpec)) inclusionImpliesCard

/-- THE TIED CARD OF 'drosslaw15.InclusionValid'. -/
def inclusionValidCard : Claim7 := { stood := { row := inclusionValidRow, standIns := [], harness := (true, "b5b9a8c1557cab69ee6a71684e1a0b39450a58be0ca1ed027b220c4bdc315d49"), looks := false }, kinds := [], alts := [], laidByText := true, laidKinds := [.data, .data, .data], laidTests := true, laidLooks := .later }
def InclusionValidCardSaid : Prop := Claim7.holds Tryd.pinned (.plain (OpenSpec.ofChange inclusionValidSpec)) inclusionValidCard

/-- THE SECOND FORM's CARD OF 'drosslaw15.InclusionImplies'. -/
def inclusionImpliesUptoCard : Claim7 := { stood := { row := inclusionImpliesUptoRow, standIns := [], harness := (true, "b5b9a8c1557cab69ee6a71684e1a0b39450a58be0ca1ed027b220c4bdc315d49"), looks := false }, kinds := [], alts := [], laidByText := true, laidKinds := [.data, .data, .data], laidTests := true, laidLooks := .later }
def InclusionImpliesUptoCardSaid : Prop := Claim7.holds Tryd.pinned (.plain (OpenSpec.upto inclusionImpliesSpec)) inclusionImpliesUptoCard

/-- THE SECOND FORM's CARD OF 'drosslaw15.InclusionValid'. -/
def inclusionValidUptoCard : Claim7 := { stood := { row := inclusionValidUptoRow, standIns := [], harness := (true, "b5b9a8c1557cab69ee6a71684e1a0b39450a58be0ca1ed027b220c4bdc315d49"), looks := false }, kinds := [], alts := [], laidByText := true, laidKinds := [.data, .data, .data], laidTests := true, laidLooks := .later }
def InclusionValidUptoCardSaid : Prop := Claim7.holds Tryd.pinned (.plain (OpenSpec.upto inclusionValidSpec)) inclusionValidUptoCard
end Rows
end Go.Proofs.YtblfodnajpamfaaDoor
