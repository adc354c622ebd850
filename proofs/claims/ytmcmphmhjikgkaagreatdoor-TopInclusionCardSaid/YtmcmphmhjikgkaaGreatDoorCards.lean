/-
  DERIVED. GIVEN WITH THE SEED: THE CARDS: each row of YtmcmphmhjikgkaaGreatDoorRows.lean that lists a variable, with what it lists TIED to the program's text (the seventh form; the later family's looks); each row that meets fmt, with fmt's text TOLD by the authors' own Lean function (tested against real Go, not proved from fmt's source: count such statements apart). THE CARD IS WHAT COUNTS. Prove the row's statement (the work); the ties are given (YtmcmphmhjikgkaaGreatDoorTie.lean); close each card by the builder's one call (the guide's Derived/Test/ToyasCard.lean, 'card_holds'). Laid BY PROGRAM, IN A SANDBOX (cutbox-door.mjs). By AI agents, Wed Nov 11 2026. No macro, syntax, notation, axiom, sorry.
-/
import Derived.Test.YtmcmphmhjikgkaaGreatDoorRows
import GoSem.ClaimSeven
namespace Go.Proofs.YtmcmphmhjikgkaaGreatDoor
namespace Rows

/-- THE TIED CARD OF 'drosstop.TopClosure'. -/
def topClosureCard : Claim7 := { stood := { row := topClosureRow, standIns := [], harness := (true, "afc095bc9df6ee7dc0b392cb7ea53356bd6929a195fb5b3fdd4a7c047926bd9e"), looks := false }, kinds := [], alts := [], laidByText := true, laidKinds := [.data], laidTests := true, laidLooks := .later }
def TopClosureCardSaid : Prop := Claim7.holds Tryz.pinned (.plain (OpenSpec.ofChange topClosureSpec)) topClosureCard

/-- THE TIED CARD OF 'drosstop.TopInclusion'. -/
def topInclusionCard : Claim7 := { stood := { row := topInclusionRow, standIns := [], harness := (true, "afc095bc9df6ee7dc0b392cb7ea53356bd6929a195fb5b3fdd4a7c047926bd9e"), looks := false }, kinds := [], alts := [], laidByText := true, laidKinds := [.data, .data, .data], laidTests := true, laidLooks := .later }
def TopInclusionCardSaid : Prop := Claim7.holds Tryz.pinned (.plain (OpenSpec.ofChange topInclusionSpec)) topInclusionCard

/-- THE SECOND FORM's CARD OF 'drosstop.TopClosure'. -/
def topClosureUptoCard : Claim7 := { stood := { row := topClosureUptoRow, standIns := [], harness := (true, "afc095bc9df6ee7dc0b392cb7ea53356bd6929a195fb5b3fdd4a7c047926bd9e"), looks := false }, kinds := [], alts := [], laidByText := true, laidKinds := [.data], laidTests := true, laidLooks := .later }
def TopClosureUptoCardSaid : Prop := Claim7.holds Tryz.pinned (.plain (OpenSpec.upto topClosureSpec)) topClosureUptoCard

/-- THE SECOND FORM's CARD OF 'drosstop.TopInclusion'. -/
def topInclusionUptoCard : Claim7 := { stood := { row := topInclusionUptoRow, standIns := [], harness := (true, "afc095bc9df6ee7dc0b392cb7ea53356bd6929a195fb5b3fdd4a7c047926bd9e"), looks := false }, kinds := [], alts := [], laidByText := true, laidKinds := [.data, .data, .data], laidTests := true, laidLooks := .later }
def TopInclusionUptoCardSaid : Prop := Claim7.holds Tryz.pinned (.plain (OpenSpec.upto topInclusionSpec)) topInclusionUptoCard
end Rows
end Go.Proofs.YtmcmphmhjikgkaaGreatDoor
