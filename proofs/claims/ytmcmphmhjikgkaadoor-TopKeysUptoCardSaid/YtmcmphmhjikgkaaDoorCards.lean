/-
  DERIVED. GIVEN WITH THE SEED: THE CARDS: each row of YtmcmphmhjikgkaaDoorRows.lean that lists a variable, with what it lists TIED to the program's text (the seventh form; the later family's looks); each row that meets fmt, with fmt's text TOLD by the authors' own Lean function (tested against real Go, not proved from fmt's source: count such statements apart). THE CARD IS WHAT COUNTS. Prove the row's statement (the work); the ties are given (YtmcmphmhjikgkaaDoorTie.lean); close each card by the builder's one call (the guide's Derived/Test/ToyasCard.lean, 'card_holds'). Laid BY PROGRAM, IN A SANDBOX (cutbox-door.mjs). By AI agents, Wed Nov 11 2026. No macro, syntax, notation, axiom, sorry.
-/
import Derived.Test.YtmcmphmhjikgkaaDoorRows
import GoSem.ClaimSeven
namespace Go.Proofs.YtmcmphmhjikgkaaDoor
namespace Rows

/-- THE TIED CARD OF 'drosstop.TopKeys'. -/
def topKeysCard : Claim7 := { stood := { row := topKeysRow, standIns := [], harness := (true, "1f0de13bf55776090375968e70857447e5e0404989fbaf0d3f5a6ccf5a702f59"), looks := false }, kinds := [], alts := [], laidByText := true, laidKinds := [.data], laidTests := true, laidLooks := .later }
def TopKeysCardSaid : Prop := Claim7.holds Tryd.pinned (.plain (OpenSpec.ofChange topKeysSpec)) topKeysCard

/-- THE TIED CARD OF 'drosstop.TopUsed'. -/
def topUsedCard : Claim7 := { stood := { row := topUsedRow, standIns := [], harness := (true, "1f0de13bf55776090375968e70857447e5e0404989fbaf0d3f5a6ccf5a702f59"), looks := false }, kinds := [], alts := [], laidByText := true, laidKinds := [.data], laidTests := true, laidLooks := .later }
def TopUsedCardSaid : Prop := Claim7.holds Tryd.pinned (.plain (OpenSpec.ofChange topUsedSpec)) topUsedCard

/-- THE SECOND FORM's CARD OF 'drosstop.TopKeys'. -/
def topKeysUptoCard : Claim7 := { stood := { row := topKeysUptoRow, standIns := [], harness := (true, "1f0de13bf55776090375968e70857447e5e0404989fbaf0d3f5a6ccf5a702f59"), looks := false }, kinds := [], alts := [], laidByText := true, laidKinds := [.data], laidTests := true, laidLooks := .later }
def TopKeysUptoCardSaid : Prop := Claim7.holds Tryd.pinned (.plain (OpenSpec.upto topKeysSpec)) topKeysUptoCard

/-- THE SECOND FORM's CARD OF 'drosstop.TopUsed'. -/
def topUsedUptoCard : Claim7 := { stood := { row := topUsedUptoRow, standIns := [], harness := (true, "1f0de13bf55776090375968e70857447e5e0404989fbaf0d3f5a6ccf5a702f59"), looks := false }, kinds := [], alts := [], laidByText := true, laidKinds := [.data], laidTests := true, laidLooks := .later }
def TopUsedUptoCardSaid : Prop := Claim7.holds Tryd.pinned (.plain (OpenSpec.upto topUsedSpec)) topUsedUptoCard
end Rows
end Go.Proofs.YtmcmphmhjikgkaaDoor
