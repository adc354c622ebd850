/-
  DERIVED. GIVEN WITH THE SEED: THE CARDS: each row of YtajbifibhgppfaaGreatDoorRows.lean that lists a variable, with what it lists TIED to the program's text (the seventh form; the later family's looks); each row that meets fmt, with fmt's text TOLD by the authors' own Lean function (tested against real Go, not proved from fmt's source: count such statements apart). THE CARD IS WHAT COUNTS. Prove the row's statement (the work); the ties are given (YtajbifibhgppfaaGreatDoorTie.lean); close each card by the builder's one call (the guide's Derived/Test/ToyasCard.lean, 'card_holds'). Laid BY PROGRAM, IN A SANDBOX (cutbox-door.mjs). By AI agents, Wed Nov 11 2026. No macro, syntax, notation, axiom, sorry.
-/
import Derived.Test.YtajbifibhgppfaaGreatDoorRows
import GoSem.ClaimSeven
namespace Go.Proofs.YtajbifibhgppfaaGreatDoor
namespace Rows

/-- THE TIED CARD OF 'drosslaw05.LexerJoin'. -/
def lexerJoinCard : Claim7 := { stood := { row := lexerJoinRow, standIns := [], harness := (true, "48a924bcb82bccc8e1724326c2f8983eb745eecf3eb213356783ca93aaf2506c"), looks := true }, kinds := [], alts := [], laidByText := true, laidKinds := [.data, .data, .data, .sentinel, .sentinel, .widerDeep], laidTests := true, laidLooks := .later }
def LexerJoinCardSaid : Prop := Claim7.holds Tryz.pinned (.plain (OpenSpec.ofChange lexerJoinSpec)) lexerJoinCard

/-- THE SECOND FORM's CARD OF 'drosslaw05.LexerJoin'. -/
def lexerJoinUptoCard : Claim7 := { stood := { row := lexerJoinUptoRow, standIns := [], harness := (true, "48a924bcb82bccc8e1724326c2f8983eb745eecf3eb213356783ca93aaf2506c"), looks := true }, kinds := [], alts := [], laidByText := true, laidKinds := [.data, .data, .data, .sentinel, .sentinel, .widerDeep], laidTests := true, laidLooks := .later }
def LexerJoinUptoCardSaid : Prop := Claim7.holds Tryz.pinned (.plain (OpenSpec.upto lexerJoinSpec)) lexerJoinUptoCard
end Rows
end Go.Proofs.YtajbifibhgppfaaGreatDoor
