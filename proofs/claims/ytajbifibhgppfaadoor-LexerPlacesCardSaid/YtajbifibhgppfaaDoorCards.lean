/-
  DERIVED. GIVEN WITH THE SEED: THE CARDS: each row of YtajbifibhgppfaaDoorRows.lean that lists a variable, with what it lists TIED to the program's text (the seventh form; the later family's looks); each row that meets fmt, with fmt's text TOLD by the authors' own Lean function (tested against real Go, not proved from fmt's source: count such statements apart). THE CARD IS WHAT COUNTS. Prove the row's statement (the work); the ties are given (YtajbifibhgppfaaDoorTie.lean); close each card by the builder's one call (the guide's Derived/Test/ToyasCard.lean, 'card_holds'). Laid BY PROGRAM, IN A SANDBOX (cutbox-door.mjs). By AI agents, Wed Nov 11 2026. No macro, syntax, notation, axiom, sorry.
-/
import Derived.Test.YtajbifibhgppfaaDoorRows
import GoSem.ClaimSeven
namespace Go.Proofs.YtajbifibhgppfaaDoor
namespace Rows

/-- THE TIED CARD OF 'drosslaw05.LexerTokens'. -/
def lexerTokensCard : Claim7 := { stood := { row := lexerTokensRow, standIns := [], harness := (true, "8901a8a11b5b4f6a26baae48e28cbc3d474a435e7f8e2a4d2b8d791f47baf66d"), looks := true }, kinds := [], alts := [], laidByText := true, laidKinds := [.data, .data, .data, .sentinel, .sentinel, .widerDeep], laidTests := true, laidLooks := .later }
def LexerTokensCardSaid : Prop := Claim7.holds Tryd.pinned (.plain (OpenSpec.ofChange lexerTokensSpec)) lexerTokensCard

/-- THE TIED CARD OF 'drosslaw05.LexerSpace'. -/
def lexerSpaceCard : Claim7 := { stood := { row := lexerSpaceRow, standIns := [], harness := (true, "8901a8a11b5b4f6a26baae48e28cbc3d474a435e7f8e2a4d2b8d791f47baf66d"), looks := true }, kinds := [], alts := [], laidByText := true, laidKinds := [.data, .data, .data, .sentinel, .sentinel, .widerDeep], laidTests := true, laidLooks := .later }
def LexerSpaceCardSaid : Prop := Claim7.holds Tryd.pinned (.plain (OpenSpec.ofChange lexerSpaceSpec)) lexerSpaceCard

/-- THE TIED CARD OF 'drosslaw05.LexerValid'. -/
def lexerValidCard : Claim7 := { stood := { row := lexerValidRow, standIns := [], harness := (true, "8901a8a11b5b4f6a26baae48e28cbc3d474a435e7f8e2a4d2b8d791f47baf66d"), looks := true }, kinds := [], alts := [], laidByText := true, laidKinds := [.data, .data, .data, .sentinel, .sentinel, .widerDeep], laidTests := true, laidLooks := .later }
def LexerValidCardSaid : Prop := Claim7.holds Tryd.pinned (.plain (OpenSpec.ofChange lexerValidSpec)) lexerValidCard

/-- THE TIED CARD OF 'drosslaw05.LexerPlaces'. -/
def lexerPlacesCard : Claim7 := { stood := { row := lexerPlacesRow, standIns := [], harness := (true, "8901a8a11b5b4f6a26baae48e28cbc3d474a435e7f8e2a4d2b8d791f47baf66d"), looks := true }, kinds := [], alts := [], laidByText := true, laidKinds := [.data, .data, .data, .sentinel, .sentinel, .widerDeep], laidTests := true, laidLooks := .later }
def LexerPlacesCardSaid : Prop := Claim7.holds Tryd.pinned (.plain (OpenSpec.ofChange lexerPlacesSpec)) lexerPlacesCard

/-- THE TIED CARD OF 'drosslaw05.LexerPosition'. -/
def lexerPositionCard : Claim7 := { stood := { row := lexerPositionRow, standIns := [], harness := (true, "8901a8a11b5b4f6a26baae48e28cbc3d474a435e7f8e2a4d2b8d791f47baf66d"), looks := true }, kinds := [], alts := [], laidByText := true, laidKinds := [.data, .data, .data, .sentinel, .sentinel, .widerDeep], laidTests := true, laidLooks := .later }
def LexerPositionCardSaid : Prop := Claim7.holds Tryd.pinned (.plain (OpenSpec.ofChange lexerPositionSpec)) lexerPositionCard

/-- THE TIED CARD OF 'drosslaw05.LexerStatements'. -/
def lexerStatementsCard : Claim7 := { stood := { row := lexerStatementsRow, standIns := [], harness := (true, "8901a8a11b5b4f6a26baae48e28cbc3d474a435e7f8e2a4d2b8d791f47baf66d"), looks := true }, kinds := [], alts := [], laidByText := true, laidKinds := [.data, .data, .data, .sentinel, .sentinel, .widerDeep], laidTests := true, laidLooks := .later }
def LexerStatementsCardSaid : Prop := Claim7.holds Tryd.pinned (.plain (OpenSpec.ofChange lexerStatementsSpec)) lexerStatementsCard

/-- THE SECOND FORM's CARD OF 'drosslaw05.LexerTokens'. -/
def lexerTokensUptoCard : Claim7 := { stood := { row := lexerTokensUptoRow, standIns := [], harness := (true, "8901a8a11b5b4f6a26baae48e28cbc3d474a435e7f8e2a4d2b8d791f47baf66d"), looks := true }, kinds := [], alts := [], laidByText := true, laidKinds := [.data, .data, .data, .sentinel, .sentinel, .widerDeep], laidTests := true, laidLooks := .later }
def LexerTokensUptoCardSaid : Prop := Claim7.holds Tryd.pinned (.plain (OpenSpec.upto lexerTokensSpec)) lexerTokensUptoCard

/-- THE SECOND FORM's CARD OF 'drosslaw05.LexerSpace'. -/
def lexerSpaceUptoCard : Claim7 := { stood := { row := lexerSpaceUptoRow, standIns := [], harness := (true, "8901a8a11b5b4f6a26baae48e28cbc3d474a435e7f8e2a4d2b8d791f47baf66d"), looks := true }, kinds := [], alts := [], laidByText := true, laidKinds := [.data, .data, .data, .sentinel, .sentinel, .widerDeep], laidTests := true, laidLooks := .later }
def LexerSpaceUptoCardSaid : Prop := Claim7.holds Tryd.pinned (.plain (OpenSpec.upto lexerSpaceSpec)) lexerSpaceUptoCard

/-- THE SECOND FORM's CARD OF 'drosslaw05.LexerValid'. -/
def lexerValidUptoCard : Claim7 := { stood := { row := lexerValidUptoRow, standIns := [], harness := (true, "8901a8a11b5b4f6a26baae48e28cbc3d474a435e7f8e2a4d2b8d791f47baf66d"), looks := true }, kinds := [], alts := [], laidByText := true, laidKinds := [.data, .data, .data, .sentinel, .sentinel, .widerDeep], laidTests := true, laidLooks := .later }
def LexerValidUptoCardSaid : Prop := Claim7.holds Tryd.pinned (.plain (OpenSpec.upto lexerValidSpec)) lexerValidUptoCard

/-- THE SECOND FORM's CARD OF 'drosslaw05.LexerPlaces'. -/
def lexerPlacesUptoCard : Claim7 := { stood := { row := lexerPlacesUptoRow, standIns := [], harness := (true, "8901a8a11b5b4f6a26baae48e28cbc3d474a435e7f8e2a4d2b8d791f47baf66d"), looks := true }, kinds := [], alts := [], laidByText := true, laidKinds := [.data, .data, .data, .sentinel, .sentinel, .widerDeep], laidTests := true, laidLooks := .later }
def LexerPlacesUptoCardSaid : Prop := Claim7.holds Tryd.pinned (.plain (OpenSpec.upto lexerPlacesSpec)) lexerPlacesUptoCard

/-- THE SECOND FORM's CARD OF 'drosslaw05.LexerPosition'. -/
def lexerPositionUptoCard : Claim7 := { stood := { row := lexerPositionUptoRow, standIns := [], harness := (true, "8901a8a11b5b4f6a26baae48e28cbc3d474a435e7f8e2a4d2b8d791f47baf66d"), looks := true }, kinds := [], alts := [], laidByText := true, laidKinds := [.data, .data, .data, .sentinel, .sentinel, .widerDeep], laidTests := true, laidLooks := .later }
def LexerPositionUptoCardSaid : Prop := Claim7.holds Tryd.pinned (.plain (OpenSpec.upto lexerPositionSpec)) lexerPositionUptoCard

/-- THE SECOND FORM's CARD OF 'drosslaw05.LexerStatements'. -/
def lexerStatementsUptoCard : Claim7 := { stood := { row := lexerStatementsUptoRow, standIns := [], harness := (true, "8901a8a11b5b4f6a26baae48e28cbc3d474a435e7f8e2a4d2b8d791f47baf66d"), looks := true }, kinds := [], alts := [], laidByText := true, laidKinds := [.data, .data, .data, .sentinel, .sentinel, .widerDeep], laidTests := true, laidLooks := .later }
def LexerStatementsUptoCardSaid : Prop := Claim7.holds Tryd.pinned (.plain (OpenSpec.upto lexerStatementsSpec)) lexerStatementsUptoCard
end Rows
end Go.Proofs.YtajbifibhgppfaaDoor
