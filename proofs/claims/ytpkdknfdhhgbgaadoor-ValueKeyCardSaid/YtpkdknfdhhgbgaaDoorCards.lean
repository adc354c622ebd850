/-
  DERIVED. GIVEN WITH THE SEED: THE CARDS: each row of YtpkdknfdhhgbgaaDoorRows.lean that lists a variable, with what it lists TIED to the program's text (the seventh form; the later family's looks); each row that meets fmt, with fmt's text TOLD by the authors' own Lean function (tested against real Go, not proved from fmt's source: count such statements apart). THE CARD IS WHAT COUNTS. Prove the row's statement (the work); the ties are given (YtpkdknfdhhgbgaaDoorTie.lean); close each card by the builder's one call (the guide's Derived/Test/ToyasCard.lean, 'card_holds'). Laid BY PROGRAM, IN A SANDBOX (cutbox-door.mjs). By AI agents, Wed Nov 11 2026. No macro, syntax, notation, axiom, sorry.
-/
import Derived.Test.YtpkdknfdhhgbgaaDoorRows
import GoSem.ClaimSeven
namespace Go.Proofs.YtpkdknfdhhgbgaaDoor
namespace Rows

/-- THE TIED CARD OF 'drosslaw01.ValueValid'. -/
def valueValidCard : Claim7 := { stood := { row := valueValidRow, standIns := [], harness := (true, "c533393665738bd867d4723edffe29ad9829344a100296b826e2405b5e21098d"), looks := true }, kinds := [], alts := [], laidByText := true, laidKinds := [.data, .data, .data, .sentinel, .sentinel], laidTests := true, laidLooks := .later }
def ValueValidCardSaid : Prop := Claim7.holds Tryd.pinned (.plain (OpenSpec.ofChange valueValidSpec)) valueValidCard

/-- THE TIED CARD OF 'drosslaw01.ValueCompare'. -/
def valueCompareCard : Claim7 := { stood := { row := valueCompareRow, standIns := [], harness := (true, "c533393665738bd867d4723edffe29ad9829344a100296b826e2405b5e21098d"), looks := true }, kinds := [], alts := [], laidByText := true, laidKinds := [.data, .data, .data, .sentinel, .sentinel], laidTests := true, laidLooks := .later }
def ValueCompareCardSaid : Prop := Claim7.holds Tryd.pinned (.plain (OpenSpec.ofChange valueCompareSpec)) valueCompareCard

/-- THE TIED CARD OF 'drosslaw01.ValueOrder'. -/
def valueOrderCard : Claim7 := { stood := { row := valueOrderRow, standIns := [], harness := (true, "c533393665738bd867d4723edffe29ad9829344a100296b826e2405b5e21098d"), looks := true }, kinds := [], alts := [], laidByText := true, laidKinds := [.data, .data, .data, .sentinel, .sentinel], laidTests := true, laidLooks := .later }
def ValueOrderCardSaid : Prop := Claim7.holds Tryd.pinned (.plain (OpenSpec.ofChange valueOrderSpec)) valueOrderCard

/-- THE TIED CARD OF 'drosslaw01.ValueFormat'. -/
def valueFormatCard : Claim7 := { stood := { row := valueFormatRow, standIns := [], harness := (true, "c533393665738bd867d4723edffe29ad9829344a100296b826e2405b5e21098d"), looks := true }, kinds := [], alts := [], laidByText := true, laidKinds := [.data, .data, .data, .sentinel, .sentinel], laidTests := true, laidLooks := .later }
def ValueFormatCardSaid : Prop := Claim7.holds Tryd.pinned (.plain (OpenSpec.ofChange valueFormatSpec)) valueFormatCard

/-- THE TIED CARD OF 'drosslaw01.ValueParse'. -/
def valueParseCard : Claim7 := { stood := { row := valueParseRow, standIns := [], harness := (true, "c533393665738bd867d4723edffe29ad9829344a100296b826e2405b5e21098d"), looks := true }, kinds := [], alts := [], laidByText := true, laidKinds := [.data, .data, .data, .sentinel, .sentinel], laidTests := true, laidLooks := .later }
def ValueParseCardSaid : Prop := Claim7.holds Tryd.pinned (.plain (OpenSpec.ofChange valueParseSpec)) valueParseCard

/-- THE TIED CARD OF 'drosslaw01.ValueMake'. -/
def valueMakeCard : Claim7 := { stood := { row := valueMakeRow, standIns := [], harness := (true, "c533393665738bd867d4723edffe29ad9829344a100296b826e2405b5e21098d"), looks := true }, kinds := [], alts := [], laidByText := true, laidKinds := [.data, .data, .data, .sentinel, .sentinel], laidTests := true, laidLooks := .later }
def ValueMakeCardSaid : Prop := Claim7.holds Tryd.pinned (.plain (OpenSpec.ofChange valueMakeSpec)) valueMakeCard

/-- THE TIED CARD OF 'drosslaw01.ValueKey'. -/
def valueKeyCard : Claim7 := { stood := { row := valueKeyRow, standIns := [], harness := (true, "c533393665738bd867d4723edffe29ad9829344a100296b826e2405b5e21098d"), looks := true }, kinds := [], alts := [], laidByText := true, laidKinds := [.data, .data, .data, .sentinel, .sentinel], laidTests := true, laidLooks := .later }
def ValueKeyCardSaid : Prop := Claim7.holds Tryd.pinned (.plain (OpenSpec.ofChange valueKeySpec)) valueKeyCard

/-- THE TIED CARD OF 'drosslaw01.ValueFromKey'. -/
def valueFromKeyCard : Claim7 := { stood := { row := valueFromKeyRow, standIns := [], harness := (true, "c533393665738bd867d4723edffe29ad9829344a100296b826e2405b5e21098d"), looks := true }, kinds := [], alts := [], laidByText := true, laidKinds := [.data, .data, .data, .sentinel, .sentinel], laidTests := true, laidLooks := .later }
def ValueFromKeyCardSaid : Prop := Claim7.holds Tryd.pinned (.plain (OpenSpec.ofChange valueFromKeySpec)) valueFromKeyCard

/-- THE TIED CARD OF 'drosslaw01.ValueDecode'. -/
def valueDecodeCard : Claim7 := { stood := { row := valueDecodeRow, standIns := [], harness := (true, "c533393665738bd867d4723edffe29ad9829344a100296b826e2405b5e21098d"), looks := true }, kinds := [], alts := [], laidByText := true, laidKinds := [.data, .data, .data, .sentinel, .sentinel], laidTests := true, laidLooks := .later }
def ValueDecodeCardSaid : Prop := Claim7.holds Tryd.pinned (.plain (OpenSpec.ofChange valueDecodeSpec)) valueDecodeCard

/-- THE SECOND FORM's CARD OF 'drosslaw01.ValueValid'. -/
def valueValidUptoCard : Claim7 := { stood := { row := valueValidUptoRow, standIns := [], harness := (true, "c533393665738bd867d4723edffe29ad9829344a100296b826e2405b5e21098d"), looks := true }, kinds := [], alts := [], laidByText := true, laidKinds := [.data, .data, .data, .sentinel, .sentinel], laidTests := true, laidLooks := .later }
def ValueValidUptoCardSaid : Prop := Claim7.holds Tryd.pinned (.plain (OpenSpec.upto valueValidSpec)) valueValidUptoCard

/-- THE SECOND FORM's CARD OF 'drosslaw01.ValueCompare'. -/
def valueCompareUptoCard : Claim7 := { stood := { row := valueCompareUptoRow, standIns := [], harness := (true, "c533393665738bd867d4723edffe29ad9829344a100296b826e2405b5e21098d"), looks := true }, kinds := [], alts := [], laidByText := true, laidKinds := [.data, .data, .data, .sentinel, .sentinel], laidTests := true, laidLooks := .later }
def ValueCompareUptoCardSaid : Prop := Claim7.holds Tryd.pinned (.plain (OpenSpec.upto valueCompareSpec)) valueCompareUptoCard

/-- THE SECOND FORM's CARD OF 'drosslaw01.ValueOrder'. -/
def valueOrderUptoCard : Claim7 := { stood := { row := valueOrderUptoRow, standIns := [], harness := (true, "c533393665738bd867d4723edffe29ad9829344a100296b826e2405b5e21098d"), looks := true }, kinds := [], alts := [], laidByText := true, laidKinds := [.data, .data, .data, .sentinel, .sentinel], laidTests := true, laidLooks := .later }
def ValueOrderUptoCardSaid : Prop := Claim7.holds Tryd.pinned (.plain (OpenSpec.upto valueOrderSpec)) valueOrderUptoCard

/-- THE SECOND FORM's CARD OF 'drosslaw01.ValueFormat'. -/
def valueFormatUptoCard : Claim7 := { stood := { row := valueFormatUptoRow, standIns := [], harness := (true, "c533393665738bd867d4723edffe29ad9829344a100296b826e2405b5e21098d"), looks := true }, kinds := [], alts := [], laidByText := true, laidKinds := [.data, .data, .data, .sentinel, .sentinel], laidTests := true, laidLooks := .later }
def ValueFormatUptoCardSaid : Prop := Claim7.holds Tryd.pinned (.plain (OpenSpec.upto valueFormatSpec)) valueFormatUptoCard

/-- THE SECOND FORM's CARD OF 'drosslaw01.ValueParse'. -/
def valueParseUptoCard : Claim7 := { stood := { row := valueParseUptoRow, standIns := [], harness := (true, "c533393665738bd867d4723edffe29ad9829344a100296b826e2405b5e21098d"), looks := true }, kinds := [], alts := [], laidByText := true, laidKinds := [.data, .data, .data, .sentinel, .sentinel], laidTests := true, laidLooks := .later }
def ValueParseUptoCardSaid : Prop := Claim7.holds Tryd.pinned (.plain (OpenSpec.upto valueParseSpec)) valueParseUptoCard

/-- THE SECOND FORM's CARD OF 'drosslaw01.ValueMake'. -/
def valueMakeUptoCard : Claim7 := { stood := { row := valueMakeUptoRow, standIns := [], harness := (true, "c533393665738bd867d4723edffe29ad9829344a100296b826e2405b5e21098d"), looks := true }, kinds := [], alts := [], laidByText := true, laidKinds := [.data, .data, .data, .sentinel, .sentinel], laidTests := true, laidLooks := .later }
def ValueMakeUptoCardSaid : Prop := Claim7.holds Tryd.pinned (.plain (OpenSpec.upto valueMakeSpec)) valueMakeUptoCard

/-- THE SECOND FORM's CARD OF 'drosslaw01.ValueKey'. -/
def valueKeyUptoCard : Claim7 := { stood := { row := valueKeyUptoRow, standIns := [], harness := (true, "c533393665738bd867d4723edffe29ad9829344a100296b826e2405b5e21098d"), looks := true }, kinds := [], alts := [], laidByText := true, laidKinds := [.data, .data, .data, .sentinel, .sentinel], laidTests := true, laidLooks := .later }
def ValueKeyUptoCardSaid : Prop := Claim7.holds Tryd.pinned (.plain (OpenSpec.upto valueKeySpec)) valueKeyUptoCard

/-- THE SECOND FORM's CARD OF 'drosslaw01.ValueFromKey'. -/
def valueFromKeyUptoCard : Claim7 := { stood := { row := valueFromKeyUptoRow, standIns := [], harness := (true, "c533393665738bd867d4723edffe29ad9829344a100296b826e2405b5e21098d"), looks := true }, kinds := [], alts := [], laidByText := true, laidKinds := [.data, .data, .data, .sentinel, .sentinel], laidTests := true, laidLooks := .later }
def ValueFromKeyUptoCardSaid : Prop := Claim7.holds Tryd.pinned (.plain (OpenSpec.upto valueFromKeySpec)) valueFromKeyUptoCard

/-- THE SECOND FORM's CARD OF 'drosslaw01.ValueDecode'. -/
def valueDecodeUptoCard : Claim7 := { stood := { row := valueDecodeUptoRow, standIns := [], harness := (true, "c533393665738bd867d4723edffe29ad9829344a100296b826e2405b5e21098d"), looks := true }, kinds := [], alts := [], laidByText := true, laidKinds := [.data, .data, .data, .sentinel, .sentinel], laidTests := true, laidLooks := .later }
def ValueDecodeUptoCardSaid : Prop := Claim7.holds Tryd.pinned (.plain (OpenSpec.upto valueDecodeSpec)) valueDecodeUptoCard
end Rows
end Go.Proofs.YtpkdknfdhhgbgaaDoor
