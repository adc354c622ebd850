/-
  DERIVED. GIVEN WITH THE SEED: THE CARDS: each row of YtcbgkcjlechdnaaDoorRows.lean that lists a variable, with what it lists TIED to the program's text (the seventh form; the later family's looks); each row that meets fmt, with fmt's text TOLD by the authors' own Lean function (tested against real Go, not proved from fmt's source: count such statements apart). THE CARD IS WHAT COUNTS. Prove the row's statement (the work); the ties are given (YtcbgkcjlechdnaaDoorTie.lean); close each card by the builder's one call (the guide's Derived/Test/ToyasCard.lean, 'card_holds'). Laid BY PROGRAM, IN A SANDBOX (cutbox-door.mjs). By AI agents, Wed Nov 11 2026. No macro, syntax, notation, axiom, sorry.
-/
import Derived.Test.YtcbgkcjlechdnaaDoorRows
import GoSem.ClaimSeven
namespace Go.Proofs.YtcbgkcjlechdnaaDoor
namespace Rows

/-- THE TIED CARD OF 'drosslaw04.RatioMake'. -/
def ratioMakeCard : Claim7 := { stood := { row := ratioMakeRow, standIns := [], harness := (true, "259f698146b54026c256c44a98eab2b93ce73148fc7d368b9ac9266f37b40d0b"), looks := true }, kinds := [], alts := [], laidByText := true, laidKinds := [.data, .data, .data], laidTests := true, laidLooks := .later }
def RatioMakeCardSaid : Prop := Claim7.holds Tryd.pinned (.plain (OpenSpec.ofChange ratioMakeSpec)) ratioMakeCard

/-- THE TIED CARD OF 'drosslaw04.RatioValid'. -/
def ratioValidCard : Claim7 := { stood := { row := ratioValidRow, standIns := [], harness := (true, "259f698146b54026c256c44a98eab2b93ce73148fc7d368b9ac9266f37b40d0b"), looks := true }, kinds := [], alts := [], laidByText := true, laidKinds := [.data, .data, .data], laidTests := true, laidLooks := .later }
def RatioValidCardSaid : Prop := Claim7.holds Tryd.pinned (.plain (OpenSpec.ofChange ratioValidSpec)) ratioValidCard

/-- THE TIED CARD OF 'drosslaw04.RatioSum'. -/
def ratioSumCard : Claim7 := { stood := { row := ratioSumRow, standIns := [], harness := (true, "259f698146b54026c256c44a98eab2b93ce73148fc7d368b9ac9266f37b40d0b"), looks := true }, kinds := [], alts := [], laidByText := true, laidKinds := [.data, .data, .data], laidTests := true, laidLooks := .later }
def RatioSumCardSaid : Prop := Claim7.holds Tryd.pinned (.plain (OpenSpec.ofChange ratioSumSpec)) ratioSumCard

/-- THE TIED CARD OF 'drosslaw04.RatioPercent'. -/
def ratioPercentCard : Claim7 := { stood := { row := ratioPercentRow, standIns := [], harness := (true, "259f698146b54026c256c44a98eab2b93ce73148fc7d368b9ac9266f37b40d0b"), looks := true }, kinds := [], alts := [], laidByText := true, laidKinds := [.data, .data, .data], laidTests := true, laidLooks := .later }
def RatioPercentCardSaid : Prop := Claim7.holds Tryd.pinned (.plain (OpenSpec.ofChange ratioPercentSpec)) ratioPercentCard

/-- THE TIED CARD OF 'drosslaw04.RatioOrder'. -/
def ratioOrderCard : Claim7 := { stood := { row := ratioOrderRow, standIns := [], harness := (true, "259f698146b54026c256c44a98eab2b93ce73148fc7d368b9ac9266f37b40d0b"), looks := true }, kinds := [], alts := [], laidByText := true, laidKinds := [.data, .data, .data], laidTests := true, laidLooks := .later }
def RatioOrderCardSaid : Prop := Claim7.holds Tryd.pinned (.plain (OpenSpec.ofChange ratioOrderSpec)) ratioOrderCard

/-- THE TIED CARD OF 'drosslaw04.RatioProduct'. -/
def ratioProductCard : Claim7 := { stood := { row := ratioProductRow, standIns := [], harness := (true, "259f698146b54026c256c44a98eab2b93ce73148fc7d368b9ac9266f37b40d0b"), looks := true }, kinds := [], alts := [], laidByText := true, laidKinds := [.data, .data, .data], laidTests := true, laidLooks := .later }
def RatioProductCardSaid : Prop := Claim7.holds Tryd.pinned (.plain (OpenSpec.ofChange ratioProductSpec)) ratioProductCard

/-- THE TIED CARD OF 'drosslaw04.RatioLaws'. -/
def ratioLawsCard : Claim7 := { stood := { row := ratioLawsRow, standIns := [], harness := (true, "259f698146b54026c256c44a98eab2b93ce73148fc7d368b9ac9266f37b40d0b"), looks := true }, kinds := [], alts := [], laidByText := true, laidKinds := [.data, .data, .data], laidTests := true, laidLooks := .later }
def RatioLawsCardSaid : Prop := Claim7.holds Tryd.pinned (.plain (OpenSpec.ofChange ratioLawsSpec)) ratioLawsCard

/-- THE TIED CARD OF 'drosslaw04.RatioText'. -/
def ratioTextCard : Claim7 := { stood := { row := ratioTextRow, standIns := [], harness := (true, "259f698146b54026c256c44a98eab2b93ce73148fc7d368b9ac9266f37b40d0b"), looks := true }, kinds := [], alts := [], laidByText := true, laidKinds := [.data, .data, .data, .sentinel, .sentinel], laidTests := true, laidLooks := .later }
def RatioTextCardSaid : Prop := Claim7.holds Tryd.pinned (.plain (OpenSpec.ofChange ratioTextSpec)) ratioTextCard

/-- THE TIED CARD OF 'drosslaw04.RatioParse'. -/
def ratioParseCard : Claim7 := { stood := { row := ratioParseRow, standIns := [], harness := (true, "259f698146b54026c256c44a98eab2b93ce73148fc7d368b9ac9266f37b40d0b"), looks := true }, kinds := [], alts := [], laidByText := true, laidKinds := [.data, .data, .data, .sentinel, .sentinel], laidTests := true, laidLooks := .later }
def RatioParseCardSaid : Prop := Claim7.holds Tryd.pinned (.plain (OpenSpec.ofChange ratioParseSpec)) ratioParseCard

/-- THE SECOND FORM's CARD OF 'drosslaw04.RatioMake'. -/
def ratioMakeUptoCard : Claim7 := { stood := { row := ratioMakeUptoRow, standIns := [], harness := (true, "259f698146b54026c256c44a98eab2b93ce73148fc7d368b9ac9266f37b40d0b"), looks := true }, kinds := [], alts := [], laidByText := true, laidKinds := [.data, .data, .data], laidTests := true, laidLooks := .later }
def RatioMakeUptoCardSaid : Prop := Claim7.holds Tryd.pinned (.plain (OpenSpec.upto ratioMakeSpec)) ratioMakeUptoCard

/-- THE SECOND FORM's CARD OF 'drosslaw04.RatioValid'. -/
def ratioValidUptoCard : Claim7 := { stood := { row := ratioValidUptoRow, standIns := [], harness := (true, "259f698146b54026c256c44a98eab2b93ce73148fc7d368b9ac9266f37b40d0b"), looks := true }, kinds := [], alts := [], laidByText := true, laidKinds := [.data, .data, .data], laidTests := true, laidLooks := .later }
def RatioValidUptoCardSaid : Prop := Claim7.holds Tryd.pinned (.plain (OpenSpec.upto ratioValidSpec)) ratioValidUptoCard

/-- THE SECOND FORM's CARD OF 'drosslaw04.RatioSum'. -/
def ratioSumUptoCard : Claim7 := { stood := { row := ratioSumUptoRow, standIns := [], harness := (true, "259f698146b54026c256c44a98eab2b93ce73148fc7d368b9ac9266f37b40d0b"), looks := true }, kinds := [], alts := [], laidByText := true, laidKinds := [.data, .data, .data], laidTests := true, laidLooks := .later }
def RatioSumUptoCardSaid : Prop := Claim7.holds Tryd.pinned (.plain (OpenSpec.upto ratioSumSpec)) ratioSumUptoCard

/-- THE SECOND FORM's CARD OF 'drosslaw04.RatioPercent'. -/
def ratioPercentUptoCard : Claim7 := { stood := { row := ratioPercentUptoRow, standIns := [], harness := (true, "259f698146b54026c256c44a98eab2b93ce73148fc7d368b9ac9266f37b40d0b"), looks := true }, kinds := [], alts := [], laidByText := true, laidKinds := [.data, .data, .data], laidTests := true, laidLooks := .later }
def RatioPercentUptoCardSaid : Prop := Claim7.holds Tryd.pinned (.plain (OpenSpec.upto ratioPercentSpec)) ratioPercentUptoCard

/-- THE SECOND FORM's CARD OF 'drosslaw04.RatioOrder'. -/
def ratioOrderUptoCard : Claim7 := { stood := { row := ratioOrderUptoRow, standIns := [], harness := (true, "259f698146b54026c256c44a98eab2b93ce73148fc7d368b9ac9266f37b40d0b"), looks := true }, kinds := [], alts := [], laidByText := true, laidKinds := [.data, .data, .data], laidTests := true, laidLooks := .later }
def RatioOrderUptoCardSaid : Prop := Claim7.holds Tryd.pinned (.plain (OpenSpec.upto ratioOrderSpec)) ratioOrderUptoCard

/-- THE SECOND FORM's CARD OF 'drosslaw04.RatioProduct'. -/
def ratioProductUptoCard : Claim7 := { stood := { row := ratioProductUptoRow, standIns := [], harness := (true, "259f698146b54026c256c44a98eab2b93ce73148fc7d368b9ac9266f37b40d0b"), looks := true }, kinds := [], alts := [], laidByText := true, laidKinds := [.data, .data, .data], laidTests := true, laidLooks := .later }
def RatioProductUptoCardSaid : Prop := Claim7.holds Tryd.pinned (.plain (OpenSpec.upto ratioProductSpec)) ratioProductUptoCard

/-- THE SECOND FORM's CARD OF 'drosslaw04.RatioLaws'. -/
def ratioLawsUptoCard : Claim7 := { stood := { row := ratioLawsUptoRow, standIns := [], harness := (true, "259f698146b54026c256c44a98eab2b93ce73148fc7d368b9ac9266f37b40d0b"), looks := true }, kinds := [], alts := [], laidByText := true, laidKinds := [.data, .data, .data], laidTests := true, laidLooks := .later }
def RatioLawsUptoCardSaid : Prop := Claim7.holds Tryd.pinned (.plain (OpenSpec.upto ratioLawsSpec)) ratioLawsUptoCard

/-- THE SECOND FORM's CARD OF 'drosslaw04.RatioText'. -/
def ratioTextUptoCard : Claim7 := { stood := { row := ratioTextUptoRow, standIns := [], harness := (true, "259f698146b54026c256c44a98eab2b93ce73148fc7d368b9ac9266f37b40d0b"), looks := true }, kinds := [], alts := [], laidByText := true, laidKinds := [.data, .data, .data, .sentinel, .sentinel], laidTests := true, laidLooks := .later }
def RatioTextUptoCardSaid : Prop := Claim7.holds Tryd.pinned (.plain (OpenSpec.upto ratioTextSpec)) ratioTextUptoCard

/-- THE SECOND FORM's CARD OF 'drosslaw04.RatioParse'. -/
def ratioParseUptoCard : Claim7 := { stood := { row := ratioParseUptoRow, standIns := [], harness := (true, "259f698146b54026c256c44a98eab2b93ce73148fc7d368b9ac9266f37b40d0b"), looks := true }, kinds := [], alts := [], laidByText := true, laidKinds := [.data, .data, .data, .sentinel, .sentinel], laidTests := true, laidLooks := .later }
def RatioParseUptoCardSaid : Prop := Claim7.holds Tryd.pinned (.plain (OpenSpec.upto ratioParseSpec)) ratioParseUptoCard
end Rows
end Go.Proofs.YtcbgkcjlechdnaaDoor
