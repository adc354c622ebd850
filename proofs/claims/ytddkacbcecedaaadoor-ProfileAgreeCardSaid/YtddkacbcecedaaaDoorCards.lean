/-
  DERIVED. GIVEN WITH THE SEED: THE CARDS: each row of YtddkacbcecedaaaDoorRows.lean that lists a variable, with what it lists TIED to the program's text (the seventh form; the later family's looks); each row that meets fmt, with fmt's text TOLD by the authors' own Lean function (tested against real Go, not proved from fmt's source: count such statements apart). THE CARD IS WHAT COUNTS. Prove the row's statement (the work); the ties are given (YtddkacbcecedaaaDoorTie.lean); close each card by the builder's one call (the guide's Derived/Test/ToyasCard.lean, 'card_holds'). Laid BY PROGRAM, IN A SANDBOX (cutbox-door.mjs). By AI agents, Wed Nov 11 2026. No macro, syntax, notation, axiom, sorry.
-/
import Derived.Test.YtddkacbcecedaaaDoorRows
import GoSem.ClaimSeven
namespace Go.Proofs.YtddkacbcecedaaaDoor
namespace Rows

/-- THE TIED CARD OF 'drosslaw34.ProfileOutliers'. -/
def profileOutliersCard : Claim7 := { stood := { row := profileOutliersRow, standIns := [], harness := (true, "c540ca2594e9bd65066077ffd870b0a3532010a853a18bdb9b1cf66c123ed983"), looks := false }, kinds := [], alts := [], laidByText := true, laidKinds := [.data, .data, .data], laidTests := true, laidLooks := .later }
def ProfileOutliersCardSaid : Prop := Claim7.holds Tryd.pinned (.plain (OpenSpec.ofChange profileOutliersSpec)) profileOutliersCard

/-- THE TIED CARD OF 'drosslaw34.ProfileShifted'. -/
def profileShiftedCard : Claim7 := { stood := { row := profileShiftedRow, standIns := [], harness := (true, "c540ca2594e9bd65066077ffd870b0a3532010a853a18bdb9b1cf66c123ed983"), looks := false }, kinds := [], alts := [], laidByText := true, laidKinds := [.data, .data, .data], laidTests := true, laidLooks := .later }
def ProfileShiftedCardSaid : Prop := Claim7.holds Tryd.pinned (.plain (OpenSpec.ofChange profileShiftedSpec)) profileShiftedCard

/-- THE TIED CARD OF 'drosslaw34.ProfileOf'. -/
def profileOfCard : Claim7 := { stood := { row := profileOfRow, standIns := [], harness := (true, "c540ca2594e9bd65066077ffd870b0a3532010a853a18bdb9b1cf66c123ed983"), looks := false }, kinds := [], alts := [], laidByText := true, laidKinds := [.data, .data, .data], laidTests := true, laidLooks := .later }
def ProfileOfCardSaid : Prop := Claim7.holds Tryd.pinned (.plain (OpenSpec.ofChange profileOfSpec)) profileOfCard

/-- THE TIED CARD OF 'drosslaw34.ProfileHistogram'. -/
def profileHistogramCard : Claim7 := { stood := { row := profileHistogramRow, standIns := [], harness := (true, "c540ca2594e9bd65066077ffd870b0a3532010a853a18bdb9b1cf66c123ed983"), looks := false }, kinds := [], alts := [], laidByText := true, laidKinds := [.data, .data, .data], laidTests := true, laidLooks := .later }
def ProfileHistogramCardSaid : Prop := Claim7.holds Tryd.pinned (.plain (OpenSpec.ofChange profileHistogramSpec)) profileHistogramCard

/-- THE TIED CARD OF 'drosslaw34.ProfileAgree'. -/
def profileAgreeCard : Claim7 := { stood := { row := profileAgreeRow, standIns := [], harness := (true, "c540ca2594e9bd65066077ffd870b0a3532010a853a18bdb9b1cf66c123ed983"), looks := false }, kinds := [], alts := [], laidByText := true, laidKinds := [.data, .data, .data], laidTests := true, laidLooks := .later }
def ProfileAgreeCardSaid : Prop := Claim7.holds Tryd.pinned (.plain (OpenSpec.ofChange profileAgreeSpec)) profileAgreeCard

/-- THE SECOND FORM's CARD OF 'drosslaw34.ProfileOutliers'. -/
def profileOutliersUptoCard : Claim7 := { stood := { row := profileOutliersUptoRow, standIns := [], harness := (true, "c540ca2594e9bd65066077ffd870b0a3532010a853a18bdb9b1cf66c123ed983"), looks := false }, kinds := [], alts := [], laidByText := true, laidKinds := [.data, .data, .data], laidTests := true, laidLooks := .later }
def ProfileOutliersUptoCardSaid : Prop := Claim7.holds Tryd.pinned (.plain (OpenSpec.upto profileOutliersSpec)) profileOutliersUptoCard

/-- THE SECOND FORM's CARD OF 'drosslaw34.ProfileShifted'. -/
def profileShiftedUptoCard : Claim7 := { stood := { row := profileShiftedUptoRow, standIns := [], harness := (true, "c540ca2594e9bd65066077ffd870b0a3532010a853a18bdb9b1cf66c123ed983"), looks := false }, kinds := [], alts := [], laidByText := true, laidKinds := [.data, .data, .data], laidTests := true, laidLooks := .later }
def ProfileShiftedUptoCardSaid : Prop := Claim7.holds Tryd.pinned (.plain (OpenSpec.upto profileShiftedSpec)) profileShiftedUptoCard

/-- THE SECOND FORM's CARD OF 'drosslaw34.ProfileOf'. -/
def profileOfUptoCard : Claim7 := { stood := { row := profileOfUptoRow, standIns := [], harness := (true, "c540ca2594e9bd65066077ffd870b0a3532010a853a18bdb9b1cf66c123ed983"), looks := false }, kinds := [], alts := [], laidByText := true, laidKinds := [.data, .data, .data], laidTests := true, laidLooks := .later }
def ProfileOfUptoCardSaid : Prop := Claim7.holds Tryd.pinned (.plain (OpenSpec.upto profileOfSpec)) profileOfUptoCard

/-- THE SECOND FORM's CARD OF 'drosslaw34.ProfileHistogram'. -/
def profileHistogramUptoCard : Claim7 := { stood := { row := profileHistogramUptoRow, standIns := [], harness := (true, "c540ca2594e9bd65066077ffd870b0a3532010a853a18bdb9b1cf66c123ed983"), looks := false }, kinds := [], alts := [], laidByText := true, laidKinds := [.data, .data, .data], laidTests := true, laidLooks := .later }
def ProfileHistogramUptoCardSaid : Prop := Claim7.holds Tryd.pinned (.plain (OpenSpec.upto profileHistogramSpec)) profileHistogramUptoCard

/-- THE SECOND FORM's CARD OF 'drosslaw34.ProfileAgree'. -/
def profileAgreeUptoCard : Claim7 := { stood := { row := profileAgreeUptoRow, standIns := [], harness := (true, "c540ca2594e9bd65066077ffd870b0a3532010a853a18bdb9b1cf66c123ed983"), looks := false }, kinds := [], alts := [], laidByText := true, laidKinds := [.data, .data, .data], laidTests := true, laidLooks := .later }
def ProfileAgreeUptoCardSaid : Prop := Claim7.holds Tryd.pinned (.plain (OpenSpec.upto profileAgreeSpec)) profileAgreeUptoCard
end Rows
end Go.Proofs.YtddkacbcecedaaaDoor
