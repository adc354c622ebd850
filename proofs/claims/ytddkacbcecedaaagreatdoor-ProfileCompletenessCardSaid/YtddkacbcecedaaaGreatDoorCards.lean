/-
  DERIVED. GIVEN WITH THE SEED: THE CARDS: each row of YtddkacbcecedaaaGreatDoorRows.lean that lists a variable, with what it lists TIED to the program's text (the seventh form; the later family's looks); each row that meets fmt, with fmt's text TOLD by the authors' own Lean function (tested against real Go, not proved from fmt's source: count such statements apart). THE CARD IS WHAT COUNTS. Prove the row's statement (the work); the ties are given (YtddkacbcecedaaaGreatDoorTie.lean); close each card by the builder's one call (the guide's Derived/Test/ToyasCard.lean, 'card_holds'). Laid BY PROGRAM, IN A SANDBOX (cutbox-door.mjs). By AI agents, Wed Nov 11 2026. No macro, syntax, notation, axiom, sorry.
-/
import Derived.Test.YtddkacbcecedaaaGreatDoorRows
import GoSem.ClaimSeven
namespace Go.Proofs.YtddkacbcecedaaaGreatDoor
namespace Rows

/-- THE TIED CARD OF 'drosslaw34.ProfileFormat'. -/
def profileFormatCard : Claim7 := { stood := { row := profileFormatRow, standIns := [], harness := (true, "9f98183d050cb6d949e73b17777ed047214958625260d4f9ed69d57e8b17e08d"), looks := false }, kinds := [], alts := [], laidByText := true, laidKinds := [.data, .data, .data], laidTests := true, laidLooks := .later }
def ProfileFormatCardSaid : Prop := Claim7.holds Tryz.pinned (.plain (OpenSpec.ofChange profileFormatSpec)) profileFormatCard

/-- THE TIED CARD OF 'drosslaw34.ProfileCompleteness'. -/
def profileCompletenessCard : Claim7 := { stood := { row := profileCompletenessRow, standIns := [], harness := (true, "9f98183d050cb6d949e73b17777ed047214958625260d4f9ed69d57e8b17e08d"), looks := false }, kinds := [], alts := [], laidByText := true, laidKinds := [.data, .data, .data], laidTests := true, laidLooks := .later }
def ProfileCompletenessCardSaid : Prop := Claim7.holds Tryz.pinned (.plain (OpenSpec.ofChange profileCompletenessSpec)) profileCompletenessCard

/-- THE SECOND FORM's CARD OF 'drosslaw34.ProfileFormat'. -/
def profileFormatUptoCard : Claim7 := { stood := { row := profileFormatUptoRow, standIns := [], harness := (true, "9f98183d050cb6d949e73b17777ed047214958625260d4f9ed69d57e8b17e08d"), looks := false }, kinds := [], alts := [], laidByText := true, laidKinds := [.data, .data, .data], laidTests := true, laidLooks := .later }
def ProfileFormatUptoCardSaid : Prop := Claim7.holds Tryz.pinned (.plain (OpenSpec.upto profileFormatSpec)) profileFormatUptoCard

/-- THE SECOND FORM's CARD OF 'drosslaw34.ProfileCompleteness'. -/
def profileCompletenessUptoCard : Claim7 := { stood := { row := profileCompletenessUptoRow, standIns := [], harness := (true, "9f98183d050cb6d949e73b17777ed047214958625260d4f9ed69d57e8b17e08d"), looks := false }, kinds := [], alts := [], laidByText := true, laidKinds := [.data, .data, .data], laidTests := true, laidLooks := .later }
def ProfileCompletenessUptoCardSaid : Prop := Claim7.holds Tryz.pinned (.plain (OpenSpec.upto profileCompletenessSpec)) profileCompletenessUptoCard
end Rows
end Go.Proofs.YtddkacbcecedaaaGreatDoor
