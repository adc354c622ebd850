/-
  DERIVED. GIVEN WITH THE SEED: THE CARDS: each row of YtblfodnajpamfaaGreatDoorRows.lean that lists a variable, with what it lists TIED to the program's text (the seventh form; the later family's looks); each row that meets fmt, with fmt's text TOLD by the authors' own Lean function (tested against real Go, not proved from fmt's source: count such statements apart). THE CARD IS WHAT COUNTS. Prove the row's statement (the work); the ties are given (YtblfodnajpamfaaGreatDoorTie.lean); close each card by the builder's one call (the guide's Derived/Test/ToyasCard.lean, 'card_holds'). Laid BY PROGRAM, IN A SANDBOX (cutbox-door.mjs). By AI agents, Wed Nov 11 2026. No macro, syntax, notation, axiom, sorry.
-/
import Derived.Test.YtblfodnajpamfaaGreatDoorRows
import GoSem.ClaimSeven
namespace Go.Proofs.YtblfodnajpamfaaGreatDoor
namespace Rows

/-- THE TIED CARD OF 'drosslaw15.InclusionProve'. -/
def inclusionProveCard : Claim7 := { stood := { row := inclusionProveRow, standIns := [], harness := (true, "9bd482a327342b73df42cdc31ac9d5d73f68b31e4aeb9840a3ad041cef834f73"), looks := false }, kinds := [], alts := [], laidByText := true, laidKinds := [.data, .data, .data], laidTests := true, laidLooks := .later }
def InclusionProveCardSaid : Prop := Claim7.holds Tryz.pinned (.plain (OpenSpec.ofChange inclusionProveSpec)) inclusionProveCard

/-- THE TIED CARD OF 'drosslaw15.InclusionCheck'. -/
def inclusionCheckCard : Claim7 := { stood := { row := inclusionCheckRow, standIns := [], harness := (true, "9bd482a327342b73df42cdc31ac9d5d73f68b31e4aeb9840a3ad041cef834f73"), looks := false }, kinds := [], alts := [], laidByText := true, laidKinds := [.data, .data, .data], laidTests := true, laidLooks := .later }
def InclusionCheckCardSaid : Prop := Claim7.holds Tryz.pinned (.plain (OpenSpec.ofChange inclusionCheckSpec)) inclusionCheckCard

/-- THE TIED CARD OF 'drosslaw15.InclusionRefute'. -/
def inclusionRefuteCard : Claim7 := { stood := { row := inclusionRefuteRow, standIns := [], harness := (true, "9bd482a327342b73df42cdc31ac9d5d73f68b31e4aeb9840a3ad041cef834f73"), looks := false }, kinds := [], alts := [], laidByText := true, laidKinds := [.data, .data, .data], laidTests := true, laidLooks := .later }
def InclusionRefuteCardSaid : Prop := Claim7.holds Tryz.pinned (.plain (OpenSpec.ofChange inclusionRefuteSpec)) inclusionRefuteCard

/-- THE TIED CARD OF 'drosslaw15.InclusionErrors'. -/
def inclusionErrorsCard : Claim7 := { stood := { row := inclusionErrorsRow, standIns := [], harness := (true, "9bd482a327342b73df42cdc31ac9d5d73f68b31e4aeb9840a3ad041cef834f73"), looks := false }, kinds := [], alts := [], laidByText := true, laidKinds := [.data, .data, .data], laidTests := true, laidLooks := .later }
def InclusionErrorsCardSaid : Prop := Claim7.holds Tryz.pinned (.plain (OpenSpec.ofChange inclusionErrorsSpec)) inclusionErrorsCard

/-- THE TIED CARD OF 'drosslaw15.InclusionHolds'. -/
def inclusionHoldsCard : Claim7 := { stood := { row := inclusionHoldsRow, standIns := [], harness := (true, "9bd482a327342b73df42cdc31ac9d5d73f68b31e4aeb9840a3ad041cef834f73"), looks := false }, kinds := [], alts := [], laidByText := true, laidKinds := [.data, .data, .data], laidTests := true, laidLooks := .later }
def InclusionHoldsCardSaid : Prop := Claim7.holds Tryz.pinned (.plain (OpenSpec.ofChange inclusionHoldsSpec)) inclusionHoldsCard

/-- THE TIED CARD OF 'drosslaw15.InclusionSound'. -/
def inclusionSoundCard : Claim7 := { stood := { row := inclusionSoundRow, standIns := [], harness := (true, "9bd482a327342b73df42cdc31ac9d5d73f68b31e4aeb9840a3ad041cef834f73"), looks := false }, kinds := [], alts := [], laidByText := true, laidKinds := [.data, .data, .data], laidTests := true, laidLooks := .later }
def InclusionSoundCardSaid : Prop := Claim7.holds Tryz.pinned (.plain (OpenSpec.ofChange inclusionSoundSpec)) inclusionSoundCard

/-- THE SECOND FORM's CARD OF 'drosslaw15.InclusionProve'. -/
def inclusionProveUptoCard : Claim7 := { stood := { row := inclusionProveUptoRow, standIns := [], harness := (true, "9bd482a327342b73df42cdc31ac9d5d73f68b31e4aeb9840a3ad041cef834f73"), looks := false }, kinds := [], alts := [], laidByText := true, laidKinds := [.data, .data, .data], laidTests := true, laidLooks := .later }
def InclusionProveUptoCardSaid : Prop := Claim7.holds Tryz.pinned (.plain (OpenSpec.upto inclusionProveSpec)) inclusionProveUptoCard

/-- THE SECOND FORM's CARD OF 'drosslaw15.InclusionCheck'. -/
def inclusionCheckUptoCard : Claim7 := { stood := { row := inclusionCheckUptoRow, standIns := [], harness := (true, "9bd482a327342b73df42cdc31ac9d5d73f68b31e4aeb9840a3ad041cef834f73"), looks := false }, kinds := [], alts := [], laidByText := true, laidKinds := [.data, .data, .data], laidTests := true, laidLooks := .later }
def InclusionCheckUptoCardSaid : Prop := Claim7.holds Tryz.pinned (.plain (OpenSpec.upto inclusionCheckSpec)) inclusionCheckUptoCard

/-- THE SECOND FORM's CARD OF 'drosslaw15.InclusionRefute'. -/
def inclusionRefuteUptoCard : Claim7 := { stood := { row := inclusionRefuteUptoRow, standIns := [], harness := (true, "9bd482a327342b73df42cdc31ac9d5d73f68b31e4aeb9840a3ad041cef834f73"), looks := false }, kinds := [], alts := [], laidByText := true, laidKinds := [.data, .data, .data], laidTests := true, laidLooks := .later }
def InclusionRefuteUptoCardSaid : Prop := Claim7.holds Tryz.pinned (.plain (OpenSpec.upto inclusionRefuteSpec)) inclusionRefuteUptoCard

/-- THE SECOND FORM's CARD OF 'drosslaw15.InclusionErrors'. -/
def inclusionErrorsUptoCard : Claim7 := { stood := { row := inclusionErrorsUptoRow, standIns := [], harness := (true, "9bd482a327342b73df42cdc31ac9d5d73f68b31e4aeb9840a3ad041cef834f73"), looks := false }, kinds := [], alts := [], laidByText := true, laidKinds := [.data, .data, .data], laidTests := true, laidLooks := .later }
def InclusionErrorsUptoCardSaid : Prop := Claim7.holds Tryz.pinned (.plain (OpenSpec.upto inclusionErrorsSpec)) inclusionErrorsUptoCard

/-- THE SECOND FORM's CARD OF 'drosslaw15.InclusionHolds'. -/
def inclusionHoldsUptoCard : Claim7 := { stood := { row := inclusionHoldsUptoRow, standIns := [], harness := (true, "9bd482a327342b73df42cdc31ac9d5d73f68b31e4aeb9840a3ad041cef834f73"), looks := false }, kinds := [], alts := [], laidByText := true, laidKinds := [.data, .data, .data], laidTests := true, laidLooks := .later }
def InclusionHoldsUptoCardSaid : Prop := Claim7.holds Tryz.pinned (.plain (OpenSpec.upto inclusionHoldsSpec)) inclusionHoldsUptoCard

/-- THE SECOND FORM's CARD OF 'drosslaw15.InclusionSound'. -/
def inclusionSoundUptoCard : Claim7 := { stood := { row := inclusionSoundUptoRow, standIns := [], harness := (true, "9bd482a327342b73df42cdc31ac9d5d73f68b31e4aeb9840a3ad041cef834f73"), looks := false }, kinds := [], alts := [], laidByText := true, laidKinds := [.data, .data, .data], laidTests := true, laidLooks := .later }
def InclusionSoundUptoCardSaid : Prop := Claim7.holds Tryz.pinned (.plain (OpenSpec.upto inclusionSoundSpec)) inclusionSoundUptoCard
end Rows
end Go.Proofs.YtblfodnajpamfaaGreatDoor
