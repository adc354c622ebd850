/-
  No cell of these rows narrows 'for every input' (looked for: loops, veiled, ifaces, maps, wideKeys, modest, calm, conditions, laid).
  DERIVED. THE GIVEN ROWS OF THIS SEAT. 8 by the template 'for every input the law returns true; each argument reads behind the call as it read before'; 0 by the template 'total and deterministic' (their statements: YtockdinjmnkdoaaTotals.lean).
  GIVEN WITH THE SEED: the statements are not yours to turn. If you find one false, say at which input.
  Laid BY PROGRAM, IN A SANDBOX (cutbox-rows.mjs): the forced cells as the released guide's own fill.sh prints them over the translation ad93b538594c9b58… (all of the seat's roots in one cut). By AI agents, Wed Nov 11 2026. No macro, syntax, notation, axiom, sorry.
-/
import Derived.Test.YtockdinjmnkdoaaChecked
import GoSem.Claim
import GoSem.ClaimJoined
import GoSem.ClaimMapViews
import Derived.JoinedTies
import Derived.KernelRfl
namespace Go.Proofs.Ytockdinjmnkdoaa
/- THE CELL 'sum', in the pinned program and in every row, IS THE sha256 OF THE DUMP (.gsa) THAT YtockdinjmnkdoaaProg.lean LOADS. Nothing in Lean hashes anything: it is a label: what it is worth is what the hold of that sum in a sandbox is worth. -/
noncomputable def Try.pinned : Pinned := { name := "ytockdinjmnkdoaa", sum := "ad93b538594c9b5811cff3daf8381f4b1e0b37b81064fb9d255c35cf5a06aa39", checked := Try.checked }
namespace Rows
def none {H : Type} : Left H := { results := [], args := [] }

/-- 'drosslaw40.AssignmentValid': WHATEVER THE INPUT: true; the input reads as it did. -/
def assignmentValidSpec : ChangeSpec := { name := "assignmentValid", fn := fun _ => fun
  | [d] => { results := [.lit (.bool true)], args := [d] }
  | _ => none }
def assignmentValidRow : OpenClaim := { program := "ytockdinjmnkdoaa", sum := "ad93b538594c9b5811cff3daf8381f4b1e0b37b81064fb9d255c35cf5a06aa39", func := "dross/drosslaw40.AssignmentValid", spec := "assignmentValid", unfollowed := true, recurses := true, apart := false }
def AssignmentValidSaid : Prop := assignmentValidRow.holds Try.pinned (OpenSpec.ofChange assignmentValidSpec)

/-- ITS FALSE NEIGHBOUR: 'it returns false'. Refute it at one input. -/
def assignmentValidWrong : ChangeSpec := { name := "assignmentValid", fn := fun _ => fun
  | [d] => { results := [.lit (.bool false)], args := [d] }
  | _ => none }
def AssignmentValidWrongFalsely : Prop := assignmentValidRow.holds Try.pinned (OpenSpec.ofChange assignmentValidWrong)

/-- 'drosslaw40.AssignmentSolve': WHATEVER THE INPUT: true; the input reads as it did. -/
def assignmentSolveSpec : ChangeSpec := { name := "assignmentSolve", fn := fun _ => fun
  | [d] => { results := [.lit (.bool true)], args := [d] }
  | _ => none }
def assignmentSolveRow : OpenClaim := { program := "ytockdinjmnkdoaa", sum := "ad93b538594c9b5811cff3daf8381f4b1e0b37b81064fb9d255c35cf5a06aa39", func := "dross/drosslaw40.AssignmentSolve", spec := "assignmentSolve", unfollowed := true, recurses := true, apart := false }
def AssignmentSolveSaid : Prop := assignmentSolveRow.holds Try.pinned (OpenSpec.ofChange assignmentSolveSpec)

/-- ITS FALSE NEIGHBOUR: 'it returns false'. Refute it at one input. -/
def assignmentSolveWrong : ChangeSpec := { name := "assignmentSolve", fn := fun _ => fun
  | [d] => { results := [.lit (.bool false)], args := [d] }
  | _ => none }
def AssignmentSolveWrongFalsely : Prop := assignmentSolveRow.holds Try.pinned (OpenSpec.ofChange assignmentSolveWrong)

/-- 'drosslaw40.AssignmentCheck': WHATEVER THE INPUT: true; the input reads as it did. -/
def assignmentCheckSpec : ChangeSpec := { name := "assignmentCheck", fn := fun _ => fun
  | [d1, d2, d3] => { results := [.lit (.bool true)], args := [d1, d2, d3] }
  | _ => none }
def assignmentCheckRow : OpenClaim := { program := "ytockdinjmnkdoaa", sum := "ad93b538594c9b5811cff3daf8381f4b1e0b37b81064fb9d255c35cf5a06aa39", func := "dross/drosslaw40.AssignmentCheck", spec := "assignmentCheck", unfollowed := true, recurses := true, apart := false }
def AssignmentCheckSaid : Prop := assignmentCheckRow.holds Try.pinned (OpenSpec.ofChange assignmentCheckSpec)

/-- ITS FALSE NEIGHBOUR: 'it returns false'. Refute it at one input. -/
def assignmentCheckWrong : ChangeSpec := { name := "assignmentCheck", fn := fun _ => fun
  | [d1, d2, d3] => { results := [.lit (.bool false)], args := [d1, d2, d3] }
  | _ => none }
def AssignmentCheckWrongFalsely : Prop := assignmentCheckRow.holds Try.pinned (OpenSpec.ofChange assignmentCheckWrong)

/-- 'drosslaw40.AssignmentSound': WHATEVER THE INPUT: true; the input reads as it did. -/
def assignmentSoundSpec : ChangeSpec := { name := "assignmentSound", fn := fun _ => fun
  | [d1, d2, d3] => { results := [.lit (.bool true)], args := [d1, d2, d3] }
  | _ => none }
def assignmentSoundRow : OpenClaim := { program := "ytockdinjmnkdoaa", sum := "ad93b538594c9b5811cff3daf8381f4b1e0b37b81064fb9d255c35cf5a06aa39", func := "dross/drosslaw40.AssignmentSound", spec := "assignmentSound", unfollowed := true, recurses := true, apart := false }
def AssignmentSoundSaid : Prop := assignmentSoundRow.holds Try.pinned (OpenSpec.ofChange assignmentSoundSpec)

/-- ITS FALSE NEIGHBOUR: 'it returns false'. Refute it at one input. -/
def assignmentSoundWrong : ChangeSpec := { name := "assignmentSound", fn := fun _ => fun
  | [d1, d2, d3] => { results := [.lit (.bool false)], args := [d1, d2, d3] }
  | _ => none }
def AssignmentSoundWrongFalsely : Prop := assignmentSoundRow.holds Try.pinned (OpenSpec.ofChange assignmentSoundWrong)

/-- 'drosslaw40.AssignmentPartial': WHATEVER THE INPUT: true; the input reads as it did. -/
def assignmentPartialSpec : ChangeSpec := { name := "assignmentPartial", fn := fun _ => fun
  | [d] => { results := [.lit (.bool true)], args := [d] }
  | _ => none }
def assignmentPartialRow : OpenClaim := { program := "ytockdinjmnkdoaa", sum := "ad93b538594c9b5811cff3daf8381f4b1e0b37b81064fb9d255c35cf5a06aa39", func := "dross/drosslaw40.AssignmentPartial", spec := "assignmentPartial", unfollowed := true, recurses := true, apart := false }
def AssignmentPartialSaid : Prop := assignmentPartialRow.holds Try.pinned (OpenSpec.ofChange assignmentPartialSpec)

/-- ITS FALSE NEIGHBOUR: 'it returns false'. Refute it at one input. -/
def assignmentPartialWrong : ChangeSpec := { name := "assignmentPartial", fn := fun _ => fun
  | [d] => { results := [.lit (.bool false)], args := [d] }
  | _ => none }
def AssignmentPartialWrongFalsely : Prop := assignmentPartialRow.holds Try.pinned (OpenSpec.ofChange assignmentPartialWrong)

/-- 'drosslaw40.AssignmentShift': WHATEVER THE INPUT: true; the input reads as it did. -/
def assignmentShiftSpec : ChangeSpec := { name := "assignmentShift", fn := fun _ => fun
  | [d1, d2, d3] => { results := [.lit (.bool true)], args := [d1, d2, d3] }
  | _ => none }
def assignmentShiftRow : OpenClaim := { program := "ytockdinjmnkdoaa", sum := "ad93b538594c9b5811cff3daf8381f4b1e0b37b81064fb9d255c35cf5a06aa39", func := "dross/drosslaw40.AssignmentShift", spec := "assignmentShift", unfollowed := true, recurses := true, apart := false }
def AssignmentShiftSaid : Prop := assignmentShiftRow.holds Try.pinned (OpenSpec.ofChange assignmentShiftSpec)

/-- ITS FALSE NEIGHBOUR: 'it returns false'. Refute it at one input. -/
def assignmentShiftWrong : ChangeSpec := { name := "assignmentShift", fn := fun _ => fun
  | [d1, d2, d3] => { results := [.lit (.bool false)], args := [d1, d2, d3] }
  | _ => none }
def AssignmentShiftWrongFalsely : Prop := assignmentShiftRow.holds Try.pinned (OpenSpec.ofChange assignmentShiftWrong)

/-- 'drosslaw40.AssignmentGreatest': WHATEVER THE INPUT: true; the input reads as it did. -/
def assignmentGreatestSpec : ChangeSpec := { name := "assignmentGreatest", fn := fun _ => fun
  | [d] => { results := [.lit (.bool true)], args := [d] }
  | _ => none }
def assignmentGreatestRow : OpenClaim := { program := "ytockdinjmnkdoaa", sum := "ad93b538594c9b5811cff3daf8381f4b1e0b37b81064fb9d255c35cf5a06aa39", func := "dross/drosslaw40.AssignmentGreatest", spec := "assignmentGreatest", unfollowed := true, recurses := true, apart := false }
def AssignmentGreatestSaid : Prop := assignmentGreatestRow.holds Try.pinned (OpenSpec.ofChange assignmentGreatestSpec)

/-- ITS FALSE NEIGHBOUR: 'it returns false'. Refute it at one input. -/
def assignmentGreatestWrong : ChangeSpec := { name := "assignmentGreatest", fn := fun _ => fun
  | [d] => { results := [.lit (.bool false)], args := [d] }
  | _ => none }
def AssignmentGreatestWrongFalsely : Prop := assignmentGreatestRow.holds Try.pinned (OpenSpec.ofChange assignmentGreatestWrong)

/-- 'drosslaw40.AssignmentCost': WHATEVER THE INPUT: true; the input reads as it did. -/
def assignmentCostSpec : ChangeSpec := { name := "assignmentCost", fn := fun _ => fun
  | [d1, d2] => { results := [.lit (.bool true)], args := [d1, d2] }
  | _ => none }
def assignmentCostRow : OpenClaim := { program := "ytockdinjmnkdoaa", sum := "ad93b538594c9b5811cff3daf8381f4b1e0b37b81064fb9d255c35cf5a06aa39", func := "dross/drosslaw40.AssignmentCost", spec := "assignmentCost", unfollowed := true, recurses := true, apart := false }
def AssignmentCostSaid : Prop := assignmentCostRow.holds Try.pinned (OpenSpec.ofChange assignmentCostSpec)

/-- ITS FALSE NEIGHBOUR: 'it returns false'. Refute it at one input. -/
def assignmentCostWrong : ChangeSpec := { name := "assignmentCost", fn := fun _ => fun
  | [d1, d2] => { results := [.lit (.bool false)], args := [d1, d2] }
  | _ => none }
def AssignmentCostWrongFalsely : Prop := assignmentCostRow.holds Try.pinned (OpenSpec.ofChange assignmentCostWrong)

/- THE SECOND FORM. 'bulk': how many values and letters a reading holds, each counted each time it is reached (what is shared counts as often as it is met; a slice's spare places count too). A statement '..UptoSaid' is the law's where the arguments, and the package variables that the reading takes, are together of bulk at most 1048576: NARROWER than '..Said'. Prove '..Said' where nothing that the law and all that it calls make is longer than what came in: it says more and counts as full. Else prove '..UptoSaid'. A law counts once. -/
mutual
def uptoBulk {H : Type} : DataW H → Nat
  | .lit (.string bytes) => bytes.length + 1
  | .lit _ => 1
  | .nil => 1
  | .ptr d => uptoBulk d + 1
  | .slice elems spare => uptoBulkAll elems + uptoBulkAll spare + 1
  | .agg parts => uptoBulkAll parts + 1
  | .iface _ d => uptoBulk d + 1
  | .map entries => uptoBulkEntries entries + 1
  | .held _ => 1
def uptoBulkAll {H : Type} : List (DataW H) → Nat
  | [] => 0
  | d :: r => uptoBulk d + uptoBulkAll r
def uptoBulkEntries {H : Type} : List (Lit × DataW H) → Nat
  | [] => 0
  | x :: r => uptoBulkEntry x + uptoBulkEntries r
def uptoBulkEntry {H : Type} : Lit × DataW H → Nat
  | (.string bytes, d) => bytes.length + uptoBulk d + 1
  | (_, d) => uptoBulk d + 1
 end
def uptoSmall : (H : Type) → List (DataW H) → Bool := fun _ ds => decide (uptoBulkAll ds ≤ 1048576)
def OpenSpec.upto (s : _root_.Go.ChangeSpec) : _root_.Go.OpenSpec := { _root_.Go.OpenSpec.ofChange s with cond := some uptoSmall }

/-- 'drosslaw40.AssignmentValid', WHERE WHAT IT READS IS OF BULK AT MOST 1048576: true; the input reads as it did. -/
def assignmentValidUptoRow : OpenClaim := { program := "ytockdinjmnkdoaa", sum := "ad93b538594c9b5811cff3daf8381f4b1e0b37b81064fb9d255c35cf5a06aa39", func := "dross/drosslaw40.AssignmentValid", spec := "assignmentValid", unfollowed := true, recurses := true, apart := false, narrowed := true }
def AssignmentValidUptoSaid : Prop := assignmentValidUptoRow.holds Try.pinned (OpenSpec.upto assignmentValidSpec)

/-- 'drosslaw40.AssignmentSolve', WHERE WHAT IT READS IS OF BULK AT MOST 1048576: true; the input reads as it did. -/
def assignmentSolveUptoRow : OpenClaim := { program := "ytockdinjmnkdoaa", sum := "ad93b538594c9b5811cff3daf8381f4b1e0b37b81064fb9d255c35cf5a06aa39", func := "dross/drosslaw40.AssignmentSolve", spec := "assignmentSolve", unfollowed := true, recurses := true, apart := false, narrowed := true }
def AssignmentSolveUptoSaid : Prop := assignmentSolveUptoRow.holds Try.pinned (OpenSpec.upto assignmentSolveSpec)

/-- 'drosslaw40.AssignmentCheck', WHERE WHAT IT READS IS OF BULK AT MOST 1048576: true; the input reads as it did. -/
def assignmentCheckUptoRow : OpenClaim := { program := "ytockdinjmnkdoaa", sum := "ad93b538594c9b5811cff3daf8381f4b1e0b37b81064fb9d255c35cf5a06aa39", func := "dross/drosslaw40.AssignmentCheck", spec := "assignmentCheck", unfollowed := true, recurses := true, apart := false, narrowed := true }
def AssignmentCheckUptoSaid : Prop := assignmentCheckUptoRow.holds Try.pinned (OpenSpec.upto assignmentCheckSpec)

/-- 'drosslaw40.AssignmentSound', WHERE WHAT IT READS IS OF BULK AT MOST 1048576: true; the input reads as it did. -/
def assignmentSoundUptoRow : OpenClaim := { program := "ytockdinjmnkdoaa", sum := "ad93b538594c9b5811cff3daf8381f4b1e0b37b81064fb9d255c35cf5a06aa39", func := "dross/drosslaw40.AssignmentSound", spec := "assignmentSound", unfollowed := true, recurses := true, apart := false, narrowed := true }
def AssignmentSoundUptoSaid : Prop := assignmentSoundUptoRow.holds Try.pinned (OpenSpec.upto assignmentSoundSpec)

/-- 'drosslaw40.AssignmentPartial', WHERE WHAT IT READS IS OF BULK AT MOST 1048576: true; the input reads as it did. -/
def assignmentPartialUptoRow : OpenClaim := { program := "ytockdinjmnkdoaa", sum := "ad93b538594c9b5811cff3daf8381f4b1e0b37b81064fb9d255c35cf5a06aa39", func := "dross/drosslaw40.AssignmentPartial", spec := "assignmentPartial", unfollowed := true, recurses := true, apart := false, narrowed := true }
def AssignmentPartialUptoSaid : Prop := assignmentPartialUptoRow.holds Try.pinned (OpenSpec.upto assignmentPartialSpec)

/-- 'drosslaw40.AssignmentShift', WHERE WHAT IT READS IS OF BULK AT MOST 1048576: true; the input reads as it did. -/
def assignmentShiftUptoRow : OpenClaim := { program := "ytockdinjmnkdoaa", sum := "ad93b538594c9b5811cff3daf8381f4b1e0b37b81064fb9d255c35cf5a06aa39", func := "dross/drosslaw40.AssignmentShift", spec := "assignmentShift", unfollowed := true, recurses := true, apart := false, narrowed := true }
def AssignmentShiftUptoSaid : Prop := assignmentShiftUptoRow.holds Try.pinned (OpenSpec.upto assignmentShiftSpec)

/-- 'drosslaw40.AssignmentGreatest', WHERE WHAT IT READS IS OF BULK AT MOST 1048576: true; the input reads as it did. -/
def assignmentGreatestUptoRow : OpenClaim := { program := "ytockdinjmnkdoaa", sum := "ad93b538594c9b5811cff3daf8381f4b1e0b37b81064fb9d255c35cf5a06aa39", func := "dross/drosslaw40.AssignmentGreatest", spec := "assignmentGreatest", unfollowed := true, recurses := true, apart := false, narrowed := true }
def AssignmentGreatestUptoSaid : Prop := assignmentGreatestUptoRow.holds Try.pinned (OpenSpec.upto assignmentGreatestSpec)

/-- 'drosslaw40.AssignmentCost', WHERE WHAT IT READS IS OF BULK AT MOST 1048576: true; the input reads as it did. -/
def assignmentCostUptoRow : OpenClaim := { program := "ytockdinjmnkdoaa", sum := "ad93b538594c9b5811cff3daf8381f4b1e0b37b81064fb9d255c35cf5a06aa39", func := "dross/drosslaw40.AssignmentCost", spec := "assignmentCost", unfollowed := true, recurses := true, apart := false, narrowed := true }
def AssignmentCostUptoSaid : Prop := assignmentCostUptoRow.holds Try.pinned (OpenSpec.upto assignmentCostSpec)

end Rows
end Go.Proofs.Ytockdinjmnkdoaa
