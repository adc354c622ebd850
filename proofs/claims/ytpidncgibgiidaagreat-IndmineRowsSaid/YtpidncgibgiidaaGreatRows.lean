/-
  No cell of these rows narrows 'for every input' (looked for: loops, veiled, ifaces, maps, wideKeys, modest, calm, conditions, laid).
  DERIVED. THE GIVEN ROWS OF THIS SEAT. 7 by the template 'for every input the law returns true; each argument reads behind the call as it read before'; 0 by the template 'total and deterministic' (their statements: YtpidncgibgiidaaGreatTotals.lean).
  GIVEN WITH THE SEED: the statements are not yours to turn. If you find one false, say at which input.
  Laid BY PROGRAM, IN A SANDBOX (cutbox-rows.mjs): the forced cells as the released guide's own fill.sh prints them over the translation 4b4f8c771f35a590… (all of the seat's roots in one cut). By AI agents, Wed Nov 11 2026. No macro, syntax, notation, axiom, sorry.
-/
import Derived.Test.YtpidncgibgiidaaGreatChecked
import GoSem.Claim
import GoSem.ClaimJoined
import GoSem.ClaimMapViews
import Derived.JoinedTies
import Derived.KernelRfl
namespace Go.Proofs.YtpidncgibgiidaaGreat
/- THE CELL 'sum', in the pinned program and in every row, IS THE sha256 OF THE DUMP (.gsa) THAT YtpidncgibgiidaaGreatProg.lean LOADS. Nothing in Lean hashes anything: it is a label: what it is worth is what the hold of that sum in a sandbox is worth. -/
noncomputable def Tryz.pinned : Pinned := { name := "ytpidncgibgiidaagreat", sum := "4b4f8c771f35a590e687318fe6f551dfff0e159f991f5640a89f96183f43fc31", checked := Tryz.checked }
namespace Rows
def none {H : Type} : Left H := { results := [], args := [] }

/-- 'drosslaw30.IndmineAll': WHATEVER THE INPUT: true; the input reads as it did. -/
def indmineAllSpec : ChangeSpec := { name := "indmineAll", fn := fun _ => fun
  | [d1, d2] => { results := [.lit (.bool true)], args := [d1, d2] }
  | _ => none }
def indmineAllRow : OpenClaim := { program := "ytpidncgibgiidaagreat", sum := "4b4f8c771f35a590e687318fe6f551dfff0e159f991f5640a89f96183f43fc31", func := "dross/drosslaw30.IndmineAll", spec := "indmineAll", inPlace := ["internal/abi.NoEscape"], unfollowed := true, recurses := true, apart := false }
def IndmineAllSaid : Prop := indmineAllRow.holds Tryz.pinned (OpenSpec.ofChange indmineAllSpec)

/-- ITS FALSE NEIGHBOUR: 'it returns false'. Refute it at one input. -/
def indmineAllWrong : ChangeSpec := { name := "indmineAll", fn := fun _ => fun
  | [d1, d2] => { results := [.lit (.bool false)], args := [d1, d2] }
  | _ => none }
def IndmineAllWrongFalsely : Prop := indmineAllRow.holds Tryz.pinned (OpenSpec.ofChange indmineAllWrong)

/-- 'drosslaw30.IndmineMaximal': WHATEVER THE INPUT: true; the input reads as it did. -/
def indmineMaximalSpec : ChangeSpec := { name := "indmineMaximal", fn := fun _ => fun
  | [d] => { results := [.lit (.bool true)], args := [d] }
  | _ => none }
def indmineMaximalRow : OpenClaim := { program := "ytpidncgibgiidaagreat", sum := "4b4f8c771f35a590e687318fe6f551dfff0e159f991f5640a89f96183f43fc31", func := "dross/drosslaw30.IndmineMaximal", spec := "indmineMaximal", inPlace := ["internal/abi.NoEscape"], unfollowed := true, recurses := true, apart := false }
def IndmineMaximalSaid : Prop := indmineMaximalRow.holds Tryz.pinned (OpenSpec.ofChange indmineMaximalSpec)

/-- ITS FALSE NEIGHBOUR: 'it returns false'. Refute it at one input. -/
def indmineMaximalWrong : ChangeSpec := { name := "indmineMaximal", fn := fun _ => fun
  | [d] => { results := [.lit (.bool false)], args := [d] }
  | _ => none }
def IndmineMaximalWrongFalsely : Prop := indmineMaximalRow.holds Tryz.pinned (OpenSpec.ofChange indmineMaximalWrong)

/-- 'drosslaw30.IndmineForeign': WHATEVER THE INPUT: true; the input reads as it did. -/
def indmineForeignSpec : ChangeSpec := { name := "indmineForeign", fn := fun _ => fun
  | [d1, d2] => { results := [.lit (.bool true)], args := [d1, d2] }
  | _ => none }
def indmineForeignRow : OpenClaim := { program := "ytpidncgibgiidaagreat", sum := "4b4f8c771f35a590e687318fe6f551dfff0e159f991f5640a89f96183f43fc31", func := "dross/drosslaw30.IndmineForeign", spec := "indmineForeign", inPlace := ["internal/abi.NoEscape"], unfollowed := true, recurses := true, apart := false }
def IndmineForeignSaid : Prop := indmineForeignRow.holds Tryz.pinned (OpenSpec.ofChange indmineForeignSpec)

/-- ITS FALSE NEIGHBOUR: 'it returns false'. Refute it at one input. -/
def indmineForeignWrong : ChangeSpec := { name := "indmineForeign", fn := fun _ => fun
  | [d1, d2] => { results := [.lit (.bool false)], args := [d1, d2] }
  | _ => none }
def IndmineForeignWrongFalsely : Prop := indmineForeignRow.holds Tryz.pinned (OpenSpec.ofChange indmineForeignWrong)

/-- 'drosslaw30.IndmineSound': WHATEVER THE INPUT: true; the input reads as it did. -/
def indmineSoundSpec : ChangeSpec := { name := "indmineSound", fn := fun _ => fun
  | [d] => { results := [.lit (.bool true)], args := [d] }
  | _ => none }
def indmineSoundRow : OpenClaim := { program := "ytpidncgibgiidaagreat", sum := "4b4f8c771f35a590e687318fe6f551dfff0e159f991f5640a89f96183f43fc31", func := "dross/drosslaw30.IndmineSound", spec := "indmineSound", inPlace := ["internal/abi.NoEscape"], unfollowed := true, recurses := true, apart := false }
def IndmineSoundSaid : Prop := indmineSoundRow.holds Tryz.pinned (OpenSpec.ofChange indmineSoundSpec)

/-- ITS FALSE NEIGHBOUR: 'it returns false'. Refute it at one input. -/
def indmineSoundWrong : ChangeSpec := { name := "indmineSound", fn := fun _ => fun
  | [d] => { results := [.lit (.bool false)], args := [d] }
  | _ => none }
def IndmineSoundWrongFalsely : Prop := indmineSoundRow.holds Tryz.pinned (OpenSpec.ofChange indmineSoundWrong)

/-- 'drosslaw30.IndmineHolds': WHATEVER THE INPUT: true; the input reads as it did. -/
def indmineHoldsSpec : ChangeSpec := { name := "indmineHolds", fn := fun _ => fun
  | [d1, d2] => { results := [.lit (.bool true)], args := [d1, d2] }
  | _ => none }
def indmineHoldsRow : OpenClaim := { program := "ytpidncgibgiidaagreat", sum := "4b4f8c771f35a590e687318fe6f551dfff0e159f991f5640a89f96183f43fc31", func := "dross/drosslaw30.IndmineHolds", spec := "indmineHolds", inPlace := ["internal/abi.NoEscape", "internal/bytealg.abigen_runtime_cmpstring"], unfollowed := true, recurses := true, apart := false }
def IndmineHoldsSaid : Prop := indmineHoldsRow.holds Tryz.pinned (OpenSpec.ofChange indmineHoldsSpec)

/-- ITS FALSE NEIGHBOUR: 'it returns false'. Refute it at one input. -/
def indmineHoldsWrong : ChangeSpec := { name := "indmineHolds", fn := fun _ => fun
  | [d1, d2] => { results := [.lit (.bool false)], args := [d1, d2] }
  | _ => none }
def IndmineHoldsWrongFalsely : Prop := indmineHoldsRow.holds Tryz.pinned (OpenSpec.ofChange indmineHoldsWrong)

/-- 'drosslaw30.IndmineRows': WHATEVER THE INPUT: true; the input reads as it did. -/
def indmineRowsSpec : ChangeSpec := { name := "indmineRows", fn := fun _ => fun
  | [d1, d2, d3] => { results := [.lit (.bool true)], args := [d1, d2, d3] }
  | _ => none }
def indmineRowsRow : OpenClaim := { program := "ytpidncgibgiidaagreat", sum := "4b4f8c771f35a590e687318fe6f551dfff0e159f991f5640a89f96183f43fc31", func := "dross/drosslaw30.IndmineRows", spec := "indmineRows", inPlace := ["internal/abi.NoEscape", "internal/bytealg.abigen_runtime_cmpstring"], unfollowed := true, recurses := true, apart := false }
def IndmineRowsSaid : Prop := indmineRowsRow.holds Tryz.pinned (OpenSpec.ofChange indmineRowsSpec)

/-- ITS FALSE NEIGHBOUR: 'it returns false'. Refute it at one input. -/
def indmineRowsWrong : ChangeSpec := { name := "indmineRows", fn := fun _ => fun
  | [d1, d2, d3] => { results := [.lit (.bool false)], args := [d1, d2, d3] }
  | _ => none }
def IndmineRowsWrongFalsely : Prop := indmineRowsRow.holds Tryz.pinned (OpenSpec.ofChange indmineRowsWrong)

/-- 'drosslaw30.IndmineCoverage': WHATEVER THE INPUT: true; the input reads as it did. -/
def indmineCoverageSpec : ChangeSpec := { name := "indmineCoverage", fn := fun _ => fun
  | [d1, d2] => { results := [.lit (.bool true)], args := [d1, d2] }
  | _ => none }
def indmineCoverageRow : OpenClaim := { program := "ytpidncgibgiidaagreat", sum := "4b4f8c771f35a590e687318fe6f551dfff0e159f991f5640a89f96183f43fc31", func := "dross/drosslaw30.IndmineCoverage", spec := "indmineCoverage", inPlace := ["internal/abi.NoEscape", "math/bits.Add64", "math/bits.Sub64", "internal/bytealg.abigen_runtime_cmpstring"], unfollowed := true, recurses := true, apart := false }
def IndmineCoverageSaid : Prop := indmineCoverageRow.holds Tryz.pinned (OpenSpec.ofChange indmineCoverageSpec)

/-- ITS FALSE NEIGHBOUR: 'it returns false'. Refute it at one input. -/
def indmineCoverageWrong : ChangeSpec := { name := "indmineCoverage", fn := fun _ => fun
  | [d1, d2] => { results := [.lit (.bool false)], args := [d1, d2] }
  | _ => none }
def IndmineCoverageWrongFalsely : Prop := indmineCoverageRow.holds Tryz.pinned (OpenSpec.ofChange indmineCoverageWrong)

/- THE SECOND FORM. 'bulk': how many values and letters a reading holds, each counted each time it is reached (what is shared counts as often as it is met; a slice's spare places count too). A statement '..UptoSaid' is the law's where the arguments, and the package variables that the reading takes, are together of bulk at most 1048576: NARROWER than '..Said'. Prove '..Said' where nothing that the law and all that it calls make is longer than what came in: it says more and counts as full. Else prove '..UptoSaid'. A law counts once. -/
mutual
def uptoBulk {H : Type} : DataW H → Nat
  | .lit (.string bytes) => bytes.length + 1
  | .lit _ => 1
  | .nil => 1
  | .ptr d => uptoBulk d + 1
  | .slice elems spare => uptoBulkAll elems + uptoBulkAll spare + 1
  | .agg parts => uptoBulkAll parts + 1
  | .iface _ d => uptoBulk d + 1
  | .map entries => uptoBulkEntries entries + 1
  | .held _ => 1
def uptoBulkAll {H : Type} : List (DataW H) → Nat
  | [] => 0
  | d :: r => uptoBulk d + uptoBulkAll r
def uptoBulkEntries {H : Type} : List (Lit × DataW H) → Nat
  | [] => 0
  | x :: r => uptoBulkEntry x + uptoBulkEntries r
def uptoBulkEntry {H : Type} : Lit × DataW H → Nat
  | (.string bytes, d) => bytes.length + uptoBulk d + 1
  | (_, d) => uptoBulk d + 1
 end
def uptoSmall : (H : Type) → List (DataW H) → Bool := fun _ ds => decide (uptoBulkAll ds ≤ 1048576)
def OpenSpec.upto (s : _root_.Go.ChangeSpec) : _root_.Go.OpenSpec := { _root_.Go.OpenSpec.ofChange s with cond := some uptoSmall }

/-- 'drosslaw30.IndmineAll', WHERE WHAT IT READS IS OF BULK AT MOST 1048576: true; the input reads as it did. -/
def indmineAllUptoRow : OpenClaim := { program := "ytpidncgibgiidaagreat", sum := "4b4f8c771f35a590e687318fe6f551dfff0e159f991f5640a89f96183f43fc31", func := "dross/drosslaw30.IndmineAll", spec := "indmineAll", inPlace := ["internal/abi.NoEscape"], unfollowed := true, recurses := true, apart := false, narrowed := true }
def IndmineAllUptoSaid : Prop := indmineAllUptoRow.holds Tryz.pinned (OpenSpec.upto indmineAllSpec)

/-- 'drosslaw30.IndmineMaximal', WHERE WHAT IT READS IS OF BULK AT MOST 1048576: true; the input reads as it did. -/
def indmineMaximalUptoRow : OpenClaim := { program := "ytpidncgibgiidaagreat", sum := "4b4f8c771f35a590e687318fe6f551dfff0e159f991f5640a89f96183f43fc31", func := "dross/drosslaw30.IndmineMaximal", spec := "indmineMaximal", inPlace := ["internal/abi.NoEscape"], unfollowed := true, recurses := true, apart := false, narrowed := true }
def IndmineMaximalUptoSaid : Prop := indmineMaximalUptoRow.holds Tryz.pinned (OpenSpec.upto indmineMaximalSpec)

/-- 'drosslaw30.IndmineForeign', WHERE WHAT IT READS IS OF BULK AT MOST 1048576: true; the input reads as it did. -/
def indmineForeignUptoRow : OpenClaim := { program := "ytpidncgibgiidaagreat", sum := "4b4f8c771f35a590e687318fe6f551dfff0e159f991f5640a89f96183f43fc31", func := "dross/drosslaw30.IndmineForeign", spec := "indmineForeign", inPlace := ["internal/abi.NoEscape"], unfollowed := true, recurses := true, apart := false, narrowed := true }
def IndmineForeignUptoSaid : Prop := indmineForeignUptoRow.holds Tryz.pinned (OpenSpec.upto indmineForeignSpec)

/-- 'drosslaw30.IndmineSound', WHERE WHAT IT READS IS OF BULK AT MOST 1048576: true; the input reads as it did. -/
def indmineSoundUptoRow : OpenClaim := { program := "ytpidncgibgiidaagreat", sum := "4b4f8c771f35a590e687318fe6f551dfff0e159f991f5640a89f96183f43fc31", func := "dross/drosslaw30.IndmineSound", spec := "indmineSound", inPlace := ["internal/abi.NoEscape"], unfollowed := true, recurses := true, apart := false, narrowed := true }
def IndmineSoundUptoSaid : Prop := indmineSoundUptoRow.holds Tryz.pinned (OpenSpec.upto indmineSoundSpec)

/-- 'drosslaw30.IndmineHolds', WHERE WHAT IT READS IS OF BULK AT MOST 1048576: true; the input reads as it did. -/
def indmineHoldsUptoRow : OpenClaim := { program := "ytpidncgibgiidaagreat", sum := "4b4f8c771f35a590e687318fe6f551dfff0e159f991f5640a89f96183f43fc31", func := "dross/drosslaw30.IndmineHolds", spec := "indmineHolds", inPlace := ["internal/abi.NoEscape", "internal/bytealg.abigen_runtime_cmpstring"], unfollowed := true, recurses := true, apart := false, narrowed := true }
def IndmineHoldsUptoSaid : Prop := indmineHoldsUptoRow.holds Tryz.pinned (OpenSpec.upto indmineHoldsSpec)

/-- 'drosslaw30.IndmineRows', WHERE WHAT IT READS IS OF BULK AT MOST 1048576: true; the input reads as it did. -/
def indmineRowsUptoRow : OpenClaim := { program := "ytpidncgibgiidaagreat", sum := "4b4f8c771f35a590e687318fe6f551dfff0e159f991f5640a89f96183f43fc31", func := "dross/drosslaw30.IndmineRows", spec := "indmineRows", inPlace := ["internal/abi.NoEscape", "internal/bytealg.abigen_runtime_cmpstring"], unfollowed := true, recurses := true, apart := false, narrowed := true }
def IndmineRowsUptoSaid : Prop := indmineRowsUptoRow.holds Tryz.pinned (OpenSpec.upto indmineRowsSpec)

/-- 'drosslaw30.IndmineCoverage', WHERE WHAT IT READS IS OF BULK AT MOST 1048576: true; the input reads as it did. -/
def indmineCoverageUptoRow : OpenClaim := { program := "ytpidncgibgiidaagreat", sum := "4b4f8c771f35a590e687318fe6f551dfff0e159f991f5640a89f96183f43fc31", func := "dross/drosslaw30.IndmineCoverage", spec := "indmineCoverage", inPlace := ["internal/abi.NoEscape", "math/bits.Add64", "math/bits.Sub64", "internal/bytealg.abigen_runtime_cmpstring"], unfollowed := true, recurses := true, apart := false, narrowed := true }
def IndmineCoverageUptoSaid : Prop := indmineCoverageUptoRow.holds Tryz.pinned (OpenSpec.upto indmineCoverageSpec)

end Rows
end Go.Proofs.YtpidncgibgiidaaGreat
