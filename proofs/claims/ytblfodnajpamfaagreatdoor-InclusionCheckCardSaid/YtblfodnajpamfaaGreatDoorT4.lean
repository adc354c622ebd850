/- What comes in for the law of Check. -/
import Derived.Test.YtblfodnajpamfaaGreatDoorT1
import Derived.Test.YtblfodnajpamfaaGreatDoorQ7
set_option linter.unusedSimpArgs false
set_option linter.unusedVariables false
set_option linter.unusedSectionVars false
namespace Go.Ab.A15
instance : Inhabited Sp := ⟨⟨lk0, 0, 0, 0⟩⟩
end Go.Ab.A15
namespace Go.Proofs.YtblfodnajpamfaaGreatDoor
open Go Go.Ab Go.Ab.A34 Go.Ab.A15 Go.ChangeShapes Go.WideShapes Go.ChangeAt Go.RowKit
theorem fitsi8 {n : Int} (h : fits .i8 n) : -128 ≤ n ∧ n < 128 := by
  unfold fits Lit.wf at h
  simp only [Bool.and_eq_true, decide_eq_true_eq] at h
  have h1 : (-128 : Int) ≤ n := h.1
  have h2 : n ≤ 127 := h.2
  exact ⟨h1, by omega⟩
set_option maxRecDepth 100000 in
theorem rd_spoil [Gl] : Rd Tryz.prog 50 SpC OkSp :=
  Rd.map (Rd.struct Tryz.underlying50 (by kernel_rfl) (RdF.cons rfl 4 (by kernel_rfl) rd_link (RdF.cons rfl 1 (by kernel_rfl) (Rd.int Tryz.underlying5) (RdF.cons rfl 1 (by kernel_rfl) (Rd.int Tryz.underlying5) (RdF.cons rfl 1 (by kernel_rfl) (Rd.int Tryz.underlying48) (RdF.nil _))))))
    (fun x => ⟨x.1, x.2.1, x.2.2.1, x.2.2.2.1⟩) (fun _ _ => rfl) (fun x h => ⟨h.1, fits8 h.2.1, fits8 h.2.2.1, fitsi8 h.2.2.2.1⟩)
end Go.Proofs.YtblfodnajpamfaaGreatDoor
