/- What comes in: a dependency. -/
import Derived.Test.YtpidncgibgiidaaGreatT1
import Derived.Test.YtpidncgibgiidaaGreatQ2
set_option linter.unusedSimpArgs false
set_option linter.unusedVariables false
set_option linter.unusedSectionVars false
namespace Go.Proofs.YtpidncgibgiidaaGreat
open Go Go.Ab Go.Ab.A34 Go.Ab.A15 Go.ChangeShapes Go.WideShapes Go.ChangeAt Go.RowKit
set_option maxRecDepth 100000 in
theorem rd_ind [Gl] : Rd Tryz.prog 40 dC OkD :=
  Rd.map (Rd.struct Tryz.underlying40 (by kernel_rfl) (RdF.cons rfl 1 (by kernel_rfl) (Rd.str Tryz.underlying9) (RdF.cons rfl 1 (by kernel_rfl) (Rd.slice Tryz.underlying38 1 (by kernel_rfl) (by decide) (Rd.int Tryz.underlying3)) (RdF.cons rfl 1 (by kernel_rfl) (Rd.str Tryz.underlying9) (RdF.cons rfl 1 (by kernel_rfl) (Rd.slice Tryz.underlying38 1 (by kernel_rfl) (by decide) (Rd.int Tryz.underlying3)) (RdF.nil _))))))
    (fun x => ⟨x.1, x.2.1, x.2.2.1, x.2.2.2.1⟩) (fun _ _ => rfl) (fun x h => ⟨h.2.1.1, h.2.2.2.1.1⟩)
end Go.Proofs.YtpidncgibgiidaaGreat
