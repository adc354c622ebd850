/- What comes in: links. -/
import Derived.Test.YtpidncgibgiidaaGreatT1
import Derived.Test.YtpidncgibgiidaaGreatQ2
set_option linter.unusedSimpArgs false
set_option linter.unusedVariables false
set_option linter.unusedSectionVars false
namespace Go.Proofs.YtpidncgibgiidaaGreat
open Go Go.Ab Go.Ab.A34 Go.Ab.A15 Go.ChangeShapes Go.WideShapes Go.ChangeAt Go.RowKit
set_option maxRecDepth 100000 in
theorem rd_link [Gl] : Rd Tryz.prog 58 LkC OkK :=
  Rd.map (Rd.struct Tryz.underlying58 (by kernel_rfl) (RdF.cons rfl 1 (by kernel_rfl) (Rd.int Tryz.underlying5) (RdF.cons rfl 1 (by kernel_rfl) (Rd.int Tryz.underlying5) (RdF.cons rfl 1 (by kernel_rfl) (Rd.slice Tryz.underlying56 1 (by kernel_rfl) (by decide) (Rd.int Tryz.underlying5)) (RdF.cons rfl 1 (by kernel_rfl) (Rd.slice Tryz.underlying56 1 (by kernel_rfl) (by decide) (Rd.int Tryz.underlying5)) (RdF.nil _))))))
    (fun x => ⟨x.1, x.2.1, x.2.2.1, x.2.2.2.1⟩) (fun _ _ => rfl) (fun x h => ⟨fits8 h.1, fits8 h.2.1, fun c hc => fits8 (h.2.2.1.2 c hc), fun c hc => fits8 (h.2.2.2.1.2 c hc), h.2.2.1.1, h.2.2.2.1.1⟩)
set_option maxRecDepth 100000 in
theorem rd_u8 [Gl] : Rd Tryz.prog 5 (fun n : Int => [U8 n]) (fun n => 0 ≤ n ∧ n < 256) :=
  Rd.map (Rd.int Tryz.underlying5) (fun n => n) (fun _ _ => rfl) (fun _ h => fits8 h)
end Go.Proofs.YtpidncgibgiidaaGreat
