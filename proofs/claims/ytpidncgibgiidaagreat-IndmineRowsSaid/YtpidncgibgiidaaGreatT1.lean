/- What comes in. -/
import Derived.Test.YtpidncgibgiidaaGreatRows
import Derived.Test.YtpidncgibgiidaaGreatQ2
import Derived.ProofKit
import Derived.LaidMore
import Derived.OpenShut
import Derived.Stop.Joined
set_option linter.unusedSimpArgs false
set_option linter.unusedVariables false
set_option linter.unusedSectionVars false
namespace Go.Ab.A15
open Go Go.Ab Go.Ab.A34
instance : Inhabited Rc := ⟨rc0⟩
end Go.Ab.A15
namespace Go.Proofs.YtpidncgibgiidaaGreat
open Go Go.Ab Go.Ab.A34 Go.Ab.A15 Go.ChangeShapes Go.WideShapes Go.ChangeAt Go.RowKit
@[reducible] def gN : Gl := ⟨fun _ => .any, fun _ => .none⟩
theorem tabsN : @Tabs gN := @Tabs.mk gN trivial
theorem glN (E : Env) : @GlOk gN E := fun g => ⟨.any _, fun m h => by cases h⟩
theorem fits8 {n : Int} (h : fits .u8 n) : 0 ≤ n ∧ n < 256 := by
  unfold fits Lit.wf at h
  simp only [Bool.and_eq_true, decide_eq_true_eq] at h
  have h1 : (0 : Int) ≤ n := h.1
  have h2 : n ≤ 255 := h.2
  exact ⟨h1, by omega⟩
set_option maxRecDepth 100000 in
theorem rd_rec [Gl] : Rd Tryz.prog 90 RCC okRc :=
  Rd.map (Rd.struct Tryz.underlying90 (by kernel_rfl) (RdF.cons rfl 1 (by kernel_rfl) (Rd.int Tryz.underlying5) (RdF.cons rfl 1 (by kernel_rfl) (Rd.int Tryz.underlying5) (RdF.cons rfl 1 (by kernel_rfl) (Rd.slice Tryz.underlying88 1 (by kernel_rfl) (by decide) (Rd.slice Tryz.underlying56 1 (by kernel_rfl) (by decide) (Rd.int Tryz.underlying5))) (RdF.nil _)))))
    (fun x => ⟨x.1, x.2.1, x.2.2.1⟩) (fun _ _ => rfl) (fun x h => ⟨fits8 h.1, fits8 h.2.1, fun r hr c hc => fits8 ((h.2.2.1.2 r hr).2 c hc)⟩)
set_option maxRecDepth 100000 in
theorem rd_draft [Gl] : Rd Tryz.prog 23 (fun l : List Rc => [RcL l]) (fun l => l.length ≤ 9223372036854775807 ∧ OkRcs l) :=
  Rd.map (Rd.slice Tryz.underlying23 3 (by kernel_rfl) (by decide) rd_rec) (fun l => l) (fun _ _ => rfl) (fun l h => ⟨h.1, h.2⟩)
end Go.Proofs.YtpidncgibgiidaaGreat
