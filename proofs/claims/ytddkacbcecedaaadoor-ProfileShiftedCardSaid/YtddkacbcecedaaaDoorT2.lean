/- The numbers of 32 bits that come in. -/
import Derived.Test.YtddkacbcecedaaaDoorK2
import Derived.Test.YtddkacbcecedaaaDoorM5
set_option linter.unusedVariables false
namespace Go.Proofs.YtddkacbcecedaaaDoor
open Go Go.Ab Go.Ab.A34 Go.ChangeShapes Go.WideShapes Go.ChangeAt Go.RowKit
theorem fits32 {n : Int} (h : fits .i32 n) : In32 n := by
  unfold fits Lit.wf at h
  simp only [Bool.and_eq_true, decide_eq_true_eq] at h
  exact ⟨h.1, h.2⟩
theorem fun_32 {l : List Int} (h : ∀ a ∈ l, fits .i32 a) : ∀ n ∈ l, In32 n := fun n hn => fits32 (h n hn)
end Go.Proofs.YtddkacbcecedaaaDoor
