/- What comes in: keys. -/
import Derived.Test.YtpidncgibgiidaaGreatT1
import Derived.Test.YtpidncgibgiidaaGreatQ6
set_option linter.unusedSimpArgs false
set_option linter.unusedVariables false
set_option linter.unusedSectionVars false
namespace Go.Ab.A15
open Go Go.Ab Go.Ab.A34
instance : Inhabited Ky := ⟨kd0⟩
end Go.Ab.A15
namespace Go.Proofs.YtpidncgibgiidaaGreat
open Go Go.Ab Go.Ab.A34 Go.Ab.A15 Go.ChangeShapes Go.WideShapes Go.ChangeAt Go.RowKit
theorem fits32 {n : Int} (h : fits .u32 n) : 0 ≤ n ∧ n < 4294967296 := by
  unfold fits Lit.wf at h
  simp only [Bool.and_eq_true, decide_eq_true_eq] at h
  have h1 : (0 : Int) ≤ n := h.1
  have h2 : n ≤ 4294967295 := h.2
  exact ⟨h1, by omega⟩
set_option maxRecDepth 100000 in
theorem rd_key [Gl] : Rd Tryz.prog 50 (fun k : Ky => [Str k.1, U32 k.2]) (fun k => k.2 < 4294967296) :=
  Rd.map (Rd.struct Tryz.underlying50 (by kernel_rfl) (RdF.cons rfl 1 (by kernel_rfl) (Rd.str Tryz.underlying9) (RdF.cons rfl 1 (by kernel_rfl) (Rd.int Tryz.underlying48) (RdF.nil _))))
    (fun x => (x.1, x.2.1.toNat)) (fun x h => by
      have := fits32 h.2.1
      show [Str x.1, U32 ((x.2.1.toNat : Nat) : Int)] = [Str x.1, U32 x.2.1]
      rw [Int.toNat_of_nonneg this.1]) (fun x h => by
      have := fits32 h.2.1
      show x.2.1.toNat < 4294967296
      omega)
set_option maxRecDepth 100000 in
theorem rd_keys [Gl] : Rd Tryz.prog 46 (fun l : List Ky => [KyL l]) (fun l => ∀ k ∈ l, k.2 < 4294967296) :=
  Rd.map (Rd.slice Tryz.underlying46 2 (by kernel_rfl) (by decide) rd_key) (fun l => l) (fun _ _ => rfl) (fun l h => h.2)
end Go.Proofs.YtpidncgibgiidaaGreat
