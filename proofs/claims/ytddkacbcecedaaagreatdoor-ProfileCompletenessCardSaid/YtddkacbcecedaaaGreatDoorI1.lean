/- Contracts: distances of outliers. -/
import Derived.Test.YtddkacbcecedaaaGreatDoorH7
set_option linter.unusedSimpArgs false
set_option linter.unusedVariables false
set_option linter.unusedSectionVars false
namespace Go.Ab.A34
open Go Go.Ab Go.Proofs
/-- Twice a distance is greater than three times another one. -/
def farI (d w : Int) : Bool := decide (3 * w < 2 * d)
theorem u64_wrap (n : Int) : IntKind.u64.wrap n = n % 18446744073709551616 := by
  have e : (2 : Int) ^ 64 = 18446744073709551616 := by decide
  show (if (false && decide (n % (2 : Int) ^ 64 ≥ (2 : Int) ^ 63)) = true then n % (2 : Int) ^ 64 - (2 : Int) ^ 64 else n % (2 : Int) ^ 64) = _
  simp only [e, Bool.false_and, Bool.false_eq_true, if_false]
theorem u64_diff {a b : Int} (h1 : 0 ≤ b - a) (h2 : b - a < 18446744073709551616) : IntKind.u64.wrap (IntKind.u64.wrap b - IntKind.u64.wrap a) = b - a := by
  rw [u64_wrap, u64_wrap, u64_wrap]
  omega
end Go.Ab.A34
namespace Go.Proofs.YtddkacbcecedaaaGreatDoor
open Go Go.Ab Go.Ab.A34
variable [Gl] [Tabs]

theorem mul64 (x y : Nat) (hx : x < 18446744073709551616) (hy : y < 18446744073709551616) : PCall Tryz.prog 62 [U64 x, U64 y] (.tup [U64 (x * y / 18446744073709551616 : Nat), U64 (x * y % 18446744073709551616 : Nat)]) :=
  PCall.of_calls ⟨_, Tryz.func62, by kernel_rfl, by kernel_rfl⟩ fun w E vs _ _ _ hr => by
    obtain rfl := reps2 hr
    exact (Tryz.bits_Mul64 x y hx hy w).mono fun e w' ⟨he, hw⟩ => ⟨_, he, fun _ => rep_tup2 _ _, by rw [hw]; exact ⟨RowKit.Below.refl _ _, Nat.le_refl _⟩⟩

theorem far_p (d w : Int) (hd1 : 0 ≤ d) (hd2 : d < 18446744073709551616) (hw1 : 0 ≤ w) (hw2 : w < 18446744073709551616) : PCall Tryz.prog 37 [U64 d, U64 w] (SB (farI d w)) := by
  obtain ⟨x, rfl⟩ := Int.eq_ofNat_of_zero_le hd1
  obtain ⟨y, rfl⟩ := Int.eq_ofNat_of_zero_le hw1
  have m1 := mul64 2 x (by omega) (by omega)
  have m2 := mul64 3 y (by omega) (by omega)
  obtain ⟨R, hR⟩ : ∃ R, R = farI x y := ⟨_, rfl⟩
  rw [← hR]
  unfold farI at hR
  refine Call.enter' (N := 32) (rs := [.tmp 4]) Tryz.func37 rfl rfl rfl (by decide) rfl ?_; simp only [argT]; have hD : (0 : Nat) = 0 := rfl
  repeat' first | (with_reducible refine And.intro (by omega) ?_) | (refine SW.seq_k fun K hK => ?_) | (refine SW.block ?_) | ((first | refine SW.region ?_ | refine SW.regionD (Checked.mixed Tryz.checked) (by kernel_rfl) ?_ | refine SW.cond ?_ | refine SW.skip ?_ | refine SW.exit ?_ | refine SW.ret ?_ | refine Call.of_pure (m1) ?_ | refine ⟨_, m1, ?_⟩ | refine Call.of_pure (m2) ?_ | refine ⟨_, m2, ?_⟩ | (refine allF_i fun b hb => ?_; replace hD := And.intro hb hD; clear hb; try simp only [fresh_cons, fresh_nil, and_true, ne_eq, neF] at hD) | simp only [appK, appOsK]); try simp only [go_sem, hD]) | (refine And.intro (by omega) ?_) | (refine ifI (fun hc => ?_) (fun hc => ?_) <;> first | (exfalso; omega) | skip) | ((first | apply hK | ((iterate 1 (clear hK K)); apply hK) | ((iterate 2 (clear hK K)); apply hK) | ((iterate 3 (clear hK K)); apply hK) | ((iterate 4 (clear hK K)); apply hK) | ((iterate 5 (clear hK K)); apply hK)); clear hK K)
  all_goals
    refine ret_pure ?_; simp only [resL_tmp, resL_nil, tupOf, go_sem, hD]
    rw [hR]
    refine congrArg (fun b => SV.sc (.bool b)) ?_
    rw [Bool.eq_iff_iff]
    simp only [Bool.or_eq_true, Bool.and_eq_true, decide_eq_true_eq, Bool.false_eq_true, true_iff, false_iff]
    omega

end Go.Proofs.YtddkacbcecedaaaGreatDoor