/- For every draft and dependency, IndmineCoverage returns true: Coverage returns the share of the rows with a partner, Missing the lists of values without one, or the specified error. No condition. -/
import Derived.Test.YtpidncgibgiidaaGreatRows
import Derived.Test.YtpidncgibgiidaaGreatQ8
import Derived.Test.YtpidncgibgiidaaGreatT4
set_option linter.unusedSimpArgs false
set_option linter.unusedVariables false
namespace Go.Proofs.YtpidncgibgiidaaGreat.indmineCoverage
open Go Go.Ab Go.ChangeShapes Go.WideShapes Go.ChangeAt Go.RowKit

theorem own : ownKnob Tryz.prog.godebug = .none := by kernel_rfl
theorem laidOut : laidOutB Tryz.prog = true := by kernel_rfl

set_option maxRecDepth 100000 in
theorem lifted (os : Os) (started : os.Started) (H : Type) (enc : TypeId × Value → H) :
    ReturnsInHanded {} Tryz.checked os 9 .any (Rows.indmineCoverageSpec.pre6 enc Tryz.prog Tryz.f9 Rows.indmineCoverageRow.domain false) (Rows.indmineCoverageSpec.post enc Tryz.prog Tryz.f9 false true false false) := by
  refine returnsInHanded_of_change (C := Tryz.checked) own started (by kernel_rfl) Tryz.func9
    (ChangeSpec.witness6 (enc := enc) (C := Tryz.checked) false ⟨#[], #[.slice none 0 0, .agg #[.string ⟨#[]⟩, .slice none 0 0, .string ⟨#[]⟩, .slice none 0 0]], []⟩ 8 (by kernel_rfl) (by kernel_rfl) (by kernel_rfl) (by kernel_rfl)) ?_
  intro W base args ds gs before hval0 hW hcnd _
  have hval : ∀ (j : Nat) t v, Tryz.f9.params[j]? = some t → args[j]? = some v → Value.okWide Tryz.prog W .any base t v := hval0
  have hW' := hW
  obtain ⟨p, q, hA0, hV, rfl, hfz, hnd⟩ := hW
  have hA : DataW.TrodAll enc Tryz.prog W 0 (fun _ => true) true Tryz.f9.params.toList args.toList ds p := hA0
  rw [Tryz.params9] at hA hval
  obtain ⟨v0, vs0, d0, ds0, p0, q0, hargs, rfl, rfl, h0, r0⟩ := trodAll_cons hA
  obtain ⟨v1, vs1, d1, ds1, p1, q1, rfl, rfl, rfl, h1, r1⟩ := trodAll_cons r0
  obtain ⟨rfl, rfl, rfl⟩ := trodAll_nil r1
  obtain rfl : args = #[v0, v1] := by cases args; simp_all
  obtain ⟨rfl, rfl⟩ := trodVars_none hV
  have k0 := h0
  have lt0 : ∀ x ∈ p0, x.block < W.heap.size := by obtain ⟨m, hm⟩ := k0; exact DataW.trod_lt m _ _ _ hm
  obtain ⟨a0, len0, cap0, rfl⟩ := okWide_slice Tryz.underlying23 (hval 0 23 v0 rfl rfl)
  obtain ⟨m0, ok0, l0, R0⟩ := arg_one rfl (@rd_draft gN) k0
  have k1 := h1
  have lt1 : ∀ x ∈ p1, x.block < W.heap.size := by obtain ⟨m, hm⟩ := k1; exact DataW.trod_lt m _ _ _ hm
  obtain ⟨a1, rfl, _, _⟩ : ∃ cs, v1 = .agg cs ∧ cs.size = Tryz.prog.cellsOf 40 ∧ Row.okWide Tryz.prog W .any base 40 cs := by have := hval 1 40 v1 rfl rfl; simpa only [Value.okWide, Tryz.underlying40] using this
  obtain ⟨m1, ok1, R1⟩ := arg_agg (@rd_ind gN) k1
  clear hA0 hval0
  refine (@Call.law Tryz.prog gN 9 _ _ (@law_cov gN tabsN m0 m1 ok0.2 ok0.1) ⟨_, Tryz.func9, by kernel_rfl, by kernel_rfl⟩ W #[.slice a0 len0 cap0, .agg a1] (glN _) ?_).mono fun e W' ⟨he, bel⟩ => ?_
  · refine ⟨rfl, fun i hi => ?_⟩
    match i, hi with
    | 0, _ => exact R0
    | 1, _ => exact R1
  subst he
  exact ⟨_, rfl, _, _, _, [], _, [], hW', trodAll_mk1 (shut_bool Tryz.underlying4 _), (trodAll_cons_mk (Below.trod laidOut (by kernel_rfl) (of_decide_eq_true (by kernel_rfl)) k0 bel lt0) (trodAll_cons_mk (Below.trod laidOut (by kernel_rfl) (of_decide_eq_true (by kernel_rfl)) k1 bel lt1) trodAll_mk0)), rfl, bel.frame _, fun h => by cases h⟩

theorem over : Rows.indmineCoverageRow.holds Tryz.pinned (OpenSpec.ofChange Rows.indmineCoverageSpec) :=
  OpenClaim.holds_of_wide 9 Tryz.f9 rfl rfl rfl rfl rfl rfl rfl ⟨rfl, rfl, rfl, rfl, rfl⟩ rfl rfl rfl rfl rfl (by kernel_rfl) Tryz.func9 (by kernel_rfl)
    (of_decide_eq_true (by kernel_rfl)) (by unfold Func.isWrapper; first | (rw [if_pos (by decide +kernel)]; kernel_rfl) | (rw [if_neg (by decide +kernel)]; exact ⟨rfl, rfl⟩))
    (fun os started H enc _ => lifted os started H enc)

end Go.Proofs.YtpidncgibgiidaaGreat.indmineCoverage
namespace Go.Proofs.YtpidncgibgiidaaGreat
theorem indmineCoverage_holds : Rows.IndmineCoverageSaid := indmineCoverage.over
end Go.Proofs.YtpidncgibgiidaaGreat
