/- For every matrix, AssignmentValid returns true: Valid and the reference give one error. No condition. -/
import Derived.Test.YtockdinjmnkdoaaRows
import Derived.Test.YtockdinjmnkdoaaL3
import Derived.Test.YtockdinjmnkdoaaBb
set_option linter.unusedSimpArgs false
set_option linter.unusedVariables false
namespace Go.Proofs.Ytockdinjmnkdoaa.assignmentValid
open Go Go.Ab Go.ChangeShapes Go.WideShapes Go.ChangeAt Go.RowKit

theorem own : ownKnob Try.prog.godebug = none := by kernel_rfl
theorem laidOut : laidOutB Try.prog = true := by kernel_rfl

theorem rd_mat : Rd Try.prog 22 (fun m : List (List Int) => [mat .i64 m]) (fun m => m.length ≤ maxLen ∧ ∀ r ∈ m, r.length ≤ maxLen ∧ ∀ n ∈ r, fits .i64 n) :=
  Rd.slice Try.underlying22 1 (by kernel_rfl) (by decide) (Rd.slice Try.underlying28 1 (by kernel_rfl) (by decide) (Rd.int Try.underlying2))

theorem rows_le {m : List (List Int)} (h : ∀ r ∈ m, r.length ≤ maxLen ∧ ∀ n ∈ r, fits .i64 n) (i : Nat) : (m.getD i []).length ≤ maxLen := by
  rw [List.getD_eq_getElem?_getD]
  cases he : m[i]? with
  | none => simp
  | some r => exact (h r (List.mem_of_getElem? he)).1

theorem maxLen_le : maxLen ≤ 9223372036854775807 := by decide

set_option maxRecDepth 100000 in
theorem lifted (os : Os) (started : os.Started) (H : Type) (enc : TypeId × Value → H) :
    ReturnsInHanded {} Try.checked os 3 .any (Rows.assignmentValidSpec.pre6 enc Try.prog Try.f3 Rows.assignmentValidRow.domain false) (Rows.assignmentValidSpec.post enc Try.prog Try.f3 false true false false) := by
  refine returnsInHanded_of_change (C := Try.checked) own started (by kernel_rfl) Try.func3
    (ChangeSpec.witness6 (enc := enc) (C := Try.checked) false ⟨#[], #[.slice none 0 0], []⟩ 8 (by kernel_rfl) (by kernel_rfl) (by kernel_rfl) (by kernel_rfl)) ?_
  intro W base args ds gs before hval0 hW hcnd _
  have hval : ∀ (j : Nat) t v, Try.f3.params[j]? = some t → args[j]? = some v → Value.okWide Try.prog W .any base t v := hval0
  have hW' := hW
  obtain ⟨p, q, hA0, hV, rfl, hfz, hnd⟩ := hW
  have hA : DataW.TrodAll enc Try.prog W 0 (fun _ => true) true Try.f3.params.toList args.toList ds p := hA0
  rw [Try.params3] at hA hval
  obtain ⟨v0, vs0, d0, ds0, p0, q0, hargs, rfl, rfl, h0, r0⟩ := trodAll_cons hA
  obtain ⟨rfl, rfl, rfl⟩ := trodAll_nil r0
  obtain rfl : args = #[v0] := by cases args; simp_all
  obtain ⟨rfl, rfl⟩ := trodVars_none hV
  have k0 := h0
  have lt0 : ∀ x ∈ p0, x.block < W.heap.size := by obtain ⟨m, hm⟩ := k0; exact DataW.trod_lt m _ _ _ hm
  obtain ⟨a0, len0, cap0, rfl⟩ := okWide_slice Try.underlying22 (hval 0 22 v0 rfl rfl)
  obtain ⟨m0, ok0, l0, R0⟩ := arg_one rfl rd_mat k0
  clear hA0 hval0
  refine (Call.law (law3 m0 (Nat.le_trans ok0.1 maxLen_le) (fun i => Nat.le_trans (rows_le ok0.2 i) maxLen_le)) (vs := #[.slice a0 len0 cap0]) (w := W) ?_).mono fun e W' ⟨he, bel⟩ => ?_
  · refine ⟨rfl, fun i hi => ?_⟩
    match i, hi with
    | 0, _ => exact R0
  subst he
  exact ⟨_, rfl, _, _, _, [], _, [], hW', trodAll_mk1 (shut_bool Try.underlying4 _), (trodAll_cons_mk (Below.trod laidOut (by kernel_rfl) (of_decide_eq_true (by kernel_rfl)) k0 bel lt0) trodAll_mk0), rfl, bel.frame _, fun h => by cases h⟩

theorem over : Rows.assignmentValidRow.holds Try.pinned (OpenSpec.ofChange Rows.assignmentValidSpec) :=
  OpenClaim.holds_of_wide 3 Try.f3 rfl rfl rfl rfl rfl rfl rfl ⟨rfl, rfl, rfl, rfl, rfl⟩ rfl rfl rfl rfl rfl (by kernel_rfl) Try.func3 (by kernel_rfl)
    (of_decide_eq_true (by kernel_rfl)) (by unfold Func.isWrapper; first | (rw [if_pos (by decide +kernel)]; kernel_rfl) | (rw [if_neg (by decide +kernel)]; exact ⟨rfl, rfl⟩))
    (fun os started H enc _ => lifted os started H enc)

end Go.Proofs.Ytockdinjmnkdoaa.assignmentValid
namespace Go.Proofs.Ytockdinjmnkdoaa
theorem assignmentValid_holds : Rows.AssignmentValidSaid := assignmentValid.over
end Go.Proofs.Ytockdinjmnkdoaa
