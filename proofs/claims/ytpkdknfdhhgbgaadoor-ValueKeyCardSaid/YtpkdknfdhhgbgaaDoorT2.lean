/- Two texts that came in, with their lengths. -/
import Derived.Test.YtpkdknfdhhgbgaaDoorT1
set_option linter.unusedSimpArgs false
set_option linter.unusedVariables false
set_option linter.unusedSectionVars false
namespace Go.Proofs.YtpkdknfdhhgbgaaDoor
open Go Go.Ab Go.ChangeShapes Go.WideShapes Go.ChangeAt Go.RowKit

set_option maxRecDepth 100000 in
theorem arg_two {H : Type} {enc : TypeId × Value → H} {w : World} {base : Nat} {held : Bool} {cs : Array Value} {d : DataW H} {ps : List MemPlace} (hd : DataW.Trod enc Tryd.prog w base (fun _ => true) held 38 (.agg cs) d ps)
    (hw : (DataW.weights Tryd.prog 38 d).all (· ≤ reachBytes) = true) : ∃ m : ByteArray × ByteArray, (m.1.size ≤ 140737488351232 ∧ m.2.size ≤ 140737488351232) ∧ Rep (E0 w) (.agg cs) (.agg [Str m.1, Str m.2]) := by
  obtain ⟨fuel, hx⟩ := hd
  obtain ⟨xs, m, _, e, hl, hxl, hall⟩ := DataW.trod_array Tryd.underlying38 hx
  have c1 : Tryd.prog.cellsOf 9 = 1 := by kernel_rfl
  have c2 : Tryd.prog.cellsOf 38 = 2 := by kernel_rfl
  rw [c2] at hl
  have h0 := hall 0 (by decide)
  have h1 := hall 1 (by decide)
  rw [c1] at h0 h1
  match xs, hxl with
  | [x0, x1], _ =>
    obtain ⟨s0, e0, f0, _⟩ := DataW.trod_string Tryd.underlying9 h0
    obtain ⟨s1, e1, f1, _⟩ := DataW.trod_string Tryd.underlying9 h1
    have hcs : (Value.agg cs).cells = cs := rfl
    rw [hcs] at hl e0 e1
    have hd2 : d = .agg [.lit (.string s0.data.toList), .lit (.string s1.data.toList)] := by
      have := congrArg Prod.fst e
      simp only [List.map_cons, List.map_nil, f0, f1] at this
      exact this
    subst hd2
    have hwt : (DataW.weights Tryd.prog 38 (.agg [.lit (.string s0.data.toList), .lit (.string s1.data.toList)] : DataW H)) = [s0.data.toList.length, s1.data.toList.length] := by
      unfold DataW.weights
      rw [Tryd.underlying38]
      simp only [DataW.weightsAll, DataW.weights, List.append_nil, List.cons_append, List.nil_append]
    rw [hwt] at hw
    simp only [List.all_cons, List.all_nil, Bool.and_true, Bool.and_eq_true, decide_eq_true_eq] at hw
    have l0 : s0.data.toList.length = s0.size := Array.length_toList
    have l1 : s1.data.toList.length = s1.size := Array.length_toList
    rw [l0, l1] at hw
    have hr : reachBytes = 140737488351232 := by decide
    rw [hr] at hw
    refine ⟨(s0, s1), hw, ?_⟩
    have hcl : cs.toList = [.string s0, .string s1] := by
      match hcs2 : cs.toList, hl, e0, e1 with
      | [a, b], _, e0, e1 =>
        simp only [Nat.zero_mul, List.drop_zero, List.take_succ_cons, List.take_zero, Nat.one_mul, List.drop_succ_cons, List.cons.injEq, and_true] at e0 e1
        rw [e0, e1]
    have hca : cs = #[.string s0, .string s1] := Array.toList_inj.1 (by rw [hcl])
    subst hca
    refine .agg _ _ rfl (fun j hj => ?_)
    have : j = 0 ∨ j = 1 := by simp at hj; omega
    rcases this with rfl | rfl
    · exact .sc _
    · exact .sc _
end Go.Proofs.YtpkdknfdhhgbgaaDoor
