/- For every description of dependencies, TopKeys returns true: the keys are the minimal transversals of the complements of the antikeys, and both certify one another. Where what comes in is of bulk at most 1048576, and the package-level variable holds what the program's text says. -/
import Derived.Test.YtmcmphmhjikgkaaDoorRows
import Derived.Test.YtmcmphmhjikgkaaDoorTie
import Derived.Test.YtmcmphmhjikgkaaDoorCards
import Derived.Test.YtmcmphmhjikgkaaDoorL2
import Derived.Test.YtmcmphmhjikgkaaDoorT1
import Derived.SevenTiedAt
import Derived.Deep.DeepHandedRow
set_option linter.unusedSimpArgs false
set_option linter.unusedVariables false
set_option linter.unusedSectionVars false
namespace Go.Proofs.YtmcmphmhjikgkaaDoor.topKeys
open Go Go.Ab Go.ChangeShapes Go.WideShapes Go.ChangeAt Go.RowKit

theorem door_met (os : Os) (args : Array Value) : laidMet Tryd.prog Rows.topKeysUptoRow.laid ((World.doorLaid Tryd.prog 400 os).forCall (fun _ _ => 0) ⟨#[], args, []⟩).memory :=
  laidMet_of_run' 8 (by kernel_rfl) (by kernel_rfl)

set_option maxRecDepth 100000 in
theorem reads (os : Os) {H : Type} (enc : TypeId × Value → H) : ∃ places, DataW.whole enc Tryd.prog ((World.doorLaid Tryd.prog 400 os).forCall (fun _ _ => 0) ⟨#[], #[.agg #[.int .u8 0, .slice none 0 0]], []⟩).memory Tryd.f3.params.toList Rows.topKeysSpec.vars false #[.agg #[.int .u8 0, .slice none 0 0]].toList 8 = some ([.agg [.lit (.int .u8 0), .nil]], [], places) :=
  ⟨[], by kernel_rfl⟩

set_option maxHeartbeats 2000000 in
set_option maxRecDepth 100000 in
theorem lifted (os : Os) (started : os.Started) (H : Type) (enc : TypeId × Value → H) (F : Stop.Interp) :
    ReturnsInHanded {} Tryd.checked os 3 .any ((Rows.OpenSpec.upto Rows.topKeysSpec).preRow enc Tryd.prog Tryd.f3 Rows.topKeysUptoRow.domain false Rows.topKeysUptoRow.laid) (((Rows.OpenSpec.upto Rows.topKeysSpec).at F).post enc Tryd.prog Tryd.f3 false true false false) := by
  obtain ⟨places, hx⟩ := reads os enc
  refine returnsInHanded_of_row (C := Tryd.checked) (s := Rows.OpenSpec.upto Rows.topKeysSpec) own started (by kernel_rfl) Tryd.func3
    (witness_row_at (enc := enc) (C := Tryd.checked) false (World.doorLaid Tryd.prog 400 os) #[.agg #[.int .u8 0, .slice none 0 0]] rfl (by kernel_rfl) (by kernel_rfl) (by kernel_rfl)
      (OpenSpec.preRow_of_cond 8 hx (by kernel_rfl) (fun k hk => by cases hk; kernel_rfl) (by kernel_rfl) (door_met os _))) ?_
  intro W base args ds gs before hval0 hW _ hcond hwt0 hL hsh _
  have hval : ∀ (j : Nat) t v, Tryd.f3.params[j]? = some t → args[j]? = some v → Value.okWide Tryd.prog W .any base t v := hval0
  have hW' := hW
  obtain ⟨p, q, hA0, hV, rfl, hfz, hnd⟩ := hW
  have hA : DataW.TrodAll enc Tryd.prog W 0 (fun _ => true) true Tryd.f3.params.toList args.toList ds p := hA0
  rw [Tryd.params3] at hA hval
  obtain ⟨v0, vs0, d0, ds0, p0, q0, hargs, rfl, rfl, h0, r0⟩ := trodAll_cons hA
  obtain ⟨rfl, rfl, rfl⟩ := trodAll_nil r0
  obtain rfl : args = #[v0] := by cases args; simp_all
  obtain ⟨rfl, rfl⟩ := trodVars_none hV
  have hsm : Rows.uptoBulkAll [d0] ≤ 1048576 := of_decide_eq_true (hcond _ rfl)
  simp only [Rows.uptoBulkAll] at hsm
  have k0 := h0
  have lt0 : ∀ x ∈ p0, x.block < W.heap.size := by obtain ⟨m, hm⟩ := k0; exact DataW.trod_lt m _ _ _ hm
  obtain ⟨a0, rfl, _, _⟩ : ∃ cs, v0 = .agg cs ∧ cs.size = Tryd.prog.cellsOf 24 ∧ Row.okWide Tryd.prog W .any base 24 cs := by have := hval 0 24 v0 rfl rfl; simpa only [Value.okWide, Tryd.underlying24] using this
  obtain ⟨m0, ok0, R0⟩ := rd_deps (B := 1048576) k0 (by omega)
  clear hA0 hval0
  obtain ⟨gu, hgl⟩ := gl_of_laid hL
  refine (@Call.law Tryd.prog gE 3 _ _ (@law_keys gE bruE m0.1 m0.2 ok0.1 ok0.2.1 ok0.2.2) ⟨_, Tryd.func3, by kernel_rfl, by kernel_rfl⟩ W #[.agg a0] hgl ?_).mono fun e W' ⟨he, bel⟩ => ?_
  · refine ⟨rfl, fun i hi => ?_⟩
    match i, hi with
    | 0, _ => exact R0
  subst he
  exact ⟨_, rfl, _, _, _, [], _, [], hW', trodAll_mk1 (shut_bool Tryd.underlying4 _), (trodAll_cons_mk (Below.trod laidOut (by kernel_rfl) (of_decide_eq_true (by kernel_rfl)) k0 bel lt0) trodAll_mk0), rfl, bel.frame _, fun h => by cases h⟩

theorem over : Rows.topKeysUptoRow.holds Tryd.pinned (Rows.OpenSpec.upto Rows.topKeysSpec) :=
  OpenClaim.holds_of_cond 3 Tryd.f3 rfl rfl rfl rfl rfl rfl rfl ⟨rfl, rfl, rfl, rfl, rfl⟩ rfl rfl rfl rfl rfl (by kernel_rfl) Tryd.func3 (by kernel_rfl)
    (of_decide_eq_true (by kernel_rfl)) (by unfold Func.isWrapper; first | (rw [if_pos (by decide +kernel)]; kernel_rfl) | (rw [if_neg (by decide +kernel)]; exact ⟨rfl, rfl⟩))
    (fun os started H enc _ F => by rw [OpenClaim.pre_eq_preRow]; exact lifted os started H enc F)

theorem card : Claim7.holds Tryd.pinned (.plain (Rows.OpenSpec.upto Rows.topKeysSpec)) Rows.topKeysUptoCard :=
  Claim7.holds_tied_plain_at .later [] [.data] true (true, "1f0de13bf55776090375968e70857447e5e0404989fbaf0d3f5a6ccf5a702f59") false
    over (fun _ h => by cases h) (by kernel_rfl) (fun _ h => by cases h) topKeysUpto_row_tie rfl ⟨rfl, rfl⟩ (by kernel_rfl) rfl
    (fun f fn hf hfn => by
      obtain rfl : f = 3 := Option.some.inj ((show Tryd.prog.funcNamed "dross/drosstop.TopKeys" = some 3 by kernel_rfl).symm.trans hf) |>.symm
      obtain rfl : fn = Tryd.f3 := (Option.some.inj (Tryd.func3.symm.trans hfn)).symm
      exact ⟨by kernel_rfl, fun j t ht => by
        rw [Tryd.params3] at ht
        rcases j with _ | j
        · obtain rfl : t = 24 := by simpa using ht.symm
          exact (show Tryd.prog.wantsStandIn 24 = false by kernel_rfl)
        simp at ht⟩)
    (by kernel_rfl)
end Go.Proofs.YtmcmphmhjikgkaaDoor.topKeys
namespace Go.Proofs.YtmcmphmhjikgkaaDoor
theorem topKeys_holds : Rows.TopKeysUptoCardSaid := topKeys.card
end Go.Proofs.YtmcmphmhjikgkaaDoor
