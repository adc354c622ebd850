/- For every description of dependencies and every set, TopClosure returns true: the closure is what the closed sets about it have in common, and where the chase of two rows makes them equal. Where what comes in is of bulk at most 1048576, and the package-level variable holds what the program's text says. -/
import Derived.Test.YtmcmphmhjikgkaaGreatDoorRows
import Derived.Test.YtmcmphmhjikgkaaGreatDoorTie
import Derived.Test.YtmcmphmhjikgkaaGreatDoorCards
import Derived.Test.YtmcmphmhjikgkaaGreatDoorL4
import Derived.Test.YtmcmphmhjikgkaaGreatDoorT1
import Derived.SevenTiedAt
import Derived.Deep.DeepHandedRow
set_option linter.unusedSimpArgs false
set_option linter.unusedVariables false
set_option linter.unusedSectionVars false
namespace Go.Proofs.YtmcmphmhjikgkaaGreatDoor.topClosure
open Go Go.Ab Go.ChangeShapes Go.WideShapes Go.ChangeAt Go.RowKit

theorem door_met (os : Os) (args : Array Value) : laidMet Tryz.prog Rows.topClosureUptoRow.laid ((World.doorLaid Tryz.prog 400 os).forCall (fun _ _ => 0) ⟨#[], args, []⟩).memory :=
  laidMet_of_run' 8 (by kernel_rfl) (by kernel_rfl)

set_option maxRecDepth 100000 in
theorem reads (os : Os) {H : Type} (enc : TypeId × Value → H) : ∃ places, DataW.whole enc Tryz.prog ((World.doorLaid Tryz.prog 400 os).forCall (fun _ _ => 0) ⟨#[], #[.agg #[.int .u8 0, .slice none 0 0], .int .u8 0], []⟩).memory Tryz.f3.params.toList Rows.topClosureSpec.vars false #[.agg #[.int .u8 0, .slice none 0 0], .int .u8 0].toList 8 = some ([.agg [.lit (.int .u8 0), .nil], .lit (.int .u8 0)], [], places) :=
  ⟨[], by kernel_rfl⟩

set_option maxHeartbeats 2000000 in
set_option maxRecDepth 100000 in
theorem lifted (os : Os) (started : os.Started) (H : Type) (enc : TypeId × Value → H) (F : Stop.Interp) :
    ReturnsInHanded {} Tryz.checked os 3 .any ((Rows.OpenSpec.upto Rows.topClosureSpec).preRow enc Tryz.prog Tryz.f3 Rows.topClosureUptoRow.domain false Rows.topClosureUptoRow.laid) (((Rows.OpenSpec.upto Rows.topClosureSpec).at F).post enc Tryz.prog Tryz.f3 false true false false) := by
  obtain ⟨places, hx⟩ := reads os enc
  refine returnsInHanded_of_row (C := Tryz.checked) (s := Rows.OpenSpec.upto Rows.topClosureSpec) own started (by kernel_rfl) Tryz.func3
    (witness_row_at (enc := enc) (C := Tryz.checked) false (World.doorLaid Tryz.prog 400 os) #[.agg #[.int .u8 0, .slice none 0 0], .int .u8 0] rfl (by kernel_rfl) (by kernel_rfl) (by kernel_rfl)
      (OpenSpec.preRow_of_cond 8 hx (by kernel_rfl) (fun k hk => by cases hk; kernel_rfl) (by kernel_rfl) (door_met os _))) ?_
  intro W base args ds gs before hval0 hW _ hcond hwt0 hL hsh _
  have hval : ∀ (j : Nat) t v, Tryz.f3.params[j]? = some t → args[j]? = some v → Value.okWide Tryz.prog W .any base t v := hval0
  have hW' := hW
  obtain ⟨p, q, hA0, hV, rfl, hfz, hnd⟩ := hW
  have hA : DataW.TrodAll enc Tryz.prog W 0 (fun _ => true) true Tryz.f3.params.toList args.toList ds p := hA0
  rw [Tryz.params3] at hA hval
  obtain ⟨v0, vs0, d0, ds0, p0, q0, hargs, rfl, rfl, h0, r0⟩ := trodAll_cons hA
  obtain ⟨v1, vs1, d1, ds1, p1, q1, rfl, rfl, rfl, h1, r1⟩ := trodAll_cons r0
  obtain ⟨rfl, rfl, rfl⟩ := trodAll_nil r1
  obtain rfl : args = #[v0, v1] := by cases args; simp_all
  obtain ⟨rfl, rfl⟩ := trodVars_none hV
  have hsm : Rows.uptoBulkAll [d0, d1] ≤ 1048576 := of_decide_eq_true (hcond _ rfl)
  simp only [Rows.uptoBulkAll] at hsm
  have k0 := h0
  have lt0 : ∀ x ∈ p0, x.block < W.heap.size := by obtain ⟨m, hm⟩ := k0; exact DataW.trod_lt m _ _ _ hm
  obtain ⟨a0, rfl, _, _⟩ : ∃ cs, v0 = .agg cs ∧ cs.size = Tryz.prog.cellsOf 24 ∧ Row.okWide Tryz.prog W .any base 24 cs := by have := hval 0 24 v0 rfl rfl; simpa only [Value.okWide, Tryz.underlying24] using this
  obtain ⟨m0, ok0, R0⟩ := rd_deps (B := 1048576) k0 (by omega)
  have k1 := h1
  have lt1 : ∀ x ∈ p1, x.block < W.heap.size := by obtain ⟨m, hm⟩ := k1; exact DataW.trod_lt m _ _ _ hm
  obtain ⟨a1, rfl⟩ := okWide_int Tryz.underlying5 (hval 1 5 v1 rfl rfl)
  obtain ⟨m1, ok1, l1, R1⟩ := arg_one rfl (@rd_u8 gN) k1
  clear hA0 hval0
  obtain ⟨gu, hgl⟩ := gl_of_laid hL
  refine (@Call.law Tryz.prog gE 3 _ _ (@law_closure gE bruE m0.1 m0.2 m1 ok0.1 ok0.2.1 ok0.2.2 ok1) ⟨_, Tryz.func3, by kernel_rfl, by kernel_rfl⟩ W #[.agg a0, .int .u8 a1] hgl ?_).mono fun e W' ⟨he, bel⟩ => ?_
  · refine ⟨rfl, fun i hi => ?_⟩
    match i, hi with
    | 0, _ => exact R0
    | 1, _ => exact R1
  subst he
  exact ⟨_, rfl, _, _, _, [], _, [], hW', trodAll_mk1 (shut_bool Tryz.underlying4 _), (trodAll_cons_mk (Below.trod laidOut (by kernel_rfl) (of_decide_eq_true (by kernel_rfl)) k0 bel lt0) (trodAll_cons_mk (Below.trod laidOut (by kernel_rfl) (of_decide_eq_true (by kernel_rfl)) k1 bel lt1) trodAll_mk0)), rfl, bel.frame _, fun h => by cases h⟩

theorem over : Rows.topClosureUptoRow.holds Tryz.pinned (Rows.OpenSpec.upto Rows.topClosureSpec) :=
  OpenClaim.holds_of_cond 3 Tryz.f3 rfl rfl rfl rfl rfl rfl rfl ⟨rfl, rfl, rfl, rfl, rfl⟩ rfl rfl rfl rfl rfl (by kernel_rfl) Tryz.func3 (by kernel_rfl)
    (of_decide_eq_true (by kernel_rfl)) (by unfold Func.isWrapper; first | (rw [if_pos (by decide +kernel)]; kernel_rfl) | (rw [if_neg (by decide +kernel)]; exact ⟨rfl, rfl⟩))
    (fun os started H enc _ F => by rw [OpenClaim.pre_eq_preRow]; exact lifted os started H enc F)

theorem card : Claim7.holds Tryz.pinned (.plain (Rows.OpenSpec.upto Rows.topClosureSpec)) Rows.topClosureUptoCard :=
  Claim7.holds_tied_plain_at .later [] [.data] true (true, "afc095bc9df6ee7dc0b392cb7ea53356bd6929a195fb5b3fdd4a7c047926bd9e") false
    over (fun _ h => by cases h) (by kernel_rfl) (fun _ h => by cases h) topClosureUpto_row_tie rfl ⟨rfl, rfl⟩ (by kernel_rfl) rfl
    (fun f fn hf hfn => by
      obtain rfl : f = 3 := Option.some.inj ((show Tryz.prog.funcNamed "dross/drosstop.TopClosure" = some 3 by kernel_rfl).symm.trans hf) |>.symm
      obtain rfl : fn = Tryz.f3 := (Option.some.inj (Tryz.func3.symm.trans hfn)).symm
      exact ⟨by kernel_rfl, fun j t ht => by
        rw [Tryz.params3] at ht
        rcases j with _ | j
        · obtain rfl : t = 24 := by simpa using ht.symm
          exact (show Tryz.prog.wantsStandIn 24 = false by kernel_rfl)
        rcases j with _ | j
        · obtain rfl : t = 5 := by simpa using ht.symm
          exact (show Tryz.prog.wantsStandIn 5 = false by kernel_rfl)
        simp at ht⟩)
    (by kernel_rfl)
end Go.Proofs.YtmcmphmhjikgkaaGreatDoor.topClosure
namespace Go.Proofs.YtmcmphmhjikgkaaGreatDoor
theorem topClosure_holds : Rows.TopClosureUptoCardSaid := topClosure.card
end Go.Proofs.YtmcmphmhjikgkaaGreatDoor
