/- For every draft, links and spoiling, InclusionCheck returns true: Check accepts exactly the proofs. No condition but that the package-level variables hold what the program's text says. -/
import Derived.Test.YtblfodnajpamfaaGreatDoorRows
import Derived.Test.YtblfodnajpamfaaGreatDoorTie
import Derived.Test.YtblfodnajpamfaaGreatDoorCards
import Derived.Test.YtblfodnajpamfaaGreatDoorQ7
import Derived.Test.YtblfodnajpamfaaGreatDoorT4
import Derived.SevenTiedAt
set_option linter.unusedSimpArgs false
set_option linter.unusedVariables false
set_option linter.unusedSectionVars false
namespace Go.Proofs.YtblfodnajpamfaaGreatDoor.inclusionCheck
open Go Go.Ab Go.ChangeShapes Go.WideShapes Go.ChangeAt Go.RowKit

theorem door_met (os : Os) (args : Array Value) : laidMetH Tryz.prog Rows.inclusionCheckRow.laid ((World.doorLaid Tryz.prog 400 os).forCall (fun _ _ => 0) ⟨#[], args, []⟩).memory :=
  laidMetH_of_parts3 (fuel := 8) (laidMet_of_run' 8 (by kernel_rfl) (by kernel_rfl)) (by kernel_rfl) (by kernel_rfl)

set_option maxHeartbeats 2000000 in
set_option maxRecDepth 100000 in
theorem lifted (os : Os) (started : os.Started) (H : Type) (enc : TypeId × Value → H) :
    ReturnsInHanded {} Tryz.checked os 4 .any (fun w args => (Rows.inclusionCheckSpec.pre enc Tryz.prog Tryz.f4 [] false w args ∧ laidMetH Tryz.prog Rows.inclusionCheckRow.laid w) ∧ sizedMet enc Tryz.prog Tryz.f4 (OpenSpec.ofChange Rows.inclusionCheckSpec) false w args)
      (Rows.inclusionCheckSpec.post enc Tryz.prog Tryz.f4 false true false false) := by
  refine returnsInHanded_of_change_and (C := Tryz.checked) (X := fun w _ => laidMetH Tryz.prog Rows.inclusionCheckRow.laid w) (fun _ _ _ hh h => h.of_heap hh) own started (by kernel_rfl) Tryz.func4
    (ChangeSpec.witness_shaped (enc := enc) (C := Tryz.checked) (os := os) (X := fun w _ => laidMetH Tryz.prog Rows.inclusionCheckRow.laid w) false (World.doorLaid Tryz.prog 400 os) #[.slice none 0 0, .slice none 0 0, .agg #[.int .u8 0, .int .u8 0, .slice none 0 0, .slice none 0 0, .int .u8 0, .int .u8 0, .int .i8 0]] 8 rfl (World.shaped_of_RefB (by kernel_rfl) (by kernel_rfl)) (by kernel_rfl) (by kernel_rfl) (by kernel_rfl) (door_met os _)) ?_
  intro W base args ds gs before hval0 hW _ hwt0 hL _
  have hval : ∀ (j : Nat) t v, Tryz.f4.params[j]? = some t → args[j]? = some v → Value.okWide Tryz.prog W .any base t v := hval0
  have hW' := hW
  obtain ⟨p, q, hA0, hV, rfl, hfz, hnd⟩ := hW
  have hA : DataW.TrodAll enc Tryz.prog W 0 (fun _ => true) true Tryz.f4.params.toList args.toList ds p := hA0
  rw [Tryz.params4] at hA hval
  obtain ⟨v0, vs0, d0, ds0, p0, q0, hargs, rfl, rfl, h0, r0⟩ := trodAll_cons hA
  obtain ⟨v1, vs1, d1, ds1, p1, q1, rfl, rfl, rfl, h1, r1⟩ := trodAll_cons r0
  obtain ⟨v2, vs2, d2, ds2, p2, q2, rfl, rfl, rfl, h2, r2⟩ := trodAll_cons r1
  obtain ⟨rfl, rfl, rfl⟩ := trodAll_nil r2
  obtain rfl : args = #[v0, v1, v2] := by cases args; simp_all
  obtain ⟨rfl, rfl⟩ := trodVars_none hV
  have k0 := h0
  have lt0 : ∀ x ∈ p0, x.block < W.heap.size := by obtain ⟨m, hm⟩ := k0; exact DataW.trod_lt m _ _ _ hm
  obtain ⟨a0, len0, cap0, rfl⟩ := okWide_slice Tryz.underlying23 (hval 0 23 v0 rfl rfl)
  obtain ⟨m0, ok0, l0, R0⟩ := arg_one rfl (@rd_draft gN) k0
  have k1 := h1
  have lt1 : ∀ x ∈ p1, x.block < W.heap.size := by obtain ⟨m, hm⟩ := k1; exact DataW.trod_lt m _ _ _ hm
  obtain ⟨a1, len1, cap1, rfl⟩ := okWide_slice Tryz.underlying24 (hval 1 24 v1 rfl rfl)
  obtain ⟨m1, ok1, l1, R1⟩ := arg_one rfl (@rd_links gN) k1
  have k2 := h2
  have lt2 : ∀ x ∈ p2, x.block < W.heap.size := by obtain ⟨m, hm⟩ := k2; exact DataW.trod_lt m _ _ _ hm
  obtain ⟨a2, rfl, _, _⟩ : ∃ cs, v2 = .agg cs ∧ cs.size = Tryz.prog.cellsOf 50 ∧ Row.okWide Tryz.prog W .any base 50 cs := by have := hval 2 50 v2 rfl rfl; simpa only [Value.okWide, Tryz.underlying50] using this
  obtain ⟨m2, ok2, R2⟩ := arg_agg (@rd_spoil gN) k2
  clear hA0 hval0
  obtain ⟨gu, hgl⟩ := gl_of_laid hL
  refine (@Call.law Tryz.prog gE 4 _ _ (@law_check gE tabsE m0 m1 m2 ok0.2 ok0.1 ok1 ok2) ⟨_, Tryz.func4, by kernel_rfl, by kernel_rfl⟩ W #[.slice a0 len0 cap0, .slice a1 len1 cap1, .agg a2] hgl ?_).mono fun e W' ⟨he, bel⟩ => ?_
  · refine ⟨rfl, fun i hi => ?_⟩
    match i, hi with
    | 0, _ => exact R0
    | 1, _ => exact R1
    | 2, _ => exact R2
  subst he
  exact ⟨_, rfl, _, _, _, [], _, [], hW', trodAll_mk1 (shut_bool Tryz.underlying4 _), (trodAll_cons_mk (Below.trod laidOut (by kernel_rfl) (of_decide_eq_true (by kernel_rfl)) k0 bel lt0) (trodAll_cons_mk (Below.trod laidOut (by kernel_rfl) (of_decide_eq_true (by kernel_rfl)) k1 bel lt1) (trodAll_cons_mk (Below.trod laidOut (by kernel_rfl) (of_decide_eq_true (by kernel_rfl)) k2 bel lt2) trodAll_mk0))), rfl, bel.frame _, fun h => by cases h⟩

theorem over : Rows.inclusionCheckRow.holds Tryz.pinned (OpenSpec.ofChange Rows.inclusionCheckSpec) :=
  OpenClaim.holds_of_wide 4 Tryz.f4 rfl rfl rfl rfl rfl rfl rfl ⟨rfl, rfl, rfl, rfl, rfl⟩ rfl rfl rfl rfl rfl (by kernel_rfl) Tryz.func4 (by kernel_rfl)
    (of_decide_eq_true (by kernel_rfl)) (by unfold Func.isWrapper; first | (rw [if_pos (by decide +kernel)]; kernel_rfl) | (rw [if_neg (by decide +kernel)]; exact ⟨rfl, rfl⟩))
    (fun os started H enc _ => lifted os started H enc)

theorem card : Claim7.holds Tryz.pinned (.plain (OpenSpec.ofChange Rows.inclusionCheckSpec)) Rows.inclusionCheckCard :=
  Claim7.holds_tied_plain_at .later [] [.data, .data, .data] true (true, "9bd482a327342b73df42cdc31ac9d5d73f68b31e4aeb9840a3ad041cef834f73") false
    over (fun _ h => by cases h) (by kernel_rfl) (fun _ h => by cases h) inclusionCheck_row_tie rfl ⟨rfl, rfl⟩ (by kernel_rfl) rfl
    (fun f fn hf hfn => by
      obtain rfl : f = 4 := Option.some.inj ((show Tryz.prog.funcNamed "dross/drosslaw15.InclusionCheck" = some 4 by kernel_rfl).symm.trans hf) |>.symm
      obtain rfl : fn = Tryz.f4 := (Option.some.inj (Tryz.func4.symm.trans hfn)).symm
      exact ⟨by kernel_rfl, fun j t ht => by
        rw [Tryz.params4] at ht
        rcases j with _ | j
        · obtain rfl : t = 23 := by simpa using ht.symm
          exact (show Tryz.prog.wantsStandIn 23 = false by kernel_rfl)
        rcases j with _ | j
        · obtain rfl : t = 24 := by simpa using ht.symm
          exact (show Tryz.prog.wantsStandIn 24 = false by kernel_rfl)
        rcases j with _ | j
        · obtain rfl : t = 50 := by simpa using ht.symm
          exact (show Tryz.prog.wantsStandIn 50 = false by kernel_rfl)
        simp at ht⟩)
    (by kernel_rfl)
end Go.Proofs.YtblfodnajpamfaaGreatDoor.inclusionCheck
namespace Go.Proofs.YtblfodnajpamfaaGreatDoor
theorem inclusionCheck_holds : Rows.InclusionCheckCardSaid := inclusionCheck.card
end Go.Proofs.YtblfodnajpamfaaGreatDoor
