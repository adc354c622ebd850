/- For every draft, links and goal, TopInclusion returns true: an inclusion dependency follows exactly if it has a proof; otherwise the refuting database refutes it. No condition but that the package-level variables hold what the program's text says. -/
import Derived.Test.YtmcmphmhjikgkaaGreatDoorRows
import Derived.Test.YtmcmphmhjikgkaaGreatDoorTie
import Derived.Test.YtmcmphmhjikgkaaGreatDoorCards
import Derived.Test.YtmcmphmhjikgkaaGreatDoorQ6
import Derived.Test.YtmcmphmhjikgkaaGreatDoorT1
import Derived.SevenTiedAt
set_option linter.unusedSimpArgs false
set_option linter.unusedVariables false
set_option linter.unusedSectionVars false
namespace Go.Proofs.YtmcmphmhjikgkaaGreatDoor.topInclusion
open Go Go.Ab Go.ChangeShapes Go.WideShapes Go.ChangeAt Go.RowKit

theorem door_met (os : Os) (args : Array Value) : laidMetH Tryz.prog Rows.topInclusionRow.laid ((World.doorLaid Tryz.prog 400 os).forCall (fun _ _ => 0) ⟨#[], args, []⟩).memory :=
  laidMetH_of_parts3 (fuel := 8) (laidMet_of_run' 8 (by kernel_rfl) (by kernel_rfl)) (by kernel_rfl) (by kernel_rfl)

set_option maxHeartbeats 2000000 in
set_option maxRecDepth 100000 in
theorem lifted (os : Os) (started : os.Started) (H : Type) (enc : TypeId × Value → H) :
    ReturnsInHanded {} Tryz.checked os 4 .any (fun w args => (Rows.topInclusionSpec.pre enc Tryz.prog Tryz.f4 [] false w args ∧ laidMetH Tryz.prog Rows.topInclusionRow.laid w) ∧ sizedMet enc Tryz.prog Tryz.f4 (OpenSpec.ofChange Rows.topInclusionSpec) false w args)
      (Rows.topInclusionSpec.post enc Tryz.prog Tryz.f4 false true false false) := by
  refine returnsInHanded_of_change_and (C := Tryz.checked) (X := fun w _ => laidMetH Tryz.prog Rows.topInclusionRow.laid w) (fun _ _ _ hh h => h.of_heap hh) own started (by kernel_rfl) Tryz.func4
    (ChangeSpec.witness_shaped (enc := enc) (C := Tryz.checked) (os := os) (X := fun w _ => laidMetH Tryz.prog Rows.topInclusionRow.laid w) false (World.doorLaid Tryz.prog 400 os) #[.slice none 0 0, .slice none 0 0, .agg #[.int .u8 0, .int .u8 0, .slice none 0 0, .slice none 0 0]] 8 rfl (World.shaped_of_RefB (by kernel_rfl) (by kernel_rfl)) (by kernel_rfl) (by kernel_rfl) (by kernel_rfl) (door_met os _)) ?_
  intro W base args ds gs before hval0 hW _ hwt0 hL _
  have hval : ∀ (j : Nat) t v, Tryz.f4.params[j]? = some t → args[j]? = some v → Value.okWide Tryz.prog W .any base t v := hval0
  have hW' := hW
  obtain ⟨p, q, hA0, hV, rfl, hfz, hnd⟩ := hW
  have hA : DataW.TrodAll enc Tryz.prog W 0 (fun _ => true) true Tryz.f4.params.toList args.toList ds p := hA0
  rw [Tryz.params4] at hA hval
  obtain ⟨v0, vs0, d0, ds0, p0, q0, hargs, rfl, rfl, h0, r0⟩ := trodAll_cons hA
  obtain ⟨v1, vs1, d1, ds1, p1, q1, rfl, rfl, rfl, h1, r1⟩ := trodAll_cons r0
  obtain ⟨v2, vs2, d2, ds2, p2, q2, rfl, rfl, rfl, h2, r2⟩ := trodAll_cons r1
  obtain ⟨rfl, rfl, rfl⟩ := trodAll_nil r2
  obtain rfl : args = #[v0, v1, v2] := by cases args; simp_all
  obtain ⟨rfl, rfl⟩ := trodVars_none hV
  have k0 := h0
  have lt0 : ∀ x ∈ p0, x.block < W.heap.size := by obtain ⟨m, hm⟩ := k0; exact DataW.trod_lt m _ _ _ hm
  obtain ⟨a0, len0, cap0, rfl⟩ := okWide_slice Tryz.underlying49 (hval 0 49 v0 rfl rfl)
  obtain ⟨m0, ok0, l0, R0⟩ := arg_one rfl (@rd_draft gN) k0
  have k1 := h1
  have lt1 : ∀ x ∈ p1, x.block < W.heap.size := by obtain ⟨m, hm⟩ := k1; exact DataW.trod_lt m _ _ _ hm
  obtain ⟨a1, len1, cap1, rfl⟩ := okWide_slice Tryz.underlying50 (hval 1 50 v1 rfl rfl)
  obtain ⟨m1, ok1, l1, R1⟩ := arg_one rfl (@rd_links gN) k1
  have k2 := h2
  have lt2 : ∀ x ∈ p2, x.block < W.heap.size := by obtain ⟨m, hm⟩ := k2; exact DataW.trod_lt m _ _ _ hm
  obtain ⟨a2, rfl, _, _⟩ : ∃ cs, v2 = .agg cs ∧ cs.size = Tryz.prog.cellsOf 53 ∧ Row.okWide Tryz.prog W .any base 53 cs := by have := hval 2 53 v2 rfl rfl; simpa only [Value.okWide, Tryz.underlying53] using this
  obtain ⟨m2, ok2, R2⟩ := arg_agg (@rd_link gN) k2
  clear hA0 hval0
  obtain ⟨gu, hgl⟩ := gl_of_laid hL
  refine (@Call.law Tryz.prog gE 4 _ _ (@law_incl gE tabsE bruE m0 m1 m2 ok0.2 ok0.1 ok1 ok2) ⟨_, Tryz.func4, by kernel_rfl, by kernel_rfl⟩ W #[.slice a0 len0 cap0, .slice a1 len1 cap1, .agg a2] hgl ?_).mono fun e W' ⟨he, bel⟩ => ?_
  · refine ⟨rfl, fun i hi => ?_⟩
    match i, hi with
    | 0, _ => exact R0
    | 1, _ => exact R1
    | 2, _ => exact R2
  subst he
  exact ⟨_, rfl, _, _, _, [], _, [], hW', trodAll_mk1 (shut_bool Tryz.underlying4 _), (trodAll_cons_mk (Below.trod laidOut (by kernel_rfl) (of_decide_eq_true (by kernel_rfl)) k0 bel lt0) (trodAll_cons_mk (Below.trod laidOut (by kernel_rfl) (of_decide_eq_true (by kernel_rfl)) k1 bel lt1) (trodAll_cons_mk (Below.trod laidOut (by kernel_rfl) (of_decide_eq_true (by kernel_rfl)) k2 bel lt2) trodAll_mk0))), rfl, bel.frame _, fun h => by cases h⟩

theorem over : Rows.topInclusionRow.holds Tryz.pinned (OpenSpec.ofChange Rows.topInclusionSpec) :=
  OpenClaim.holds_of_wide 4 Tryz.f4 rfl rfl rfl rfl rfl rfl rfl ⟨rfl, rfl, rfl, rfl, rfl⟩ rfl rfl rfl rfl rfl (by kernel_rfl) Tryz.func4 (by kernel_rfl)
    (of_decide_eq_true (by kernel_rfl)) (by unfold Func.isWrapper; first | (rw [if_pos (by decide +kernel)]; kernel_rfl) | (rw [if_neg (by decide +kernel)]; exact ⟨rfl, rfl⟩))
    (fun os started H enc _ => lifted os started H enc)

theorem card : Claim7.holds Tryz.pinned (.plain (OpenSpec.ofChange Rows.topInclusionSpec)) Rows.topInclusionCard :=
  Claim7.holds_tied_plain_at .later [] [.data, .data, .data] true (true, "afc095bc9df6ee7dc0b392cb7ea53356bd6929a195fb5b3fdd4a7c047926bd9e") false
    over (fun _ h => by cases h) (by kernel_rfl) (fun _ h => by cases h) topInclusion_row_tie rfl ⟨rfl, rfl⟩ (by kernel_rfl) rfl
    (fun f fn hf hfn => by
      obtain rfl : f = 4 := Option.some.inj ((show Tryz.prog.funcNamed "dross/drosstop.TopInclusion" = some 4 by kernel_rfl).symm.trans hf) |>.symm
      obtain rfl : fn = Tryz.f4 := (Option.some.inj (Tryz.func4.symm.trans hfn)).symm
      exact ⟨by kernel_rfl, fun j t ht => by
        rw [Tryz.params4] at ht
        rcases j with _ | j
        · obtain rfl : t = 49 := by simpa using ht.symm
          exact (show Tryz.prog.wantsStandIn 49 = false by kernel_rfl)
        rcases j with _ | j
        · obtain rfl : t = 50 := by simpa using ht.symm
          exact (show Tryz.prog.wantsStandIn 50 = false by kernel_rfl)
        rcases j with _ | j
        · obtain rfl : t = 53 := by simpa using ht.symm
          exact (show Tryz.prog.wantsStandIn 53 = false by kernel_rfl)
        simp at ht⟩)
    (by kernel_rfl)
end Go.Proofs.YtmcmphmhjikgkaaGreatDoor.topInclusion
namespace Go.Proofs.YtmcmphmhjikgkaaGreatDoor
theorem topInclusion_holds : Rows.TopInclusionCardSaid := topInclusion.card
end Go.Proofs.YtmcmphmhjikgkaaGreatDoor
