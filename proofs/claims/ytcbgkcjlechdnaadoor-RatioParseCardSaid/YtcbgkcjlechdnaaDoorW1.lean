/- The examples of the chapter: awake returns true. -/
import Derived.Test.YtcbgkcjlechdnaaDoorU2
set_option linter.unusedSimpArgs false
set_option linter.unusedVariables false
set_option linter.unusedSectionVars false
namespace Go.Proofs.YtcbgkcjlechdnaaDoor
open Go Go.Ab
variable [Gl] [Tabs]

theorem dec3 {u : Nat} (h1 : ¬ u < 10) (h2 : 10 ≤ u / 10) (h3 : u / 10 < 100) : Lib.decDigits u = [UInt8.ofNat (48 + u / 10 / 10), UInt8.ofNat (48 + u / 10 % 10), UInt8.ofNat (48 + u % 10)] := by
  rw [Lib.decDigits, dif_neg h1, Lib.decDigits_two (by omega) h3]
  rfl

theorem pct_66 : pctR 2 3 = (⟨#[54, 54, 46, 54, 54]⟩, 0) := by
  have h1 : dec 66 = ⟨#[54, 54]⟩ := by unfold dec; rw [Lib.decDigits_two (by decide) (by decide)]; rfl
  have h2 : dec 166 = ⟨#[49, 54, 54]⟩ := by unfold dec; rw [dec3 (by decide) (by decide) (by decide)]; rfl
  have h3 : pctR 2 3 = (dec 66 ++ ⟨#[46]⟩ ++ (dec 166).extract 1 (dec 166).size, 0) := rfl
  rw [h3, h1, h2]
  decide +kernel

set_option maxRecDepth 20000 in
theorem awake_t : PCall Tryd.prog 12 [] (SB true) := by
  have m1 := make_p 6 (-8) (by decide) (by decide) (by decide) (by decide)
  rw [show mkR 6 (-8) = (-3, 4, 0) by kernel_rfl] at m1
  have o1 := of_r 1 3 (by decide) (by decide) (by decide) (by decide)
  rw [show ofQ 1 3 = (1, 3) by kernel_rfl] at o1
  have o2 := of_r 1 6 (by decide) (by decide) (by decide) (by decide)
  rw [show ofQ 1 6 = (1, 6) by kernel_rfl] at o2
  have o3 := of_r 2 3 (by decide) (by decide) (by decide) (by decide)
  rw [show ofQ 2 3 = (2, 3) by kernel_rfl] at o3
  have a1 := add_p 1 3 1 6 (by unfold In64; decide) (by unfold In64; decide) (by unfold In64; decide) (by unfold In64; decide)
  rw [show addP 1 3 1 6 = (1, 2, 0) by kernel_rfl] at a1
  have p1 := pct_p 2 3 (by unfold In64; decide) (by unfold In64; decide)
  rw [pct_66] at p1
  refine Call.enter' (N := 46) (rs := [.tmp 0]) Tryd.func12 rfl rfl rfl (by decide) rfl ?_; simp only [argT]; have hD : (0 : Nat) = 0 := rfl
  repeat' first
    | (refine SW.seq_k fun K hK => ?_)
    | (refine SW.block ?_)
    | ((first
      | refine SW.region ?_
      | refine SW.regionD (Checked.mixed Tryd.checked) (by kernel_rfl) ?_
      | refine SW.cond ?_
      | refine SW.skip ?_
      | refine SW.exit ?_
      | refine SW.ret ?_
      | refine Call.of_pure (m1) ?_
      | refine ⟨_, m1, ?_⟩
      | refine Call.of_pure (o1) ?_
      | refine ⟨_, o1, ?_⟩
      | refine Call.of_pure (o2) ?_
      | refine ⟨_, o2, ?_⟩
      | refine Call.of_pure (o3) ?_
      | refine ⟨_, o3, ?_⟩
      | refine Call.of_pure (a1) ?_
      | refine ⟨_, a1, ?_⟩
      | refine Call.of_pure (p1) ?_
      | refine ⟨_, p1, ?_⟩
      | (refine allF_i fun b hb => ?_; replace hD := And.intro hb hD; clear hb; simp only [fresh_cons, fresh_nil, and_true, ne_eq, neF] at hD)
      | simp only [appK, appOsK]); try simp only [go_sem, ↓reduceIte, reduceCtorEq, Nat.reduceAdd, Nat.reduceMul, Nat.reduceSub, Nat.reduceLT, Nat.reduceLeDiff, Nat.reduceEqDiff, Nat.reduceBEq, Nat.reduceBneDiff, Int.reduceToNat, Int.toNat_natCast, eq_self, decide_true, decide_false, Int.reduceEq, and_true, true_and, if_false_eq, if_true_eq, List.getElem?_cons_zero, List.getElem?_cons_succ, setAll, List.length_cons, List.length_nil, List.length_set, List.getD_cons_zero, List.getD_cons_succ, Nat.le_refl, Int.le_refl, Nat.beq_refl, or_self, true_or, or_true, List.drop_zero, hD])
    | (refine And.intro (by omega) ?_)
    | (refine ifI (fun hc => ?_) (fun hc => ?_) <;> first | (exfalso; omega) | skip)
    | (first | (apply hK; clear hK K) | (clear hK K; apply hK; clear hK K) | (clear hK K; clear hK K; apply hK; clear hK K) | (clear hK K; clear hK K; clear hK K; apply hK; clear hK K) | (clear hK K; clear hK K; clear hK K; clear hK K; apply hK; clear hK K) | (clear hK K; clear hK K; clear hK K; clear hK K; clear hK K; apply hK; clear hK K))
    | fail
  refine ret_pure ?_; simp only [resL_tmp, resL_nil, tupOf, go_sem, ↓reduceIte, reduceCtorEq, Nat.reduceAdd, Nat.reduceMul, Nat.reduceSub, Nat.reduceLT, Nat.reduceLeDiff, Nat.reduceEqDiff, Nat.reduceBEq, Nat.reduceBneDiff, Int.reduceToNat, Int.toNat_natCast, eq_self, decide_true, decide_false, Int.reduceEq, and_true, true_and, if_false_eq, if_true_eq, List.getElem?_cons_zero, List.getElem?_cons_succ, setAll, List.length_cons, List.length_nil, List.length_set, List.getD_cons_zero, List.getD_cons_succ, Nat.le_refl, Int.le_refl, Nat.beq_refl, or_self, true_or, or_true, List.drop_zero, hD]
  rw [beq_self_eq_true]
end Go.Proofs.YtcbgkcjlechdnaaDoor
