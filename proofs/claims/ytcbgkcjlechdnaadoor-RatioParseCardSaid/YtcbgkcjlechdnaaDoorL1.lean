/- The laws of Make, Valid, Add, Mul, Percent, Cmp: true at every input. -/
import Derived.Test.YtcbgkcjlechdnaaDoorW1
import Derived.Test.YtcbgkcjlechdnaaDoorP1
set_option linter.unusedSimpArgs false
set_option linter.unusedVariables false
set_option linter.unusedSectionVars false
namespace Go.Proofs.YtcbgkcjlechdnaaDoor
open Go Go.Ab
variable [Gl] [Tabs]

set_option maxRecDepth 20000 in
theorem law_make (n d : Int) (hn : In64 n) (hd : In64 d) : PCall Tryd.prog 3 [I64 n, I64 d] (SB true) := by
  have aw := awake_t
  have a1 := make_p n d hn.1 hn.2 hd.1 hd.2
  have a2 := make_r n d hn.1 hn.2 hd.1 hd.2
  obtain ⟨i1, i2, hk⟩ := mk_valid n d hn.2 hn.1
  generalize mkR n d = R at *
  have v := valid_p R.1 R.2.1 i1.1 i1.2 i2.1 i2.2
  by_cases he : R.2.2 = 0
  · rw [hk he] at v
    refine Call.enter' (N := 39) (rs := [.tmp 4]) Tryd.func3 rfl rfl rfl (by decide) rfl ?_; simp only [argT]; have hD : (0 : Nat) = 0 := rfl
    repeat' first
      | (refine SW.seq_k fun K hK => ?_)
      | (refine SW.block ?_)
      | ((first
      | refine SW.region ?_
      | refine SW.regionD (Checked.mixed Tryd.checked) (by kernel_rfl) ?_
      | refine SW.cond ?_
      | refine SW.skip ?_
      | refine SW.exit ?_
      | refine SW.ret ?_
      | refine Call.of_pure (aw) ?_
      | refine ⟨_, aw, ?_⟩
      | refine Call.of_pure (a1) ?_
      | refine ⟨_, a1, ?_⟩
      | refine Call.of_pure (a2) ?_
      | refine ⟨_, a2, ?_⟩
      | refine Call.of_pure (v) ?_
      | refine ⟨_, v, ?_⟩
      | (refine allF_i fun b hb => ?_; replace hD := And.intro hb hD; clear hb; simp only [fresh_cons, fresh_nil, and_true, ne_eq, neF] at hD)
      | simp only [appK, appOsK]); try simp only [go_sem, ↓reduceIte, reduceCtorEq, Nat.reduceAdd, Nat.reduceMul, Nat.reduceSub, Nat.reduceLT, Nat.reduceLeDiff, Nat.reduceEqDiff, Nat.reduceBEq, Nat.reduceBneDiff, Int.reduceToNat, Int.toNat_natCast, eq_self, decide_true, decide_false, Int.reduceEq, and_true, true_and, if_false_eq, if_true_eq, List.getElem?_cons_zero, List.getElem?_cons_succ, setAll, List.length_cons, List.length_nil, List.length_set, List.getD_cons_zero, List.getD_cons_succ, Nat.le_refl, Int.le_refl, Nat.beq_refl, or_self, true_or, or_true, List.drop_zero, hD, he])
      | (refine And.intro (by omega) ?_)
      | (refine ifI (fun hc => ?_) (fun hc => ?_) <;> first | (exfalso; omega) | skip)
      | (first | (apply hK; clear hK K) | (clear hK K; apply hK; clear hK K) | (clear hK K; clear hK K; apply hK; clear hK K) | (clear hK K; clear hK K; clear hK K; apply hK; clear hK K) | (clear hK K; clear hK K; clear hK K; clear hK K; apply hK; clear hK K) | (clear hK K; clear hK K; clear hK K; clear hK K; clear hK K; apply hK; clear hK K))
      | (refine And.intro ?_ ?_)
      | fail
    all_goals (refine ret_pure ?_; simp only [resL_tmp, resL_nil, tupOf, go_sem, ↓reduceIte, reduceCtorEq, Nat.reduceAdd, Nat.reduceMul, Nat.reduceSub, Nat.reduceLT, Nat.reduceLeDiff, Nat.reduceEqDiff, Nat.reduceBEq, Nat.reduceBneDiff, Int.reduceToNat, Int.toNat_natCast, eq_self, decide_true, decide_false, Int.reduceEq, and_true, true_and, if_false_eq, if_true_eq, List.getElem?_cons_zero, List.getElem?_cons_succ, setAll, List.length_cons, List.length_nil, List.length_set, List.getD_cons_zero, List.getD_cons_succ, Nat.le_refl, Int.le_refl, Nat.beq_refl, or_self, true_or, or_true, List.drop_zero, hD])
  · refine Call.enter' (N := 39) (rs := [.tmp 4]) Tryd.func3 rfl rfl rfl (by decide) rfl ?_; simp only [argT]; have hD : (0 : Nat) = 0 := rfl
    repeat' first
      | (refine SW.seq_k fun K hK => ?_)
      | (refine SW.block ?_)
      | ((first
      | refine SW.region ?_
      | refine SW.regionD (Checked.mixed Tryd.checked) (by kernel_rfl) ?_
      | refine SW.cond ?_
      | refine SW.skip ?_
      | refine SW.exit ?_
      | refine SW.ret ?_
      | refine Call.of_pure (aw) ?_
      | refine ⟨_, aw, ?_⟩
      | refine Call.of_pure (a1) ?_
      | refine ⟨_, a1, ?_⟩
      | refine Call.of_pure (a2) ?_
      | refine ⟨_, a2, ?_⟩
      | (refine allF_i fun b hb => ?_; replace hD := And.intro hb hD; clear hb; simp only [fresh_cons, fresh_nil, and_true, ne_eq, neF] at hD)
      | simp only [appK, appOsK]); try simp only [go_sem, ↓reduceIte, reduceCtorEq, Nat.reduceAdd, Nat.reduceMul, Nat.reduceSub, Nat.reduceLT, Nat.reduceLeDiff, Nat.reduceEqDiff, Nat.reduceBEq, Nat.reduceBneDiff, Int.reduceToNat, Int.toNat_natCast, eq_self, decide_true, decide_false, Int.reduceEq, and_true, true_and, if_false_eq, if_true_eq, List.getElem?_cons_zero, List.getElem?_cons_succ, setAll, List.length_cons, List.length_nil, List.length_set, List.getD_cons_zero, List.getD_cons_succ, Nat.le_refl, Int.le_refl, Nat.beq_refl, or_self, true_or, or_true, List.drop_zero, hD, he])
      | (refine And.intro (by omega) ?_)
      | (refine ifI (fun hc => ?_) (fun hc => ?_) <;> first | (exfalso; omega) | skip)
      | (first | (apply hK; clear hK K) | (clear hK K; apply hK; clear hK K) | (clear hK K; clear hK K; apply hK; clear hK K) | (clear hK K; clear hK K; clear hK K; apply hK; clear hK K) | (clear hK K; clear hK K; clear hK K; clear hK K; apply hK; clear hK K) | (clear hK K; clear hK K; clear hK K; clear hK K; clear hK K; apply hK; clear hK K))
      | (refine And.intro ?_ ?_)
      | fail
    all_goals (refine ret_pure ?_; simp only [resL_tmp, resL_nil, tupOf, go_sem, ↓reduceIte, reduceCtorEq, Nat.reduceAdd, Nat.reduceMul, Nat.reduceSub, Nat.reduceLT, Nat.reduceLeDiff, Nat.reduceEqDiff, Nat.reduceBEq, Nat.reduceBneDiff, Int.reduceToNat, Int.toNat_natCast, eq_self, decide_true, decide_false, Int.reduceEq, and_true, true_and, if_false_eq, if_true_eq, List.getElem?_cons_zero, List.getElem?_cons_succ, setAll, List.length_cons, List.length_nil, List.length_set, List.getD_cons_zero, List.getD_cons_succ, Nat.le_refl, Int.le_refl, Nat.beq_refl, or_self, true_or, or_true, List.drop_zero, hD])

set_option maxRecDepth 20000 in
theorem law_valid (a b : Int) (ha : In64 a) (hb : In64 b) : PCall Tryd.prog 4 [.agg [I64 a, I64 b]] (SB true) := by
  have aw := awake_t
  have a1 := valid_p a b ha.1 ha.2 hb.1 hb.2
  have a2 := valid_r a b ha.1 ha.2 hb.1 hb.2
  generalize okR a b = v at *
  refine Call.enter' (N := 11) (rs := [.tmp 2]) Tryd.func4 rfl rfl rfl (by decide) rfl ?_; simp only [argT]; have hD : (0 : Nat) = 0 := rfl
  repeat' first
    | (refine SW.seq_k fun K hK => ?_)
    | (refine SW.block ?_)
    | ((first
      | refine SW.region ?_
      | refine SW.regionZ (id := 1) (Checked.mixed Tryd.checked) ((.one 0 [0, 1, 2, 3, 4, 5, 6, 7, 8] (.one 1 [1, 2, 3, 4, 5, 6, 7, 8] (.one 2 [2, 3, 5, 6, 7, 8] (.one 3 [3, 5, 6, 7, 8] (.one 4 [4, 5, 6, 7, 8] (.one 5 [5, 6, 7, 8] (.one 6 [6, 7, 8] (.one 7 [7, 8] (.one 8 [8] .done))))))))) : OZ) (by kernel_rfl) ?_
      | refine SW.regionD (Checked.mixed Tryd.checked) (by kernel_rfl) ?_
      | refine SW.cond ?_
      | refine SW.skip ?_
      | refine SW.exit ?_
      | refine SW.ret ?_
      | refine Call.of_pure (aw) ?_
      | refine ⟨_, aw, ?_⟩
      | refine Call.of_pure (a1) ?_
      | refine ⟨_, a1, ?_⟩
      | refine Call.of_pure (a2) ?_
      | refine ⟨_, a2, ?_⟩
      | (refine allF_i fun b hb => ?_; replace hD := And.intro hb hD; clear hb; simp only [fresh_cons, fresh_nil, and_true, ne_eq, neF] at hD)
      | simp only [appK, appOsK]); try simp only [go_sem, ↓reduceIte, reduceCtorEq, Nat.reduceAdd, Nat.reduceMul, Nat.reduceSub, Nat.reduceLT, Nat.reduceLeDiff, Nat.reduceEqDiff, Nat.reduceBEq, Nat.reduceBneDiff, Int.reduceToNat, Int.toNat_natCast, eq_self, decide_true, decide_false, Int.reduceEq, and_true, true_and, if_false_eq, if_true_eq, List.getElem?_cons_zero, List.getElem?_cons_succ, setAll, List.length_cons, List.length_nil, List.length_set, List.getD_cons_zero, List.getD_cons_succ, Nat.le_refl, Int.le_refl, Nat.beq_refl, or_self, true_or, or_true, List.drop_zero, hD])
    | (refine And.intro (by omega) ?_)
    | (refine ifI (fun hc => ?_) (fun hc => ?_) <;> first | (exfalso; omega) | skip)
    | (first | (apply hK; clear hK K) | (clear hK K; apply hK; clear hK K) | (clear hK K; clear hK K; apply hK; clear hK K) | (clear hK K; clear hK K; clear hK K; apply hK; clear hK K) | (clear hK K; clear hK K; clear hK K; clear hK K; apply hK; clear hK K) | (clear hK K; clear hK K; clear hK K; clear hK K; clear hK K; apply hK; clear hK K))
    | (refine And.intro ?_ ?_)
    | fail
  all_goals (refine ret_pure ?_; simp only [resL_tmp, resL_nil, tupOf, go_sem, ↓reduceIte, reduceCtorEq, Nat.reduceAdd, Nat.reduceMul, Nat.reduceSub, Nat.reduceLT, Nat.reduceLeDiff, Nat.reduceEqDiff, Nat.reduceBEq, Nat.reduceBneDiff, Int.reduceToNat, Int.toNat_natCast, eq_self, decide_true, decide_false, Int.reduceEq, and_true, true_and, if_false_eq, if_true_eq, List.getElem?_cons_zero, List.getElem?_cons_succ, setAll, List.length_cons, List.length_nil, List.length_set, List.getD_cons_zero, List.getD_cons_succ, Nat.le_refl, Int.le_refl, Nat.beq_refl, or_self, true_or, or_true, List.drop_zero, hD])
  rw [beq_self_eq_true]

set_option maxRecDepth 20000 in
theorem law_sum (a b c d : Int) (ha : In64 a) (hb : In64 b) (hc : In64 c) (hd : In64 d) : PCall Tryd.prog 5 [.agg [I64 a, I64 b], .agg [I64 c, I64 d]] (SB true) := by
  have aw := awake_t
  have a1 := add_p a b c d ha hb hc hd
  have a2 := add_r a b c d ha hb hc hd
  have a3 := add_p c d a b hc hd ha hb
  rw [add_law] at a1
  rw [add_law, addR_comm] at a3
  generalize addR a b c d = R at *
  refine Call.enter' (N := 49) (rs := [.tmp 4]) Tryd.func5 rfl rfl rfl (by decide) rfl ?_; simp only [argT]; have hD : (0 : Nat) = 0 := rfl
  repeat' first
    | (refine SW.seq_k fun K hK => ?_)
    | (refine SW.block ?_)
    | ((first
      | refine SW.region ?_
      | refine SW.regionD (Checked.mixed Tryd.checked) (by kernel_rfl) ?_
      | refine SW.cond ?_
      | refine SW.skip ?_
      | refine SW.exit ?_
      | refine SW.ret ?_
      | refine Call.of_pure (aw) ?_
      | refine ⟨_, aw, ?_⟩
      | refine Call.of_pure (a1) ?_
      | refine ⟨_, a1, ?_⟩
      | refine Call.of_pure (a2) ?_
      | refine ⟨_, a2, ?_⟩
      | refine Call.of_pure (a3) ?_
      | refine ⟨_, a3, ?_⟩
      | (refine allF_i fun b hb => ?_; replace hD := And.intro hb hD; clear hb; simp only [fresh_cons, fresh_nil, and_true, ne_eq, neF] at hD)
      | simp only [appK, appOsK]); try simp only [go_sem, ↓reduceIte, reduceCtorEq, Nat.reduceAdd, Nat.reduceMul, Nat.reduceSub, Nat.reduceLT, Nat.reduceLeDiff, Nat.reduceEqDiff, Nat.reduceBEq, Nat.reduceBneDiff, Int.reduceToNat, Int.toNat_natCast, eq_self, decide_true, decide_false, Int.reduceEq, and_true, true_and, if_false_eq, if_true_eq, List.getElem?_cons_zero, List.getElem?_cons_succ, setAll, List.length_cons, List.length_nil, List.length_set, List.getD_cons_zero, List.getD_cons_succ, Nat.le_refl, Int.le_refl, Nat.beq_refl, or_self, true_or, or_true, List.drop_zero, hD])
    | (refine And.intro (by omega) ?_)
    | (refine ifI (fun hc => ?_) (fun hc => ?_) <;> first | (exfalso; omega) | skip)
    | (first | (apply hK; clear hK K) | (clear hK K; apply hK; clear hK K) | (clear hK K; clear hK K; apply hK; clear hK K) | (clear hK K; clear hK K; clear hK K; apply hK; clear hK K) | (clear hK K; clear hK K; clear hK K; clear hK K; apply hK; clear hK K) | (clear hK K; clear hK K; clear hK K; clear hK K; clear hK K; apply hK; clear hK K))
    | (refine And.intro ?_ ?_)
    | fail
  all_goals (refine ret_pure ?_; simp only [resL_tmp, resL_nil, tupOf, go_sem, ↓reduceIte, reduceCtorEq, Nat.reduceAdd, Nat.reduceMul, Nat.reduceSub, Nat.reduceLT, Nat.reduceLeDiff, Nat.reduceEqDiff, Nat.reduceBEq, Nat.reduceBneDiff, Int.reduceToNat, Int.toNat_natCast, eq_self, decide_true, decide_false, Int.reduceEq, and_true, true_and, if_false_eq, if_true_eq, List.getElem?_cons_zero, List.getElem?_cons_succ, setAll, List.length_cons, List.length_nil, List.length_set, List.getD_cons_zero, List.getD_cons_succ, Nat.le_refl, Int.le_refl, Nat.beq_refl, or_self, true_or, or_true, List.drop_zero, hD])

set_option maxRecDepth 20000 in
theorem law_product (a b c d : Int) (ha : In64 a) (hb : In64 b) (hc : In64 c) (hd : In64 d) : PCall Tryd.prog 8 [.agg [I64 a, I64 b], .agg [I64 c, I64 d]] (SB true) := by
  have aw := awake_t
  have a1 := mul2_p a b c d ha hb hc hd
  have a2 := mul_r a b c d ha hb hc hd
  have a3 := mul2_p c d a b hc hd ha hb
  rw [mul_law] at a1
  have e : mulR c d a b = mulR a b c d := by
    unfold mulR
    by_cases hv : okR a b = true ∧ okR c d = true
    · rw [if_pos hv, if_pos ⟨hv.2, hv.1⟩, Nat.mul_comm c.natAbs, Nat.mul_comm d.natAbs]
      congr 2
      cases decide (a < 0) <;> cases decide (c < 0) <;> rfl
    · rw [if_neg hv, if_neg (fun x => hv ⟨x.2, x.1⟩)]
  rw [mul_law, e] at a3
  generalize mulR a b c d = R at *
  refine Call.enter' (N := 49) (rs := [.tmp 4]) Tryd.func8 rfl rfl rfl (by decide) rfl ?_; simp only [argT]; have hD : (0 : Nat) = 0 := rfl
  repeat' first
    | (refine SW.seq_k fun K hK => ?_)
    | (refine SW.block ?_)
    | ((first
      | refine SW.region ?_
      | refine SW.regionD (Checked.mixed Tryd.checked) (by kernel_rfl) ?_
      | refine SW.cond ?_
      | refine SW.skip ?_
      | refine SW.exit ?_
      | refine SW.ret ?_
      | refine Call.of_pure (aw) ?_
      | refine ⟨_, aw, ?_⟩
      | refine Call.of_pure (a1) ?_
      | refine ⟨_, a1, ?_⟩
      | refine Call.of_pure (a2) ?_
      | refine ⟨_, a2, ?_⟩
      | refine Call.of_pure (a3) ?_
      | refine ⟨_, a3, ?_⟩
      | (refine allF_i fun b hb => ?_; replace hD := And.intro hb hD; clear hb; simp only [fresh_cons, fresh_nil, and_true, ne_eq, neF] at hD)
      | simp only [appK, appOsK]); try simp only [go_sem, ↓reduceIte, reduceCtorEq, Nat.reduceAdd, Nat.reduceMul, Nat.reduceSub, Nat.reduceLT, Nat.reduceLeDiff, Nat.reduceEqDiff, Nat.reduceBEq, Nat.reduceBneDiff, Int.reduceToNat, Int.toNat_natCast, eq_self, decide_true, decide_false, Int.reduceEq, and_true, true_and, if_false_eq, if_true_eq, List.getElem?_cons_zero, List.getElem?_cons_succ, setAll, List.length_cons, List.length_nil, List.length_set, List.getD_cons_zero, List.getD_cons_succ, Nat.le_refl, Int.le_refl, Nat.beq_refl, or_self, true_or, or_true, List.drop_zero, hD])
    | (refine And.intro (by omega) ?_)
    | (refine ifI (fun hc => ?_) (fun hc => ?_) <;> first | (exfalso; omega) | skip)
    | (first | (apply hK; clear hK K) | (clear hK K; apply hK; clear hK K) | (clear hK K; clear hK K; apply hK; clear hK K) | (clear hK K; clear hK K; clear hK K; apply hK; clear hK K) | (clear hK K; clear hK K; clear hK K; clear hK K; apply hK; clear hK K) | (clear hK K; clear hK K; clear hK K; clear hK K; clear hK K; apply hK; clear hK K))
    | (refine And.intro ?_ ?_)
    | fail
  all_goals (refine ret_pure ?_; simp only [resL_tmp, resL_nil, tupOf, go_sem, ↓reduceIte, reduceCtorEq, Nat.reduceAdd, Nat.reduceMul, Nat.reduceSub, Nat.reduceLT, Nat.reduceLeDiff, Nat.reduceEqDiff, Nat.reduceBEq, Nat.reduceBneDiff, Int.reduceToNat, Int.toNat_natCast, eq_self, decide_true, decide_false, Int.reduceEq, and_true, true_and, if_false_eq, if_true_eq, List.getElem?_cons_zero, List.getElem?_cons_succ, setAll, List.length_cons, List.length_nil, List.length_set, List.getD_cons_zero, List.getD_cons_succ, Nat.le_refl, Int.le_refl, Nat.beq_refl, or_self, true_or, or_true, List.drop_zero, hD])

set_option maxRecDepth 20000 in
theorem law_percent (a b : Int) (ha : In64 a) (hb : In64 b) : PCall Tryd.prog 6 [.agg [I64 a, I64 b]] (SB true) := by
  have aw := awake_t
  have a1 := pct_p a b ha hb
  have a2 := pct_r a b ha hb
  generalize pctR a b = R at *
  have eb : (R.1.toList == R.1.toList) = true := beq_self_eq_true _
  refine Call.enter' (N := 27) (rs := [.tmp 2]) Tryd.func6 rfl rfl rfl (by decide) rfl ?_; simp only [argT]; have hD : (0 : Nat) = 0 := rfl
  repeat' first
    | (refine SW.seq_k fun K hK => ?_)
    | (refine SW.block ?_)
    | ((first
      | refine SW.region ?_
      | refine SW.regionD (Checked.mixed Tryd.checked) (by kernel_rfl) ?_
      | refine SW.cond ?_
      | refine SW.skip ?_
      | refine SW.exit ?_
      | refine SW.ret ?_
      | refine Call.of_pure (aw) ?_
      | refine ⟨_, aw, ?_⟩
      | refine Call.of_pure (a1) ?_
      | refine ⟨_, a1, ?_⟩
      | refine Call.of_pure (a2) ?_
      | refine ⟨_, a2, ?_⟩
      | (refine allF_i fun b hb => ?_; replace hD := And.intro hb hD; clear hb; simp only [fresh_cons, fresh_nil, and_true, ne_eq, neF] at hD)
      | simp only [appK, appOsK]); try simp only [go_sem, ↓reduceIte, reduceCtorEq, Nat.reduceAdd, Nat.reduceMul, Nat.reduceSub, Nat.reduceLT, Nat.reduceLeDiff, Nat.reduceEqDiff, Nat.reduceBEq, Nat.reduceBneDiff, Int.reduceToNat, Int.toNat_natCast, eq_self, decide_true, decide_false, Int.reduceEq, and_true, true_and, if_false_eq, if_true_eq, List.getElem?_cons_zero, List.getElem?_cons_succ, setAll, List.length_cons, List.length_nil, List.length_set, List.getD_cons_zero, List.getD_cons_succ, Nat.le_refl, Int.le_refl, Nat.beq_refl, or_self, true_or, or_true, List.drop_zero, hD, eb])
    | (refine And.intro (by omega) ?_)
    | (refine ifI (fun hc => ?_) (fun hc => ?_) <;> first | (exfalso; omega) | skip)
    | (first | (apply hK; clear hK K) | (clear hK K; apply hK; clear hK K) | (clear hK K; clear hK K; apply hK; clear hK K) | (clear hK K; clear hK K; clear hK K; apply hK; clear hK K) | (clear hK K; clear hK K; clear hK K; clear hK K; apply hK; clear hK K) | (clear hK K; clear hK K; clear hK K; clear hK K; clear hK K; apply hK; clear hK K))
    | (refine And.intro ?_ ?_)
    | fail
  all_goals (refine ret_pure ?_; simp only [resL_tmp, resL_nil, tupOf, go_sem, ↓reduceIte, reduceCtorEq, Nat.reduceAdd, Nat.reduceMul, Nat.reduceSub, Nat.reduceLT, Nat.reduceLeDiff, Nat.reduceEqDiff, Nat.reduceBEq, Nat.reduceBneDiff, Int.reduceToNat, Int.toNat_natCast, eq_self, decide_true, decide_false, Int.reduceEq, and_true, true_and, if_false_eq, if_true_eq, List.getElem?_cons_zero, List.getElem?_cons_succ, setAll, List.length_cons, List.length_nil, List.length_set, List.getD_cons_zero, List.getD_cons_succ, Nat.le_refl, Int.le_refl, Nat.beq_refl, or_self, true_or, or_true, List.drop_zero, hD])

set_option maxRecDepth 20000 in
theorem law_order1 (a b c d e f M N K : Int) (aw : PCall Tryd.prog 12 [] (SB true)) (v1 : PCall Tryd.prog 16 [.agg [I64 a, I64 b]] (SB true)) (v2 : PCall Tryd.prog 16 [.agg [I64 c, I64 d]] (SB true)) (v3 : PCall Tryd.prog 16 [.agg [I64 e, I64 f]] (SB true))
    (c1 : PCall Tryd.prog 21 [.agg [I64 a, I64 b], .agg [I64 c, I64 d]] (I64 M)) (c2 : PCall Tryd.prog 21 [.agg [I64 c, I64 d], .agg [I64 e, I64 f]] (I64 N)) (c3 : PCall Tryd.prog 21 [.agg [I64 a, I64 b], .agg [I64 e, I64 f]] (I64 K))
    (c4 : PCall Tryd.prog 22 [.agg [I64 a, I64 b], .agg [I64 c, I64 d]] (I64 M)) (c5 : PCall Tryd.prog 21 [.agg [I64 c, I64 d], .agg [I64 a, I64 b]] (I64 (-M))) (hneg : IntKind.i64.wrap (0 - M) = -M) (hz : (decide (M = 0) == (decide (a = c) && decide (b = d))) = true)
    (tr : M ≤ 0 → N ≤ 0 → K ≤ 0 ∧ ((M < 0 ∨ N < 0) → K < 0)) : PCall Tryd.prog 7 [.agg [I64 a, I64 b], .agg [I64 c, I64 d], .agg [I64 e, I64 f]] (SB true) := by
  refine Call.enter' (N := 80) (rs := [.tmp 6]) Tryd.func7 rfl rfl rfl (by decide) rfl ?_; simp only [argT]; have hD : (0 : Nat) = 0 := rfl
  repeat' first
    | (refine SW.seq_k fun K hK => ?_)
    | (refine SW.block ?_)
    | ((first
      | refine SW.region ?_
      | refine SW.regionZ (id := 3) (Checked.mixed Tryd.checked) ((.one 0 [0, 2, 5, 8, 9, 10, 11] (.one 1 [1, 2, 5, 8, 9, 10, 11] (.one 2 [2, 5, 8, 9, 10, 11] (.one 3 [3, 5, 8, 9, 10, 11] (.one 4 [4, 5, 8, 9, 10, 11] (.one 5 [5, 8, 9, 10, 11] (.one 6 [6, 8, 9, 10, 11] (.one 7 [7, 8, 9, 10, 11] (.one 8 [8, 9, 10, 11] (.one 9 [9, 10, 11] (.one 10 [10, 11] (.one 11 [11] .done)))))))))))) : OZ) (by kernel_rfl) ?_
      | refine SW.regionD (Checked.mixed Tryd.checked) (by kernel_rfl) ?_
      | refine SW.cond ?_
      | refine SW.skip ?_
      | refine SW.exit ?_
      | refine SW.ret ?_
      | refine Call.of_pure (aw) ?_
      | refine ⟨_, aw, ?_⟩
      | refine Call.of_pure (v1) ?_
      | refine ⟨_, v1, ?_⟩
      | refine Call.of_pure (v2) ?_
      | refine ⟨_, v2, ?_⟩
      | refine Call.of_pure (v3) ?_
      | refine ⟨_, v3, ?_⟩
      | refine Call.of_pure (c1) ?_
      | refine ⟨_, c1, ?_⟩
      | refine Call.of_pure (c2) ?_
      | refine ⟨_, c2, ?_⟩
      | refine Call.of_pure (c3) ?_
      | refine ⟨_, c3, ?_⟩
      | refine Call.of_pure (c4) ?_
      | refine ⟨_, c4, ?_⟩
      | refine Call.of_pure (c5) ?_
      | refine ⟨_, c5, ?_⟩
      | (refine allF_i fun b hb => ?_; replace hD := And.intro hb hD; clear hb; simp only [fresh_cons, fresh_nil, and_true, ne_eq, neF] at hD)
      | simp only [appK, appOsK]); try simp only [go_sem, ↓reduceIte, reduceCtorEq, Nat.reduceAdd, Nat.reduceMul, Nat.reduceSub, Nat.reduceLT, Nat.reduceLeDiff, Nat.reduceEqDiff, Nat.reduceBEq, Nat.reduceBneDiff, Int.reduceToNat, Int.toNat_natCast, eq_self, decide_true, decide_false, Int.reduceEq, and_true, true_and, if_false_eq, if_true_eq, List.getElem?_cons_zero, List.getElem?_cons_succ, setAll, List.length_cons, List.length_nil, List.length_set, List.getD_cons_zero, List.getD_cons_succ, Nat.le_refl, Int.le_refl, Nat.beq_refl, or_self, true_or, or_true, List.drop_zero, hD, hneg, hz])
    | (refine And.intro (by omega) ?_)
    | (refine ifI (fun hc => ?_) (fun hc => ?_) <;> first | (exfalso; omega) | skip)
    | (first | (apply hK; clear hK K) | (clear hK K; apply hK; clear hK K) | (clear hK K; clear hK K; apply hK; clear hK K) | (clear hK K; clear hK K; clear hK K; apply hK; clear hK K) | (clear hK K; clear hK K; clear hK K; clear hK K; apply hK; clear hK K) | (clear hK K; clear hK K; clear hK K; clear hK K; clear hK K; apply hK; clear hK K))
    | (refine And.intro ?_ ?_)
    | fail
  all_goals (refine ret_pure ?_; simp only [resL_tmp, resL_nil, tupOf, go_sem, ↓reduceIte, reduceCtorEq, Nat.reduceAdd, Nat.reduceMul, Nat.reduceSub, Nat.reduceLT, Nat.reduceLeDiff, Nat.reduceEqDiff, Nat.reduceBEq, Nat.reduceBneDiff, Int.reduceToNat, Int.toNat_natCast, eq_self, decide_true, decide_false, Int.reduceEq, and_true, true_and, if_false_eq, if_true_eq, List.getElem?_cons_zero, List.getElem?_cons_succ, setAll, List.length_cons, List.length_nil, List.length_set, List.getD_cons_zero, List.getD_cons_succ, Nat.le_refl, Int.le_refl, Nat.beq_refl, or_self, true_or, or_true, List.drop_zero, hD])
  all_goals (refine bool_eq (decide_eq_true ((tr (by omega) (by omega)).2 (by omega))))

theorem cmp_m (a b c d : Int) : IntKind.i64.wrap (0 - cmpR a b c d) = -cmpR a b c d := by
  unfold cmpR
  split
  · rfl
  · split <;> rfl

set_option maxRecDepth 20000 in
theorem law_order (a b c d e f : Int) (ha : In64 a) (hb : In64 b) (hc : In64 c) (hd : In64 d) (he : In64 e) (hf : In64 f) : PCall Tryd.prog 7 [.agg [I64 a, I64 b], .agg [I64 c, I64 d], .agg [I64 e, I64 f]] (SB true) := by
  have aw := awake_t
  have v1 := valid_r a b ha.1 ha.2 hb.1 hb.2
  have v2 := valid_r c d hc.1 hc.2 hd.1 hd.2
  have v3 := valid_r e f he.1 he.2 hf.1 hf.2
  cases h1 : okR a b with
  | false =>
    rw [h1] at v1
    refine Call.enter' (N := 80) (rs := [.tmp 6]) Tryd.func7 rfl rfl rfl (by decide) rfl ?_; simp only [argT]; have hD : (0 : Nat) = 0 := rfl
    repeat' first
      | (refine SW.seq_k fun K hK => ?_)
      | (refine SW.block ?_)
      | ((first
      | refine SW.region ?_
      | refine SW.regionD (Checked.mixed Tryd.checked) (by kernel_rfl) ?_
      | refine SW.cond ?_
      | refine SW.skip ?_
      | refine SW.exit ?_
      | refine SW.ret ?_
      | refine Call.of_pure (aw) ?_
      | refine ⟨_, aw, ?_⟩
      | refine Call.of_pure (v1) ?_
      | refine ⟨_, v1, ?_⟩
      | (refine allF_i fun b hb => ?_; replace hD := And.intro hb hD; clear hb; simp only [fresh_cons, fresh_nil, and_true, ne_eq, neF] at hD)
      | simp only [appK, appOsK]); try simp only [go_sem, ↓reduceIte, reduceCtorEq, Nat.reduceAdd, Nat.reduceMul, Nat.reduceSub, Nat.reduceLT, Nat.reduceLeDiff, Nat.reduceEqDiff, Nat.reduceBEq, Nat.reduceBneDiff, Int.reduceToNat, Int.toNat_natCast, eq_self, decide_true, decide_false, Int.reduceEq, and_true, true_and, if_false_eq, if_true_eq, List.getElem?_cons_zero, List.getElem?_cons_succ, setAll, List.length_cons, List.length_nil, List.length_set, List.getD_cons_zero, List.getD_cons_succ, Nat.le_refl, Int.le_refl, Nat.beq_refl, or_self, true_or, or_true, List.drop_zero, hD])
      | (refine And.intro (by omega) ?_)
      | (refine ifI (fun hc => ?_) (fun hc => ?_) <;> first | (exfalso; omega) | skip)
      | (first | (apply hK; clear hK K) | (clear hK K; apply hK; clear hK K) | (clear hK K; clear hK K; apply hK; clear hK K) | (clear hK K; clear hK K; clear hK K; apply hK; clear hK K) | (clear hK K; clear hK K; clear hK K; clear hK K; apply hK; clear hK K) | (clear hK K; clear hK K; clear hK K; clear hK K; clear hK K; apply hK; clear hK K))
      | fail
    refine ret_pure ?_; simp only [resL_tmp, resL_nil, tupOf, go_sem, ↓reduceIte, reduceCtorEq, Nat.reduceAdd, Nat.reduceMul, Nat.reduceSub, Nat.reduceLT, Nat.reduceLeDiff, Nat.reduceEqDiff, Nat.reduceBEq, Nat.reduceBneDiff, Int.reduceToNat, Int.toNat_natCast, eq_self, decide_true, decide_false, Int.reduceEq, and_true, true_and, if_false_eq, if_true_eq, List.getElem?_cons_zero, List.getElem?_cons_succ, setAll, List.length_cons, List.length_nil, List.length_set, List.getD_cons_zero, List.getD_cons_succ, Nat.le_refl, Int.le_refl, Nat.beq_refl, or_self, true_or, or_true, List.drop_zero, hD]
  | true =>
    rw [h1] at v1
    cases h2 : okR c d with
    | false =>
      rw [h2] at v2
      refine Call.enter' (N := 80) (rs := [.tmp 6]) Tryd.func7 rfl rfl rfl (by decide) rfl ?_; simp only [argT]; have hD : (0 : Nat) = 0 := rfl
      repeat' first
        | (refine SW.seq_k fun K hK => ?_)
        | (refine SW.block ?_)
        | ((first
      | refine SW.region ?_
      | refine SW.regionD (Checked.mixed Tryd.checked) (by kernel_rfl) ?_
      | refine SW.cond ?_
      | refine SW.skip ?_
      | refine SW.exit ?_
      | refine SW.ret ?_
      | refine Call.of_pure (aw) ?_
      | refine ⟨_, aw, ?_⟩
      | refine Call.of_pure (v1) ?_
      | refine ⟨_, v1, ?_⟩
      | refine Call.of_pure (v2) ?_
      | refine ⟨_, v2, ?_⟩
      | (refine allF_i fun b hb => ?_; replace hD := And.intro hb hD; clear hb; simp only [fresh_cons, fresh_nil, and_true, ne_eq, neF] at hD)
      | simp only [appK, appOsK]); try simp only [go_sem, ↓reduceIte, reduceCtorEq, Nat.reduceAdd, Nat.reduceMul, Nat.reduceSub, Nat.reduceLT, Nat.reduceLeDiff, Nat.reduceEqDiff, Nat.reduceBEq, Nat.reduceBneDiff, Int.reduceToNat, Int.toNat_natCast, eq_self, decide_true, decide_false, Int.reduceEq, and_true, true_and, if_false_eq, if_true_eq, List.getElem?_cons_zero, List.getElem?_cons_succ, setAll, List.length_cons, List.length_nil, List.length_set, List.getD_cons_zero, List.getD_cons_succ, Nat.le_refl, Int.le_refl, Nat.beq_refl, or_self, true_or, or_true, List.drop_zero, hD])
        | (refine And.intro (by omega) ?_)
        | (refine ifI (fun hc => ?_) (fun hc => ?_) <;> first | (exfalso; omega) | skip)
        | (first | (apply hK; clear hK K) | (clear hK K; apply hK; clear hK K) | (clear hK K; clear hK K; apply hK; clear hK K) | (clear hK K; clear hK K; clear hK K; apply hK; clear hK K) | (clear hK K; clear hK K; clear hK K; clear hK K; apply hK; clear hK K) | (clear hK K; clear hK K; clear hK K; clear hK K; clear hK K; apply hK; clear hK K))
        | fail
      refine ret_pure ?_; simp only [resL_tmp, resL_nil, tupOf, go_sem, ↓reduceIte, reduceCtorEq, Nat.reduceAdd, Nat.reduceMul, Nat.reduceSub, Nat.reduceLT, Nat.reduceLeDiff, Nat.reduceEqDiff, Nat.reduceBEq, Nat.reduceBneDiff, Int.reduceToNat, Int.toNat_natCast, eq_self, decide_true, decide_false, Int.reduceEq, and_true, true_and, if_false_eq, if_true_eq, List.getElem?_cons_zero, List.getElem?_cons_succ, setAll, List.length_cons, List.length_nil, List.length_set, List.getD_cons_zero, List.getD_cons_succ, Nat.le_refl, Int.le_refl, Nat.beq_refl, or_self, true_or, or_true, List.drop_zero, hD]
    | true =>
      rw [h2] at v2
      cases h3 : okR e f with
      | false =>
        rw [h3] at v3
        refine Call.enter' (N := 80) (rs := [.tmp 6]) Tryd.func7 rfl rfl rfl (by decide) rfl ?_; simp only [argT]; have hD : (0 : Nat) = 0 := rfl
        repeat' first
          | (refine SW.seq_k fun K hK => ?_)
          | (refine SW.block ?_)
          | ((first
      | refine SW.region ?_
      | refine SW.regionD (Checked.mixed Tryd.checked) (by kernel_rfl) ?_
      | refine SW.cond ?_
      | refine SW.skip ?_
      | refine SW.exit ?_
      | refine SW.ret ?_
      | refine Call.of_pure (aw) ?_
      | refine ⟨_, aw, ?_⟩
      | refine Call.of_pure (v1) ?_
      | refine ⟨_, v1, ?_⟩
      | refine Call.of_pure (v2) ?_
      | refine ⟨_, v2, ?_⟩
      | refine Call.of_pure (v3) ?_
      | refine ⟨_, v3, ?_⟩
      | (refine allF_i fun b hb => ?_; replace hD := And.intro hb hD; clear hb; simp only [fresh_cons, fresh_nil, and_true, ne_eq, neF] at hD)
      | simp only [appK, appOsK]); try simp only [go_sem, ↓reduceIte, reduceCtorEq, Nat.reduceAdd, Nat.reduceMul, Nat.reduceSub, Nat.reduceLT, Nat.reduceLeDiff, Nat.reduceEqDiff, Nat.reduceBEq, Nat.reduceBneDiff, Int.reduceToNat, Int.toNat_natCast, eq_self, decide_true, decide_false, Int.reduceEq, and_true, true_and, if_false_eq, if_true_eq, List.getElem?_cons_zero, List.getElem?_cons_succ, setAll, List.length_cons, List.length_nil, List.length_set, List.getD_cons_zero, List.getD_cons_succ, Nat.le_refl, Int.le_refl, Nat.beq_refl, or_self, true_or, or_true, List.drop_zero, hD])
          | (refine And.intro (by omega) ?_)
          | (refine ifI (fun hc => ?_) (fun hc => ?_) <;> first | (exfalso; omega) | skip)
          | (first | (apply hK; clear hK K) | (clear hK K; apply hK; clear hK K) | (clear hK K; clear hK K; apply hK; clear hK K) | (clear hK K; clear hK K; clear hK K; apply hK; clear hK K) | (clear hK K; clear hK K; clear hK K; clear hK K; apply hK; clear hK K) | (clear hK K; clear hK K; clear hK K; clear hK K; clear hK K; apply hK; clear hK K))
          | fail
        refine ret_pure ?_; simp only [resL_tmp, resL_nil, tupOf, go_sem, ↓reduceIte, reduceCtorEq, Nat.reduceAdd, Nat.reduceMul, Nat.reduceSub, Nat.reduceLT, Nat.reduceLeDiff, Nat.reduceEqDiff, Nat.reduceBEq, Nat.reduceBneDiff, Int.reduceToNat, Int.toNat_natCast, eq_self, decide_true, decide_false, Int.reduceEq, and_true, true_and, if_false_eq, if_true_eq, List.getElem?_cons_zero, List.getElem?_cons_succ, setAll, List.length_cons, List.length_nil, List.length_set, List.getD_cons_zero, List.getD_cons_succ, Nat.le_refl, Int.le_refl, Nat.beq_refl, or_self, true_or, or_true, List.drop_zero, hD]
      | true =>
        rw [h3] at v3
        have hb0 := okR_den h1
        have hd0 := okR_den h2
        have hf0 := okR_den h3
        have c5 := cmp2_p c d a b hc hd ha hb hd0 hb0
        rw [cmp_neg] at c5
        refine law_order1 a b c d e f _ _ _ aw v1 v2 v3 (cmp2_p a b c d ha hb hc hd hb0 hd0) (cmp2_p c d e f hc hd he hf hd0 hf0) (cmp2_p a b e f ha hb he hf hb0 hf0) (cmp_r a b c d ha hb hc hd hb0 hd0) c5 (cmp_m a b c d) ?_ (cmp_trans hb0 hd0 hf0)
        rw [beq_iff_eq, ← Bool.decide_and, decide_eq_decide]
        exact cmp_zero h1 h2
end Go.Proofs.YtcbgkcjlechdnaaDoor
