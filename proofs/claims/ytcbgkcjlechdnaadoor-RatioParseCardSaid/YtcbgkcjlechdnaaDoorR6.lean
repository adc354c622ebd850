/- Contracts of the reference: Make, Valid, Of. -/
import Derived.Test.YtcbgkcjlechdnaaDoorR5
set_option linter.unusedSimpArgs false
set_option linter.unusedVariables false
set_option linter.unusedSectionVars false
namespace Go.Ab
open Go
theorem Wd_small {x : Nat} (h : x < 18446744073709551616) : Wd x = .agg [U64 0, U64 x] := by
  have h1 : x / 18446744073709551616 = 0 := Nat.div_eq_of_lt h
  have h2 : x % 18446744073709551616 = x := Nat.mod_eq_of_lt h
  unfold Wd
  rw [h1, h2]; rfl
/-- A fraction is made of a valid one as it is. -/
theorem mk_ok {num den : Int} (h0 : -9223372036854775808 ≤ num) (h1 : num ≤ 9223372036854775807) (h2 : -9223372036854775808 ≤ den) (h3 : den ≤ 9223372036854775807) (hd : 1 ≤ den) (hn : -9223372036854775807 ≤ num) :
    ((mkR num den).2.2 = 0 ∧ (mkR num den).1 = num ∧ (mkR num den).2.1 = den) ↔ Nat.gcd num.natAbs den.natAbs = 1 := by
  have hg : 0 < Nat.gcd num.natAbs den.natAbs := Nat.gcd_pos_of_pos_right _ (by omega)
  unfold mkR bldR
  rw [if_neg (by omega)]
  constructor
  · rintro ⟨_, _, e3⟩
    unfold ofR at e3
    split at e3
    · have e4 : den.natAbs / Nat.gcd num.natAbs den.natAbs = den.natAbs := by
        simp only at e3; omega
      have e5 := Nat.div_mul_cancel (Nat.gcd_dvd_right num.natAbs den.natAbs)
      rw [e4] at e5
      exact Nat.eq_of_mul_eq_mul_left (show 0 < den.natAbs by omega) (by rw [e5, Nat.mul_one])
    · simp only at e3; omega
  · intro e
    rw [e, Nat.div_one, Nat.div_one, ofR, if_pos (by omega)]
    refine ⟨rfl, ?_, by simp only; omega⟩
    simp only
    by_cases hnn : num < 0
    · rw [if_pos (by simp [hnn]; omega)]; omega
    · rw [if_neg (by simp [hnn]; omega)]; omega
theorem okR_eq {num den : Int} (hd : 1 ≤ den) (hn : -9223372036854775807 ≤ num) : okR num den = decide (Nat.gcd num.natAbs den.natAbs = 1) := by
  rw [okR, decide_eq_true (p := 0 < den) (by omega), Bool.true_and, decide_eq_true (p := -9223372036854775808 < num) (by omega), Bool.true_and]
/-- Of. -/
def ofQ (num den : Int) : Int × Int := if (mkR num den).2.2 = 0 then ((mkR num den).1, (mkR num den).2.1) else (0, 1)
end Go.Ab
namespace Go.Proofs.YtcbgkcjlechdnaaDoor
open Go Go.Ab
variable [Gl]

set_option maxRecDepth 20000 in
theorem make_r (num den : Int) (h0 : -9223372036854775808 ≤ num) (h1 : num ≤ 9223372036854775807) (h2 : -9223372036854775808 ≤ den) (h3 : den ≤ 9223372036854775807) : PCall Tryd.prog 14 [I64 num, I64 den] (FR (mkR num den)) := by
  have a1 := size_r num h0 h1
  have a2 := size_r den h2 h3
  refine Call.enter' (N := 21) (rs := [.cell 4 24, .tmp 5]) Tryd.func14 rfl rfl rfl (by decide) rfl ?_; simp only [argT]; have hD : (0 : Nat) = 0 := rfl
  by_cases hz : den = 0
  · repeat' first
      | (refine SW.seq_k fun K hK => ?_)
      | (refine SW.block ?_)
      | ((first
      | refine SW.region ?_
      | refine SW.regionD (Checked.mixed Tryd.checked) (by kernel_rfl) ?_
      | refine SW.cond ?_
      | refine SW.skip ?_
      | refine SW.exit ?_
      | refine SW.ret ?_
      | (refine allF_i fun b hb => ?_; replace hD := And.intro hb hD; clear hb; simp only [fresh_cons, fresh_nil, and_true, ne_eq, neF] at hD)
      | simp only [appK, appOsK]); try simp only [go_sem, ↓reduceIte, reduceCtorEq, Nat.reduceAdd, Nat.reduceMul, Nat.reduceSub, Nat.reduceLT, Nat.reduceLeDiff, Nat.reduceEqDiff, Nat.reduceBEq, Nat.reduceBneDiff, Int.reduceToNat, Int.toNat_natCast, eq_self, decide_true, decide_false, Int.reduceEq, and_true, true_and, if_false_eq, if_true_eq, List.getElem?_cons_zero, List.getElem?_cons_succ, setAll, List.length_cons, List.length_nil, List.length_set, List.getD_cons_zero, List.getD_cons_succ, Nat.le_refl, Int.le_refl, Nat.beq_refl, or_self, true_or, or_true, List.drop_zero, hD])
      | (refine And.intro (by omega) ?_)
      | (refine ifI (fun hc => ?_) (fun hc => ?_) <;> first | (exfalso; omega) | skip)
      | (first | (apply hK; clear hK K) | (clear hK K; apply hK; clear hK K) | (clear hK K; clear hK K; apply hK; clear hK K) | (clear hK K; clear hK K; clear hK K; apply hK; clear hK K) | (clear hK K; clear hK K; clear hK K; clear hK K; apply hK; clear hK K) | (clear hK K; clear hK K; clear hK K; clear hK K; clear hK K; apply hK; clear hK K))
      | fail
    apply ret_cell (i := 4) (n := 2); exact rfl; (simp only [go_sem, ↓reduceIte, reduceCtorEq, Nat.reduceAdd, Nat.reduceMul, Nat.reduceSub, Nat.reduceLT, Nat.reduceLeDiff, Nat.reduceEqDiff, Nat.reduceBEq, Nat.reduceBneDiff, Int.reduceToNat, Int.toNat_natCast, eq_self, decide_true, decide_false, Int.reduceEq, and_true, true_and, if_false_eq, if_true_eq, List.getElem?_cons_zero, List.getElem?_cons_succ, setAll, List.length_cons, List.length_nil, List.length_set, List.getD_cons_zero, List.getD_cons_succ, Nat.le_refl, Int.le_refl, Nat.beq_refl, or_self, true_or, or_true, List.drop_zero, hD]; try rfl); (first | exact Nat.le_refl _ | decide); simp only [resL_tmp, resL_cellE, resC_ok, resL_nil, tupOf, getN, go_sem, ↓reduceIte, reduceCtorEq, Nat.reduceAdd, Nat.reduceMul, Nat.reduceSub, Nat.reduceLT, Nat.reduceLeDiff, Nat.reduceEqDiff, Nat.reduceBEq, Nat.reduceBneDiff, Int.reduceToNat, Int.toNat_natCast, eq_self, decide_true, decide_false, Int.reduceEq, and_true, true_and, if_false_eq, if_true_eq, List.getElem?_cons_zero, List.getElem?_cons_succ, setAll, List.length_cons, List.length_nil, List.length_set, List.getD_cons_zero, List.getD_cons_succ, Nat.le_refl, Int.le_refl, Nat.beq_refl, or_self, true_or, or_true, List.drop_zero, hD]
    rw [mkR, if_pos hz]
  · have ho := build_r (!(decide (num < 0) == decide (den < 0))) num.natAbs den.natAbs (by omega) (by omega) (by omega)
    rw [Wd_small (by omega), Wd_small (by omega)] at ho
    have hm : mkR num den = bldR (!(decide (num < 0) == decide (den < 0))) num.natAbs den.natAbs := by rw [mkR, if_neg hz]
    repeat' first
      | (refine SW.seq_k fun K hK => ?_)
      | (refine SW.block ?_)
      | ((first
      | refine SW.region ?_
      | refine SW.regionD (Checked.mixed Tryd.checked) (by kernel_rfl) ?_
      | refine SW.cond ?_
      | refine SW.skip ?_
      | refine SW.exit ?_
      | refine SW.ret ?_
      | refine Call.of_pure (a1) ?_
      | refine ⟨_, a1, ?_⟩
      | refine Call.of_pure (a2) ?_
      | refine ⟨_, a2, ?_⟩
      | refine Call.of_pure (ho) ?_
      | refine ⟨_, ho, ?_⟩
      | (refine allF_i fun b hb => ?_; replace hD := And.intro hb hD; clear hb; simp only [fresh_cons, fresh_nil, and_true, ne_eq, neF] at hD)
      | simp only [appK, appOsK]); try simp only [go_sem, ↓reduceIte, reduceCtorEq, Nat.reduceAdd, Nat.reduceMul, Nat.reduceSub, Nat.reduceLT, Nat.reduceLeDiff, Nat.reduceEqDiff, Nat.reduceBEq, Nat.reduceBneDiff, Int.reduceToNat, Int.toNat_natCast, eq_self, decide_true, decide_false, Int.reduceEq, and_true, true_and, if_false_eq, if_true_eq, List.getElem?_cons_zero, List.getElem?_cons_succ, setAll, List.length_cons, List.length_nil, List.length_set, List.getD_cons_zero, List.getD_cons_succ, Nat.le_refl, Int.le_refl, Nat.beq_refl, or_self, true_or, or_true, List.drop_zero, hD])
      | (refine And.intro (by omega) ?_)
      | (refine ifI (fun hc => ?_) (fun hc => ?_) <;> first | (exfalso; omega) | skip)
      | (first | (apply hK; clear hK K) | (clear hK K; apply hK; clear hK K) | (clear hK K; clear hK K; apply hK; clear hK K) | (clear hK K; clear hK K; clear hK K; apply hK; clear hK K) | (clear hK K; clear hK K; clear hK K; clear hK K; apply hK; clear hK K) | (clear hK K; clear hK K; clear hK K; clear hK K; clear hK K; apply hK; clear hK K))
      | fail
    apply ret_cell (i := 4) (n := 2); exact rfl; (simp only [go_sem, ↓reduceIte, reduceCtorEq, Nat.reduceAdd, Nat.reduceMul, Nat.reduceSub, Nat.reduceLT, Nat.reduceLeDiff, Nat.reduceEqDiff, Nat.reduceBEq, Nat.reduceBneDiff, Int.reduceToNat, Int.toNat_natCast, eq_self, decide_true, decide_false, Int.reduceEq, and_true, true_and, if_false_eq, if_true_eq, List.getElem?_cons_zero, List.getElem?_cons_succ, setAll, List.length_cons, List.length_nil, List.length_set, List.getD_cons_zero, List.getD_cons_succ, Nat.le_refl, Int.le_refl, Nat.beq_refl, or_self, true_or, or_true, List.drop_zero, hD]; try rfl); (first | exact Nat.le_refl _ | decide); simp only [resL_tmp, resL_cellE, resC_ok, resL_nil, tupOf, getN, go_sem, ↓reduceIte, reduceCtorEq, Nat.reduceAdd, Nat.reduceMul, Nat.reduceSub, Nat.reduceLT, Nat.reduceLeDiff, Nat.reduceEqDiff, Nat.reduceBEq, Nat.reduceBneDiff, Int.reduceToNat, Int.toNat_natCast, eq_self, decide_true, decide_false, Int.reduceEq, and_true, true_and, if_false_eq, if_true_eq, List.getElem?_cons_zero, List.getElem?_cons_succ, setAll, List.length_cons, List.length_nil, List.length_set, List.getD_cons_zero, List.getD_cons_succ, Nat.le_refl, Int.le_refl, Nat.beq_refl, or_self, true_or, or_true, List.drop_zero, hD]
    rw [hm]

set_option maxRecDepth 20000 in
theorem valid_r (num den : Int) (h0 : -9223372036854775808 ≤ num) (h1 : num ≤ 9223372036854775807) (h2 : -9223372036854775808 ≤ den) (h3 : den ≤ 9223372036854775807) : PCall Tryd.prog 16 [.agg [I64 num, I64 den]] (SB (okR num den)) := by
  have hm := make_r num den h0 h1 h2 h3
  refine Call.enter' (N := 28) (rs := [.tmp 2]) Tryd.func16 rfl rfl rfl (by decide) rfl ?_; simp only [argT]; have hD : (0 : Nat) = 0 := rfl
  repeat' first
    | (refine SW.seq_k fun K hK => ?_)
    | (refine SW.block ?_)
    | ((first
      | refine SW.region ?_
      | refine SW.regionD (Checked.mixed Tryd.checked) (by kernel_rfl) ?_
      | refine SW.cond ?_
      | refine SW.skip ?_
      | refine SW.exit ?_
      | refine SW.ret ?_
      | refine Call.of_pure (hm) ?_
      | refine ⟨_, hm, ?_⟩
      | (refine allF_i fun b hb => ?_; replace hD := And.intro hb hD; clear hb; simp only [fresh_cons, fresh_nil, and_true, ne_eq, neF] at hD)
      | simp only [appK, appOsK]); try simp only [go_sem, ↓reduceIte, reduceCtorEq, Nat.reduceAdd, Nat.reduceMul, Nat.reduceSub, Nat.reduceLT, Nat.reduceLeDiff, Nat.reduceEqDiff, Nat.reduceBEq, Nat.reduceBneDiff, Int.reduceToNat, Int.toNat_natCast, eq_self, decide_true, decide_false, Int.reduceEq, and_true, true_and, if_false_eq, if_true_eq, List.getElem?_cons_zero, List.getElem?_cons_succ, setAll, List.length_cons, List.length_nil, List.length_set, List.getD_cons_zero, List.getD_cons_succ, Nat.le_refl, Int.le_refl, Nat.beq_refl, or_self, true_or, or_true, List.drop_zero, hD])
    | (refine And.intro (by omega) ?_)
    | (refine ifI (fun hc => ?_) (fun hc => ?_) <;> first | (exfalso; omega) | skip)
    | (first | (apply hK; clear hK K) | (clear hK K; apply hK; clear hK K) | (clear hK K; clear hK K; apply hK; clear hK K) | (clear hK K; clear hK K; clear hK K; apply hK; clear hK K) | (clear hK K; clear hK K; clear hK K; clear hK K; apply hK; clear hK K) | (clear hK K; clear hK K; clear hK K; clear hK K; clear hK K; apply hK; clear hK K))
    | fail
  · refine ret_pure ?_; simp only [resL_tmp, resL_nil, tupOf, go_sem, ↓reduceIte, reduceCtorEq, Nat.reduceAdd, Nat.reduceMul, Nat.reduceSub, Nat.reduceLT, Nat.reduceLeDiff, Nat.reduceEqDiff, Nat.reduceBEq, Nat.reduceBneDiff, Int.reduceToNat, Int.toNat_natCast, eq_self, decide_true, decide_false, Int.reduceEq, and_true, true_and, if_false_eq, if_true_eq, List.getElem?_cons_zero, List.getElem?_cons_succ, setAll, List.length_cons, List.length_nil, List.length_set, List.getD_cons_zero, List.getD_cons_succ, Nat.le_refl, Int.le_refl, Nat.beq_refl, or_self, true_or, or_true, List.drop_zero, hD]
    refine bool_eq ?_
    rw [okR, decide_eq_false (p := 0 < den) (by omega), Bool.false_and]
  · refine ret_pure ?_; simp only [resL_tmp, resL_nil, tupOf, go_sem, ↓reduceIte, reduceCtorEq, Nat.reduceAdd, Nat.reduceMul, Nat.reduceSub, Nat.reduceLT, Nat.reduceLeDiff, Nat.reduceEqDiff, Nat.reduceBEq, Nat.reduceBneDiff, Int.reduceToNat, Int.toNat_natCast, eq_self, decide_true, decide_false, Int.reduceEq, and_true, true_and, if_false_eq, if_true_eq, List.getElem?_cons_zero, List.getElem?_cons_succ, setAll, List.length_cons, List.length_nil, List.length_set, List.getD_cons_zero, List.getD_cons_succ, Nat.le_refl, Int.le_refl, Nat.beq_refl, or_self, true_or, or_true, List.drop_zero, hD]
    refine bool_eq ?_
    rw [okR, decide_eq_false (p := -9223372036854775808 < num) (by omega), Bool.false_and, Bool.and_false]
  · refine ret_pure ?_; simp only [resL_tmp, resL_nil, tupOf, go_sem, ↓reduceIte, reduceCtorEq, Nat.reduceAdd, Nat.reduceMul, Nat.reduceSub, Nat.reduceLT, Nat.reduceLeDiff, Nat.reduceEqDiff, Nat.reduceBEq, Nat.reduceBneDiff, Int.reduceToNat, Int.toNat_natCast, eq_self, decide_true, decide_false, Int.reduceEq, and_true, true_and, if_false_eq, if_true_eq, List.getElem?_cons_zero, List.getElem?_cons_succ, setAll, List.length_cons, List.length_nil, List.length_set, List.getD_cons_zero, List.getD_cons_succ, Nat.le_refl, Int.le_refl, Nat.beq_refl, or_self, true_or, or_true, List.drop_zero, hD]
    refine bool_eq ?_
    have hk := mk_ok h0 h1 h2 h3 (by omega) (by omega)
    rw [okR_eq (by omega) (by omega), Bool.eq_iff_iff, decide_eq_true_eq, Bool.and_eq_true, decide_eq_true_eq, decide_eq_true_eq, ← hk]
    exact ⟨fun h => ⟨by assumption, h⟩, fun h => h.2⟩
  · refine ret_pure ?_; simp only [resL_tmp, resL_nil, tupOf, go_sem, ↓reduceIte, reduceCtorEq, Nat.reduceAdd, Nat.reduceMul, Nat.reduceSub, Nat.reduceLT, Nat.reduceLeDiff, Nat.reduceEqDiff, Nat.reduceBEq, Nat.reduceBneDiff, Int.reduceToNat, Int.toNat_natCast, eq_self, decide_true, decide_false, Int.reduceEq, and_true, true_and, if_false_eq, if_true_eq, List.getElem?_cons_zero, List.getElem?_cons_succ, setAll, List.length_cons, List.length_nil, List.length_set, List.getD_cons_zero, List.getD_cons_succ, Nat.le_refl, Int.le_refl, Nat.beq_refl, or_self, true_or, or_true, List.drop_zero, hD]
    refine bool_eq ?_
    have hk := mk_ok h0 h1 h2 h3 (by omega) (by omega)
    rw [okR_eq (by omega) (by omega), decide_eq_false (fun h => by have := (hk.2 h).1; contradiction)]

set_option maxRecDepth 20000 in
theorem of_r (num den : Int) (h0 : -9223372036854775808 ≤ num) (h1 : num ≤ 9223372036854775807) (h2 : -9223372036854775808 ≤ den) (h3 : den ≤ 9223372036854775807) : PCall Tryd.prog 25 [I64 num, I64 den] (.agg [I64 (ofQ num den).1, I64 (ofQ num den).2]) := by
  have hm := make_r num den h0 h1 h2 h3
  refine Call.enter' (N := 17) (rs := [.cell 4 24]) Tryd.func25 rfl rfl rfl (by decide) rfl ?_; simp only [argT]; have hD : (0 : Nat) = 0 := rfl
  repeat' first
    | (refine SW.seq_k fun K hK => ?_)
    | (refine SW.block ?_)
    | ((first
      | refine SW.region ?_
      | refine SW.regionD (Checked.mixed Tryd.checked) (by kernel_rfl) ?_
      | refine SW.cond ?_
      | refine SW.skip ?_
      | refine SW.exit ?_
      | refine SW.ret ?_
      | refine Call.of_pure (hm) ?_
      | refine ⟨_, hm, ?_⟩
      | (refine allF_i fun b hb => ?_; replace hD := And.intro hb hD; clear hb; simp only [fresh_cons, fresh_nil, and_true, ne_eq, neF] at hD)
      | simp only [appK, appOsK]); try simp only [go_sem, ↓reduceIte, reduceCtorEq, Nat.reduceAdd, Nat.reduceMul, Nat.reduceSub, Nat.reduceLT, Nat.reduceLeDiff, Nat.reduceEqDiff, Nat.reduceBEq, Nat.reduceBneDiff, Int.reduceToNat, Int.toNat_natCast, eq_self, decide_true, decide_false, Int.reduceEq, and_true, true_and, if_false_eq, if_true_eq, List.getElem?_cons_zero, List.getElem?_cons_succ, setAll, List.length_cons, List.length_nil, List.length_set, List.getD_cons_zero, List.getD_cons_succ, Nat.le_refl, Int.le_refl, Nat.beq_refl, or_self, true_or, or_true, List.drop_zero, hD])
    | (refine And.intro (by omega) ?_)
    | (refine ifI (fun hc => ?_) (fun hc => ?_) <;> first | (exfalso; omega) | skip)
    | (first | (apply hK; clear hK K) | (clear hK K; apply hK; clear hK K) | (clear hK K; clear hK K; apply hK; clear hK K) | (clear hK K; clear hK K; clear hK K; apply hK; clear hK K) | (clear hK K; clear hK K; clear hK K; clear hK K; apply hK; clear hK K) | (clear hK K; clear hK K; clear hK K; clear hK K; clear hK K; apply hK; clear hK K))
    | fail
  · apply ret_cell (i := 4) (n := 2); exact rfl; (simp only [go_sem, ↓reduceIte, reduceCtorEq, Nat.reduceAdd, Nat.reduceMul, Nat.reduceSub, Nat.reduceLT, Nat.reduceLeDiff, Nat.reduceEqDiff, Nat.reduceBEq, Nat.reduceBneDiff, Int.reduceToNat, Int.toNat_natCast, eq_self, decide_true, decide_false, Int.reduceEq, and_true, true_and, if_false_eq, if_true_eq, List.getElem?_cons_zero, List.getElem?_cons_succ, setAll, List.length_cons, List.length_nil, List.length_set, List.getD_cons_zero, List.getD_cons_succ, Nat.le_refl, Int.le_refl, Nat.beq_refl, or_self, true_or, or_true, List.drop_zero, hD]; try rfl); (first | exact Nat.le_refl _ | decide); simp only [resL_tmp, resL_cellE, resC_ok, resL_nil, tupOf, getN, go_sem, ↓reduceIte, reduceCtorEq, Nat.reduceAdd, Nat.reduceMul, Nat.reduceSub, Nat.reduceLT, Nat.reduceLeDiff, Nat.reduceEqDiff, Nat.reduceBEq, Nat.reduceBneDiff, Int.reduceToNat, Int.toNat_natCast, eq_self, decide_true, decide_false, Int.reduceEq, and_true, true_and, if_false_eq, if_true_eq, List.getElem?_cons_zero, List.getElem?_cons_succ, setAll, List.length_cons, List.length_nil, List.length_set, List.getD_cons_zero, List.getD_cons_succ, Nat.le_refl, Int.le_refl, Nat.beq_refl, or_self, true_or, or_true, List.drop_zero, hD]
    rw [ofQ, if_neg (by assumption)]
  · apply ret_cell (i := 4) (n := 2); exact rfl; (simp only [go_sem, ↓reduceIte, reduceCtorEq, Nat.reduceAdd, Nat.reduceMul, Nat.reduceSub, Nat.reduceLT, Nat.reduceLeDiff, Nat.reduceEqDiff, Nat.reduceBEq, Nat.reduceBneDiff, Int.reduceToNat, Int.toNat_natCast, eq_self, decide_true, decide_false, Int.reduceEq, and_true, true_and, if_false_eq, if_true_eq, List.getElem?_cons_zero, List.getElem?_cons_succ, setAll, List.length_cons, List.length_nil, List.length_set, List.getD_cons_zero, List.getD_cons_succ, Nat.le_refl, Int.le_refl, Nat.beq_refl, or_self, true_or, or_true, List.drop_zero, hD]; try rfl); (first | exact Nat.le_refl _ | decide); simp only [resL_tmp, resL_cellE, resC_ok, resL_nil, tupOf, getN, go_sem, ↓reduceIte, reduceCtorEq, Nat.reduceAdd, Nat.reduceMul, Nat.reduceSub, Nat.reduceLT, Nat.reduceLeDiff, Nat.reduceEqDiff, Nat.reduceBEq, Nat.reduceBneDiff, Int.reduceToNat, Int.toNat_natCast, eq_self, decide_true, decide_false, Int.reduceEq, and_true, true_and, if_false_eq, if_true_eq, List.getElem?_cons_zero, List.getElem?_cons_succ, setAll, List.length_cons, List.length_nil, List.length_set, List.getD_cons_zero, List.getD_cons_succ, Nat.le_refl, Int.le_refl, Nat.beq_refl, or_self, true_or, or_true, List.drop_zero, hD]
    rw [ofQ, if_pos (by omega)]
end Go.Proofs.YtcbgkcjlechdnaaDoor
