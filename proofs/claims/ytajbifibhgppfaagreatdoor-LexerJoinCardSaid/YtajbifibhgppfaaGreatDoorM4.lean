/- Several texts in one: E4, E5, E6, ZT. -/
import Derived.Test.YtajbifibhgppfaaGreatDoorM3
import Derived.Test.YtajbifibhgppfaaGreatDoorRows
import Derived.ProofKit
import Derived.LaidMore
import Derived.OpenShut
import Derived.Stop.Joined
/- Contracts: glued. -/
set_option linter.unusedSimpArgs false
set_option linter.unusedVariables false
set_option linter.unusedSectionVars false
namespace Go.Proofs.YtajbifibhgppfaaGreatDoor
open Go Go.Ab Go.Ab.A01 Go.Ab.A05
variable [Gl] [Tabs] [Syms]
theorem text_eq (s : ByteArray) (l : List UInt8) (a : Array UInt8) (ha : a.toList = l) : (s.toList == (⟨a⟩ : ByteArray).toList) = decide (s.data.toList = l) := by
  rw [Bool.eq_iff_iff, decide_eq_true_eq, barr_eq]
  constructor
  · intro h; rw [h]; exact ha
  · intro h
    exact ba_ext (by rw [h]; exact ha.symm)

set_option maxHeartbeats 1000000 in
set_option maxRecDepth 20000 in
theorem word_c (k : Int) (s : ByteArray) (v : Int × Int × ByteArray) (ln cl : Int) : PCall Tryz.prog 28 [TK k s v ln cl] (SB (wordS k s.data.toList)) := by
  have he := text_eq s nullL #[110, 117, 108, 108] rfl
  unfold wordS
  by_cases h1 : k = 1
  · rw [decide_eq_true h1, Bool.true_or]
    refine Call.enter' (N := 11) (rs := [.tmp 2]) Tryz.func28 rfl rfl rfl (by decide) rfl ?_; simp only [argT]; have hD : (0 : Nat) = 0 := rfl
    repeat' first | (with_reducible refine And.intro (by omega) ?_) | (refine SW.seq_k fun K hK => ?_) | (refine SW.block ?_) | ((first | refine SW.region ?_ | refine SW.regionD (Checked.mixed Tryz.checked) (by kernel_rfl) ?_ | refine SW.cond ?_ | refine SW.skip ?_ | refine SW.exit ?_ | refine SW.ret ?_ | (refine allF_i fun b hb => ?_; replace hD := And.intro hb hD; clear hb; try simp only [fresh_cons, fresh_nil, and_true, ne_eq, neF] at hD) | simp only [appK, appOsK]); try simp only [go_sem, ↓reduceIte, reduceCtorEq, Nat.reduceAdd, Nat.reduceMul, Nat.reduceSub, Nat.reduceLT, Nat.reduceLeDiff, Nat.reduceEqDiff, Nat.reduceBEq, Nat.reduceBneDiff, Int.reduceToNat, Int.reduceEq, hD, h1]) | (refine And.intro (by omega) ?_) | (refine ifI (fun hc => ?_) (fun hc => ?_) <;> first | (exfalso; omega) | skip) | (first | (apply hK; clear hK K) | ((iterate 1 (clear hK K)); apply hK; clear hK K) | ((iterate 2 (clear hK K)); apply hK; clear hK K) | ((iterate 3 (clear hK K)); apply hK; clear hK K) | ((iterate 4 (clear hK K)); apply hK; clear hK K) | ((iterate 5 (clear hK K)); apply hK; clear hK K))
    refine ret_pure ?_; simp only [resL_tmp, resL_nil, tupOf, go_sem, ↓reduceIte, reduceCtorEq, Nat.reduceAdd, Nat.reduceMul, Nat.reduceSub, Nat.reduceLT, Nat.reduceLeDiff, Nat.reduceEqDiff, Nat.reduceBEq, Nat.reduceBneDiff, Int.reduceToNat, Int.reduceEq, hD]
  · rw [decide_eq_false h1, Bool.false_or]
    have f1 : (([I64 k, Str s, I64 v.1, I64 v.2.1, Str v.2.2, I64 ln, I64 cl] : List SV).drop 1).take 1 = [Str s] := rfl
    generalize decide (s.data.toList = nullL) = q at *
    refine Call.enter' (N := 11) (rs := [.tmp 2]) Tryz.func28 rfl rfl rfl (by decide) rfl ?_; simp only [argT]; have hD : (0 : Nat) = 0 := rfl
    repeat' first | (with_reducible refine And.intro (by omega) ?_) | (refine SW.seq_k fun K hK => ?_) | (refine SW.block ?_) | ((first | refine SW.region ?_ | refine SW.regionD (Checked.mixed Tryz.checked) (by kernel_rfl) ?_ | refine SW.cond ?_ | refine SW.skip ?_ | refine SW.exit ?_ | refine SW.ret ?_ | (refine allF_i fun b hb => ?_; replace hD := And.intro hb hD; clear hb; try simp only [fresh_cons, fresh_nil, and_true, ne_eq, neF] at hD) | simp only [appK, appOsK]); try simp only [go_sem, ↓reduceIte, reduceCtorEq, Nat.reduceAdd, Nat.reduceMul, Nat.reduceSub, Nat.reduceLT, Nat.reduceLeDiff, Nat.reduceEqDiff, Nat.reduceBEq, Nat.reduceBneDiff, Int.reduceToNat, Int.reduceEq, hD, h1, he, f1]) | (refine And.intro (by omega) ?_) | (refine ifI (fun hc => ?_) (fun hc => ?_) <;> first | (exfalso; omega) | skip) | (first | (apply hK; clear hK K) | ((iterate 1 (clear hK K)); apply hK; clear hK K) | ((iterate 2 (clear hK K)); apply hK; clear hK K) | ((iterate 3 (clear hK K)); apply hK; clear hK K) | ((iterate 4 (clear hK K)); apply hK; clear hK K) | ((iterate 5 (clear hK K)); apply hK; clear hK K))
    refine ret_pure ?_; simp only [resL_tmp, resL_nil, tupOf, go_sem, ↓reduceIte, reduceCtorEq, Nat.reduceAdd, Nat.reduceMul, Nat.reduceSub, Nat.reduceLT, Nat.reduceLeDiff, Nat.reduceEqDiff, Nat.reduceBEq, Nat.reduceBneDiff, Int.reduceToNat, Int.reduceEq, hD]

set_option maxHeartbeats 1000000 in
set_option maxRecDepth 20000 in
theorem num_c (k : Int) (s : ByteArray) (v : Int × Int × ByteArray) (ln cl : Int) (hs : 1 ≤ s.size) : PCall Tryz.prog 29 [TK k s v ln cl] (SB (numS k s.data.toList)) := by
  unfold numS
  have h0 : (0 : Int) < ((s.size : Nat) : Int) := by omega
  have dg := digit_c (s.data.toList.getD 0 0)
  by_cases h1 : k = 2
  · rw [decide_eq_true h1, Bool.true_and]
    generalize isD (s.data.toList.getD 0 0) = q at *
    refine Call.enter' (N := 12) (rs := [.tmp 2]) Tryz.func29 rfl rfl rfl (by decide) rfl ?_; simp only [argT]; have hD : (0 : Nat) = 0 := rfl
    repeat' first | (with_reducible refine And.intro (by omega) ?_) | (refine SW.seq_k fun K hK => ?_) | (refine SW.block ?_) | ((first | refine SW.region ?_ | refine SW.regionD (Checked.mixed Tryz.checked) (by kernel_rfl) ?_ | refine SW.cond ?_ | refine SW.skip ?_ | refine SW.exit ?_ | refine SW.ret ?_ | refine Call.of_pure (dg) ?_ | refine ⟨_, dg, ?_⟩ | (refine allF_i fun b hb => ?_; replace hD := And.intro hb hD; clear hb; try simp only [fresh_cons, fresh_nil, and_true, ne_eq, neF] at hD) | simp only [appK, appOsK]); try simp only [go_sem, ↓reduceIte, reduceCtorEq, Nat.reduceAdd, Nat.reduceMul, Nat.reduceSub, Nat.reduceLT, Nat.reduceLeDiff, Nat.reduceEqDiff, Nat.reduceBEq, Nat.reduceBneDiff, Int.reduceToNat, Int.reduceEq, hD, h1, h0]) | (refine And.intro (by omega) ?_) | (refine ifI (fun hc => ?_) (fun hc => ?_) <;> first | (exfalso; omega) | skip) | (first | (apply hK; clear hK K) | ((iterate 1 (clear hK K)); apply hK; clear hK K) | ((iterate 2 (clear hK K)); apply hK; clear hK K) | ((iterate 3 (clear hK K)); apply hK; clear hK K) | ((iterate 4 (clear hK K)); apply hK; clear hK K) | ((iterate 5 (clear hK K)); apply hK; clear hK K))
    refine ret_pure ?_; simp only [resL_tmp, resL_nil, tupOf, go_sem, ↓reduceIte, reduceCtorEq, Nat.reduceAdd, Nat.reduceMul, Nat.reduceSub, Nat.reduceLT, Nat.reduceLeDiff, Nat.reduceEqDiff, Nat.reduceBEq, Nat.reduceBneDiff, Int.reduceToNat, Int.reduceEq, hD]
  · rw [decide_eq_false h1, Bool.false_and]
    refine Call.enter' (N := 12) (rs := [.tmp 2]) Tryz.func29 rfl rfl rfl (by decide) rfl ?_; simp only [argT]; have hD : (0 : Nat) = 0 := rfl
    repeat' first | (with_reducible refine And.intro (by omega) ?_) | (refine SW.seq_k fun K hK => ?_) | (refine SW.block ?_) | ((first | refine SW.region ?_ | refine SW.regionD (Checked.mixed Tryz.checked) (by kernel_rfl) ?_ | refine SW.cond ?_ | refine SW.skip ?_ | refine SW.exit ?_ | refine SW.ret ?_ | (refine allF_i fun b hb => ?_; replace hD := And.intro hb hD; clear hb; try simp only [fresh_cons, fresh_nil, and_true, ne_eq, neF] at hD) | simp only [appK, appOsK]); try simp only [go_sem, ↓reduceIte, reduceCtorEq, Nat.reduceAdd, Nat.reduceMul, Nat.reduceSub, Nat.reduceLT, Nat.reduceLeDiff, Nat.reduceEqDiff, Nat.reduceBEq, Nat.reduceBneDiff, Int.reduceToNat, Int.reduceEq, hD, h1]) | (refine And.intro (by omega) ?_) | (refine ifI (fun hc => ?_) (fun hc => ?_) <;> first | (exfalso; omega) | skip) | (first | (apply hK; clear hK K) | ((iterate 1 (clear hK K)); apply hK; clear hK K) | ((iterate 2 (clear hK K)); apply hK; clear hK K) | ((iterate 3 (clear hK K)); apply hK; clear hK K) | ((iterate 4 (clear hK K)); apply hK; clear hK K) | ((iterate 5 (clear hK K)); apply hK; clear hK K))
    refine ret_pure ?_; simp only [resL_tmp, resL_nil, tupOf, go_sem, ↓reduceIte, reduceCtorEq, Nat.reduceAdd, Nat.reduceMul, Nat.reduceSub, Nat.reduceLT, Nat.reduceLeDiff, Nat.reduceEqDiff, Nat.reduceBEq, Nat.reduceBneDiff, Int.reduceToNat, Int.reduceEq, hD]

set_option maxHeartbeats 2000000 in
set_option maxRecDepth 20000 in
theorem glued_c (ka kb : Int) (sa sb : ByteArray) (va vb : Int × Int × ByteArray) (la lb ca cb : Int) (hb : 1 ≤ sb.size) :
    PCall Tryz.prog 13 [TK ka sa va la ca, TK kb sb vb lb cb] (SB (glueS ka va.1 sa.data.toList kb sb.data.toList)) := by
  have wa := word_c ka sa va la ca
  have wb := word_c kb sb vb lb cb
  have nb := num_c kb sb vb lb cb hb
  have e1 := text_eq sa [60] #[60] rfl
  have e2 := text_eq sb [61] #[61] rfl
  unfold glueS
  cases q1 : wordS ka sa.data.toList with
  | true =>
    rw [q1] at wa
    rw [if_pos rfl]
    cases q2 : wordS kb sb.data.toList with
    | true =>
      rw [q2] at wb
      refine Call.enter' (N := 40) (rs := [.tmp 4]) Tryz.func13 rfl rfl rfl (by decide) rfl ?_; simp only [argT]; have hD : (0 : Nat) = 0 := rfl
      repeat' first | (with_reducible refine And.intro (by omega) ?_) | (refine SW.seq_k fun K hK => ?_) | (refine SW.block ?_) | ((first | refine SW.region ?_ | refine SW.regionD (Checked.mixed Tryz.checked) (by kernel_rfl) ?_ | refine SW.cond ?_ | refine SW.skip ?_ | refine SW.exit ?_ | refine SW.ret ?_ | refine Call.of_pure (wa) ?_ | refine ⟨_, wa, ?_⟩ | refine Call.of_pure (wb) ?_ | refine ⟨_, wb, ?_⟩ | refine Call.of_pure (nb) ?_ | refine ⟨_, nb, ?_⟩ | (refine allF_i fun b hb => ?_; replace hD := And.intro hb hD; clear hb; try simp only [fresh_cons, fresh_nil, and_true, ne_eq, neF] at hD) | simp only [appK, appOsK]); try simp only [go_sem, ↓reduceIte, reduceCtorEq, Nat.reduceAdd, Nat.reduceMul, Nat.reduceSub, Nat.reduceLT, Nat.reduceLeDiff, Nat.reduceEqDiff, Nat.reduceBEq, Nat.reduceBneDiff, Int.reduceToNat, Int.reduceEq, hD, true_implies]) | (refine And.intro (by omega) ?_) | (refine ifI (fun hc => ?_) (fun hc => ?_) <;> first | (exfalso; omega) | skip) | (first | (apply hK; clear hK K) | ((iterate 1 (clear hK K)); apply hK; clear hK K) | ((iterate 2 (clear hK K)); apply hK; clear hK K) | ((iterate 3 (clear hK K)); apply hK; clear hK K) | ((iterate 4 (clear hK K)); apply hK; clear hK K) | ((iterate 5 (clear hK K)); apply hK; clear hK K))
      refine ret_pure ?_; simp only [resL_tmp, resL_nil, tupOf, go_sem, ↓reduceIte, reduceCtorEq, Nat.reduceAdd, Nat.reduceMul, Nat.reduceSub, Nat.reduceLT, Nat.reduceLeDiff, Nat.reduceEqDiff, Nat.reduceBEq, Nat.reduceBneDiff, Int.reduceToNat, Int.reduceEq, hD]
      rfl
    | false =>
      rw [q2] at wb
      rw [Bool.false_or]
      generalize numS kb sb.data.toList = q at *
      refine Call.enter' (N := 40) (rs := [.tmp 4]) Tryz.func13 rfl rfl rfl (by decide) rfl ?_; simp only [argT]; have hD : (0 : Nat) = 0 := rfl
      repeat' first | (with_reducible refine And.intro (by omega) ?_) | (refine SW.seq_k fun K hK => ?_) | (refine SW.block ?_) | ((first | refine SW.region ?_ | refine SW.regionD (Checked.mixed Tryz.checked) (by kernel_rfl) ?_ | refine SW.cond ?_ | refine SW.skip ?_ | refine SW.exit ?_ | refine SW.ret ?_ | refine Call.of_pure (wa) ?_ | refine ⟨_, wa, ?_⟩ | refine Call.of_pure (wb) ?_ | refine ⟨_, wb, ?_⟩ | refine Call.of_pure (nb) ?_ | refine ⟨_, nb, ?_⟩ | (refine allF_i fun b hb => ?_; replace hD := And.intro hb hD; clear hb; try simp only [fresh_cons, fresh_nil, and_true, ne_eq, neF] at hD) | simp only [appK, appOsK]); try simp only [go_sem, ↓reduceIte, reduceCtorEq, Nat.reduceAdd, Nat.reduceMul, Nat.reduceSub, Nat.reduceLT, Nat.reduceLeDiff, Nat.reduceEqDiff, Nat.reduceBEq, Nat.reduceBneDiff, Int.reduceToNat, Int.reduceEq, hD, true_implies]) | (refine And.intro (by omega) ?_) | (refine ifI (fun hc => ?_) (fun hc => ?_) <;> first | (exfalso; omega) | skip) | (first | (apply hK; clear hK K) | ((iterate 1 (clear hK K)); apply hK; clear hK K) | ((iterate 2 (clear hK K)); apply hK; clear hK K) | ((iterate 3 (clear hK K)); apply hK; clear hK K) | ((iterate 4 (clear hK K)); apply hK; clear hK K) | ((iterate 5 (clear hK K)); apply hK; clear hK K))
      refine ret_pure ?_; simp only [resL_tmp, resL_nil, tupOf, go_sem, ↓reduceIte, reduceCtorEq, Nat.reduceAdd, Nat.reduceMul, Nat.reduceSub, Nat.reduceLT, Nat.reduceLeDiff, Nat.reduceEqDiff, Nat.reduceBEq, Nat.reduceBneDiff, Int.reduceToNat, Int.reduceEq, hD]
  | false =>
    rw [q1] at wa
    rw [if_neg (by simp)]
    by_cases h2 : ka = 2
    · subst h2
      obtain ⟨a, n, t⟩ := va
      simp only at wa ⊢
      by_cases h3 : a = 2
      · subst h3
        rw [if_neg (fun x => x.2 rfl)]
        generalize decide (sa.data.toList = [60]) = p1 at *
        generalize decide (sb.data.toList = [61]) = p2 at *
        cases p1 with
        | true =>
          refine Call.enter' (N := 40) (rs := [.tmp 4]) Tryz.func13 rfl rfl rfl (by decide) rfl ?_; simp only [argT]; have hD : (0 : Nat) = 0 := rfl
          repeat' first | (with_reducible refine And.intro (by omega) ?_) | (refine SW.seq_k fun K hK => ?_) | (refine SW.block ?_) | ((first | refine SW.region ?_ | refine SW.regionD (Checked.mixed Tryz.checked) (by kernel_rfl) ?_ | refine SW.cond ?_ | refine SW.skip ?_ | refine SW.exit ?_ | refine SW.ret ?_ | refine Call.of_pure (wa) ?_ | refine ⟨_, wa, ?_⟩ | refine Call.of_pure (wb) ?_ | refine ⟨_, wb, ?_⟩ | refine Call.of_pure (nb) ?_ | refine ⟨_, nb, ?_⟩ | (refine allF_i fun b hb => ?_; replace hD := And.intro hb hD; clear hb; try simp only [fresh_cons, fresh_nil, and_true, ne_eq, neF] at hD) | simp only [appK, appOsK]); try simp only [go_sem, ↓reduceIte, reduceCtorEq, Nat.reduceAdd, Nat.reduceMul, Nat.reduceSub, Nat.reduceLT, Nat.reduceLeDiff, Nat.reduceEqDiff, Nat.reduceBEq, Nat.reduceBneDiff, Int.reduceToNat, Int.reduceEq, hD, e1, e2]) | (refine And.intro (by omega) ?_) | (refine ifI (fun hc => ?_) (fun hc => ?_) <;> first | (exfalso; omega) | skip) | (first | (apply hK; clear hK K) | ((iterate 1 (clear hK K)); apply hK; clear hK K) | ((iterate 2 (clear hK K)); apply hK; clear hK K) | ((iterate 3 (clear hK K)); apply hK; clear hK K) | ((iterate 4 (clear hK K)); apply hK; clear hK K) | ((iterate 5 (clear hK K)); apply hK; clear hK K))
          refine ret_pure ?_; simp only [resL_tmp, resL_nil, tupOf, go_sem, ↓reduceIte, reduceCtorEq, Nat.reduceAdd, Nat.reduceMul, Nat.reduceSub, Nat.reduceLT, Nat.reduceLeDiff, Nat.reduceEqDiff, Nat.reduceBEq, Nat.reduceBneDiff, Int.reduceToNat, Int.reduceEq, hD]
        | false =>
          refine Call.enter' (N := 40) (rs := [.tmp 4]) Tryz.func13 rfl rfl rfl (by decide) rfl ?_; simp only [argT]; have hD : (0 : Nat) = 0 := rfl
          repeat' first | (with_reducible refine And.intro (by omega) ?_) | (refine SW.seq_k fun K hK => ?_) | (refine SW.block ?_) | ((first | refine SW.region ?_ | refine SW.regionD (Checked.mixed Tryz.checked) (by kernel_rfl) ?_ | refine SW.cond ?_ | refine SW.skip ?_ | refine SW.exit ?_ | refine SW.ret ?_ | refine Call.of_pure (wa) ?_ | refine ⟨_, wa, ?_⟩ | refine Call.of_pure (wb) ?_ | refine ⟨_, wb, ?_⟩ | refine Call.of_pure (nb) ?_ | refine ⟨_, nb, ?_⟩ | (refine allF_i fun b hb => ?_; replace hD := And.intro hb hD; clear hb; try simp only [fresh_cons, fresh_nil, and_true, ne_eq, neF] at hD) | simp only [appK, appOsK]); try simp only [go_sem, ↓reduceIte, reduceCtorEq, Nat.reduceAdd, Nat.reduceMul, Nat.reduceSub, Nat.reduceLT, Nat.reduceLeDiff, Nat.reduceEqDiff, Nat.reduceBEq, Nat.reduceBneDiff, Int.reduceToNat, Int.reduceEq, hD, e1, e2]) | (refine And.intro (by omega) ?_) | (refine ifI (fun hc => ?_) (fun hc => ?_) <;> first | (exfalso; omega) | skip) | (first | (apply hK; clear hK K) | ((iterate 1 (clear hK K)); apply hK; clear hK K) | ((iterate 2 (clear hK K)); apply hK; clear hK K) | ((iterate 3 (clear hK K)); apply hK; clear hK K) | ((iterate 4 (clear hK K)); apply hK; clear hK K) | ((iterate 5 (clear hK K)); apply hK; clear hK K))
          refine ret_pure ?_; simp only [resL_tmp, resL_nil, tupOf, go_sem, ↓reduceIte, reduceCtorEq, Nat.reduceAdd, Nat.reduceMul, Nat.reduceSub, Nat.reduceLT, Nat.reduceLeDiff, Nat.reduceEqDiff, Nat.reduceBEq, Nat.reduceBneDiff, Int.reduceToNat, Int.reduceEq, hD]
      · rw [if_pos ⟨trivial, h3⟩]
        generalize numS kb sb.data.toList = q at *
        refine Call.enter' (N := 40) (rs := [.tmp 4]) Tryz.func13 rfl rfl rfl (by decide) rfl ?_; simp only [argT]; have hD : (0 : Nat) = 0 := rfl
        repeat' first | (with_reducible refine And.intro (by omega) ?_) | (refine SW.seq_k fun K hK => ?_) | (refine SW.block ?_) | ((first | refine SW.region ?_ | refine SW.regionD (Checked.mixed Tryz.checked) (by kernel_rfl) ?_ | refine SW.cond ?_ | refine SW.skip ?_ | refine SW.exit ?_ | refine SW.ret ?_ | refine Call.of_pure (wa) ?_ | refine ⟨_, wa, ?_⟩ | refine Call.of_pure (wb) ?_ | refine ⟨_, wb, ?_⟩ | refine Call.of_pure (nb) ?_ | refine ⟨_, nb, ?_⟩ | (refine allF_i fun b hb => ?_; replace hD := And.intro hb hD; clear hb; try simp only [fresh_cons, fresh_nil, and_true, ne_eq, neF] at hD) | simp only [appK, appOsK]); try simp only [go_sem, ↓reduceIte, reduceCtorEq, Nat.reduceAdd, Nat.reduceMul, Nat.reduceSub, Nat.reduceLT, Nat.reduceLeDiff, Nat.reduceEqDiff, Nat.reduceBEq, Nat.reduceBneDiff, Int.reduceToNat, Int.reduceEq, hD, h3]) | (refine And.intro (by omega) ?_) | (refine ifI (fun hc => ?_) (fun hc => ?_) <;> first | (exfalso; omega) | skip) | (first | (apply hK; clear hK K) | ((iterate 1 (clear hK K)); apply hK; clear hK K) | ((iterate 2 (clear hK K)); apply hK; clear hK K) | ((iterate 3 (clear hK K)); apply hK; clear hK K) | ((iterate 4 (clear hK K)); apply hK; clear hK K) | ((iterate 5 (clear hK K)); apply hK; clear hK K))
        refine ret_pure ?_; simp only [resL_tmp, resL_nil, tupOf, go_sem, ↓reduceIte, reduceCtorEq, Nat.reduceAdd, Nat.reduceMul, Nat.reduceSub, Nat.reduceLT, Nat.reduceLeDiff, Nat.reduceEqDiff, Nat.reduceBEq, Nat.reduceBneDiff, Int.reduceToNat, Int.reduceEq, hD]
    · rw [if_neg (fun x => h2 x.1)]
      generalize decide (sa.data.toList = [60]) = p1 at *
      generalize decide (sb.data.toList = [61]) = p2 at *
      cases p1 with
      | true =>
        refine Call.enter' (N := 40) (rs := [.tmp 4]) Tryz.func13 rfl rfl rfl (by decide) rfl ?_; simp only [argT]; have hD : (0 : Nat) = 0 := rfl
        repeat' first | (with_reducible refine And.intro (by omega) ?_) | (refine SW.seq_k fun K hK => ?_) | (refine SW.block ?_) | ((first | refine SW.region ?_ | refine SW.regionD (Checked.mixed Tryz.checked) (by kernel_rfl) ?_ | refine SW.cond ?_ | refine SW.skip ?_ | refine SW.exit ?_ | refine SW.ret ?_ | refine Call.of_pure (wa) ?_ | refine ⟨_, wa, ?_⟩ | refine Call.of_pure (wb) ?_ | refine ⟨_, wb, ?_⟩ | refine Call.of_pure (nb) ?_ | refine ⟨_, nb, ?_⟩ | (refine allF_i fun b hb => ?_; replace hD := And.intro hb hD; clear hb; try simp only [fresh_cons, fresh_nil, and_true, ne_eq, neF] at hD) | simp only [appK, appOsK]); try simp only [go_sem, ↓reduceIte, reduceCtorEq, Nat.reduceAdd, Nat.reduceMul, Nat.reduceSub, Nat.reduceLT, Nat.reduceLeDiff, Nat.reduceEqDiff, Nat.reduceBEq, Nat.reduceBneDiff, Int.reduceToNat, Int.reduceEq, hD, h2, e1, e2]) | (refine And.intro (by omega) ?_) | (refine ifI (fun hc => ?_) (fun hc => ?_) <;> first | (exfalso; omega) | skip) | (first | (apply hK; clear hK K) | ((iterate 1 (clear hK K)); apply hK; clear hK K) | ((iterate 2 (clear hK K)); apply hK; clear hK K) | ((iterate 3 (clear hK K)); apply hK; clear hK K) | ((iterate 4 (clear hK K)); apply hK; clear hK K) | ((iterate 5 (clear hK K)); apply hK; clear hK K))
        refine ret_pure ?_; simp only [resL_tmp, resL_nil, tupOf, go_sem, ↓reduceIte, reduceCtorEq, Nat.reduceAdd, Nat.reduceMul, Nat.reduceSub, Nat.reduceLT, Nat.reduceLeDiff, Nat.reduceEqDiff, Nat.reduceBEq, Nat.reduceBneDiff, Int.reduceToNat, Int.reduceEq, hD]
      | false =>
        refine Call.enter' (N := 40) (rs := [.tmp 4]) Tryz.func13 rfl rfl rfl (by decide) rfl ?_; simp only [argT]; have hD : (0 : Nat) = 0 := rfl
        repeat' first | (with_reducible refine And.intro (by omega) ?_) | (refine SW.seq_k fun K hK => ?_) | (refine SW.block ?_) | ((first | refine SW.region ?_ | refine SW.regionD (Checked.mixed Tryz.checked) (by kernel_rfl) ?_ | refine SW.cond ?_ | refine SW.skip ?_ | refine SW.exit ?_ | refine SW.ret ?_ | refine Call.of_pure (wa) ?_ | refine ⟨_, wa, ?_⟩ | refine Call.of_pure (wb) ?_ | refine ⟨_, wb, ?_⟩ | refine Call.of_pure (nb) ?_ | refine ⟨_, nb, ?_⟩ | (refine allF_i fun b hb => ?_; replace hD := And.intro hb hD; clear hb; try simp only [fresh_cons, fresh_nil, and_true, ne_eq, neF] at hD) | simp only [appK, appOsK]); try simp only [go_sem, ↓reduceIte, reduceCtorEq, Nat.reduceAdd, Nat.reduceMul, Nat.reduceSub, Nat.reduceLT, Nat.reduceLeDiff, Nat.reduceEqDiff, Nat.reduceBEq, Nat.reduceBneDiff, Int.reduceToNat, Int.reduceEq, hD, h2, e1, e2]) | (refine And.intro (by omega) ?_) | (refine ifI (fun hc => ?_) (fun hc => ?_) <;> first | (exfalso; omega) | skip) | (first | (apply hK; clear hK K) | ((iterate 1 (clear hK K)); apply hK; clear hK K) | ((iterate 2 (clear hK K)); apply hK; clear hK K) | ((iterate 3 (clear hK K)); apply hK; clear hK K) | ((iterate 4 (clear hK K)); apply hK; clear hK K) | ((iterate 5 (clear hK K)); apply hK; clear hK K))
        refine ret_pure ?_; simp only [resL_tmp, resL_nil, tupOf, go_sem, ↓reduceIte, reduceCtorEq, Nat.reduceAdd, Nat.reduceMul, Nat.reduceSub, Nat.reduceLT, Nat.reduceLeDiff, Nat.reduceEqDiff, Nat.reduceBEq, Nat.reduceBneDiff, Int.reduceToNat, Int.reduceEq, hD]
end Go.Proofs.YtajbifibhgppfaaGreatDoor
/- Contracts: Join of the program. -/
set_option linter.unusedSimpArgs false
set_option linter.unusedVariables false
set_option linter.unusedSectionVars false
namespace Go.Ab.A05
open Go Go.Ab Go.Ab.A01 Go.Proofs.YtajbifibhgppfaaGreatDoor
def glueT (a b : Tok) : Bool := glueS a.kind a.val.1 a.text.data.toList b.kind b.text.data.toList
def sepS : Option Tok → Tok → List UInt8
  | .none, _ => []
  | some a, t => if glueT a t = true then [32] else []
/-- The text of tokens. -/
def joinR : List Tok → List UInt8 → Option Tok → List UInt8
  | [], acc, _ => acc
  | t :: r, acc, last => if vTok t = true then joinR r ((acc ++ sepS last t) ++ t.text.data.toList) (some t) else joinR r acc last
def joinS (l : List Tok) : List UInt8 := joinR l [] .none
theorem vTok_ne {t : Tok} (h : vTok t = true) : 1 ≤ t.text.size := by
  unfold vTok vtok at h
  obtain ⟨c, r, e, _⟩ := token_head (of_decide_eq_true h)
  rw [← len_list, e, List.length_cons]
  omega
end Go.Ab.A05
namespace Go.Proofs.YtajbifibhgppfaaGreatDoor
open Go Go.Ab Go.Ab.A01 Go.Ab.A05
variable [Gl] [Tabs] [Syms]

theorem BH.front {b : Nat} {l : List UInt8} {h h0 : Heap} (hB : BH b l h h0) (x : Nat × Blk) (hx : fresh h x.1) : ∃ h2, BH b l h2 (x :: h0) ∧ h2.Perm (x :: h) := by
  rcases hB with ⟨rfl, rfl⟩ | ⟨hl, g, blk, hf, hg, hc, rfl⟩
  · exact ⟨_, .inl ⟨rfl, rfl⟩, List.Perm.swap ..⟩
  · refine ⟨_, .inr ⟨hl, g, blk, ⟨⟨fun e => hx.2.1.2 e, fun e => hx.2.1.1 e⟩, hf⟩, hg, hc, rfl⟩, ?_⟩
    exact (List.Perm.cons _ (List.Perm.swap ..)).trans (List.Perm.swap ..)
theorem Call.permP {f : FuncId} {args : List SV} {h h' : Heap} {Q : SV → Heap → Prop} (hc : Ab.Call Tryz.prog f args h' Q) (hp : h'.Perm h) : Ab.Call Tryz.prog f args h Q :=
  Call.perm hc (fun _ => hp.mem_iff) (fun hn => (hp.map _).nodup_iff.2 hn)
set_option maxHeartbeats 1000000 in
set_option maxRecDepth 20000 in
theorem blen_x {b : Nat} {l : List UInt8} {h h0 : Heap} (hB : BH b l h h0) (x : Nat) (kx : Blk) (hx : ¬ x = b) : Ab.Call Tryz.prog 12 [BP b] ((x, kx) :: h) (fun r h' => r = I64 l.length ∧ h' = (x, kx) :: h) := by
  rcases hB with ⟨rfl, rfl⟩ | ⟨hl, g, blk, hf, hg, hc, rfl⟩
  · refine Call.enter' (N := 8) (rs := [.tmp 2]) Tryz.func12 rfl rfl rfl (by decide) rfl ?_; simp only [argT]; have hD : (0 : Nat) = 0 := rfl
    repeat' first | (with_reducible refine And.intro (by omega) ?_) | (refine SW.seq_k fun K hK => ?_) | (refine SW.block ?_) | ((first | refine SW.region ?_ | refine SW.regionD (Checked.mixed Tryz.checked) (by kernel_rfl) ?_ | refine SW.cond ?_ | refine SW.skip ?_ | refine SW.exit ?_ | refine SW.ret ?_ | (refine allF_i fun b hb => ?_; replace hD := And.intro hb hD; clear hb; try simp only [fresh_cons, fresh_nil, and_true, ne_eq, neF] at hD) | simp only [appK, appOsK]); try simp only [go_sem, ↓reduceIte, reduceCtorEq, Nat.reduceAdd, Nat.reduceMul, Nat.reduceSub, Nat.reduceLT, Nat.reduceLeDiff, Nat.reduceEqDiff, Nat.reduceBEq, Nat.reduceBneDiff, Int.reduceToNat, Int.reduceEq, hD, hx]) | (refine And.intro (by omega) ?_) | (refine ifI (fun hc => ?_) (fun hc => ?_) <;> first | (exfalso; omega) | skip) | (first | (apply hK; clear hK K) | ((iterate 1 (clear hK K)); apply hK; clear hK K) | ((iterate 2 (clear hK K)); apply hK; clear hK K) | ((iterate 3 (clear hK K)); apply hK; clear hK K) | ((iterate 4 (clear hK K)); apply hK; clear hK K) | ((iterate 5 (clear hK K)); apply hK; clear hK K))
    refine retQ_ret ?_
    simp only [resL_tmp, resL_nil, tupOf, go_sem, ↓reduceIte, reduceCtorEq, Nat.reduceAdd, Nat.reduceMul, Nat.reduceSub, Nat.reduceLT, Nat.reduceLeDiff, Nat.reduceEqDiff, Nat.reduceBEq, Nat.reduceBneDiff, Int.reduceToNat, Int.reduceEq, hD]
  · refine Call.enter' (N := 8) (rs := [.tmp 2]) Tryz.func12 rfl rfl rfl (by decide) rfl ?_; simp only [argT]; have hD : (0 : Nat) = 0 := rfl
    repeat' first | (with_reducible refine And.intro (by omega) ?_) | (refine SW.seq_k fun K hK => ?_) | (refine SW.block ?_) | ((first | refine SW.region ?_ | refine SW.regionD (Checked.mixed Tryz.checked) (by kernel_rfl) ?_ | refine SW.cond ?_ | refine SW.skip ?_ | refine SW.exit ?_ | refine SW.ret ?_ | (refine allF_i fun b hb => ?_; replace hD := And.intro hb hD; clear hb; try simp only [fresh_cons, fresh_nil, and_true, ne_eq, neF] at hD) | simp only [appK, appOsK]); try simp only [go_sem, ↓reduceIte, reduceCtorEq, Nat.reduceAdd, Nat.reduceMul, Nat.reduceSub, Nat.reduceLT, Nat.reduceLeDiff, Nat.reduceEqDiff, Nat.reduceBEq, Nat.reduceBneDiff, Int.reduceToNat, Int.reduceEq, hD, hx]) | (refine And.intro (by omega) ?_) | (refine ifI (fun hc => ?_) (fun hc => ?_) <;> first | (exfalso; omega) | skip) | (first | (apply hK; clear hK K) | ((iterate 1 (clear hK K)); apply hK; clear hK K) | ((iterate 2 (clear hK K)); apply hK; clear hK K) | ((iterate 3 (clear hK K)); apply hK; clear hK K) | ((iterate 4 (clear hK K)); apply hK; clear hK K) | ((iterate 5 (clear hK K)); apply hK; clear hK K))
    refine retQ_ret ?_
    simp only [resL_tmp, resL_nil, tupOf, go_sem, ↓reduceIte, reduceCtorEq, Nat.reduceAdd, Nat.reduceMul, Nat.reduceSub, Nat.reduceLT, Nat.reduceLeDiff, Nat.reduceEqDiff, Nat.reduceBEq, Nat.reduceBneDiff, Int.reduceToNat, Int.reduceEq, hD]
theorem wstr_x {b : Nat} {l : List UInt8} {h h0 : Heap} (hB : BH b l h h0) (x : Nat) (kx : Blk) (hx : fresh h x) (hf0 : fresh h0 b) (s : ByteArray) (h1 : 1 ≤ s.size) (hs : l.length + s.size ≤ 1000000) :
    Ab.Call Tryz.prog 15 [BP b, Str s] ((x, kx) :: h) (fun r h' => r = .tup [I64 s.size, .sc .nilIface] ∧ BH b (l ++ s.data.toList) h' ((x, kx) :: h0)) := by
  obtain ⟨h2, h3, h4⟩ := hB.front (x, kx) hx
  have hxb : x ≠ b ∧ b ≠ x := by
    rcases hB with ⟨rfl, rfl⟩ | ⟨hl, g, blk, hf, hg, hc, rfl⟩
    · exact ⟨hx.1.2, hx.1.1⟩
    · exact ⟨hx.1.2, hx.1.1⟩
  exact Call.permP (wstr_c b l h2 ((x, kx) :: h0) h3 ⟨hxb, hf0⟩ s h1 hs) h4
theorem wbyte_x {b : Nat} {l : List UInt8} {h h0 : Heap} (hB : BH b l h h0) (hl : l ≠ []) (x : Nat) (kx : Blk) (hx : fresh h x) (hf0 : fresh h0 b) (c : UInt8) (hs : l.length ≤ 1000000) :
    Ab.Call Tryz.prog 14 [BP b, B8 c] ((x, kx) :: h) (fun r h' => r = .sc .nilIface ∧ BH b (l ++ [c]) h' ((x, kx) :: h0)) := by
  obtain ⟨h2, h3, h4⟩ := hB.front (x, kx) hx
  have hxb : x ≠ b ∧ b ≠ x := by
    rcases hB with ⟨rfl, rfl⟩ | ⟨hl, g, blk, hf, hg, hc, rfl⟩
    · exact ⟨hx.1.2, hx.1.1⟩
    · exact ⟨hx.1.2, hx.1.1⟩
  exact Call.permP (wbyte_c b l h2 ((x, kx) :: h0) h3 hl ⟨hxb, hf0⟩ c hs) h4

set_option maxHeartbeats 4000000 in
set_option maxRecDepth 20000 in
theorem join_p (l : List Tok) (hl : l.length ≤ 30) (hs : ∀ t ∈ l, t.text.size ≤ 1000 ∧ In64 t.val.2.1) : PCall Tryz.prog 6 [TS l] (Str (mkB (joinS l))) := by
  obtain ⟨R, hR⟩ : ∃ R, R = joinS l := ⟨_, rfl⟩
  rw [← hR]
  have hC0 : R = joinR (l.drop 0) [] .none := by rw [hR, List.drop_zero]; rfl
  clear hR
  refine Call.enter' (N := 30) (rs := [.tmp 2]) Tryz.func6 rfl rfl rfl (by decide) rfl ?_; simp only [argT]; have hD : (0 : Nat) = 0 := rfl
  repeat' first | (with_reducible refine And.intro (by omega) ?_) | (refine SW.seq_k fun K hK => ?_) | (refine SW.block ?_) | ((first | refine SW.region ?_ | refine SW.regionD (Checked.mixed Tryz.checked) (by kernel_rfl) ?_ | refine SW.cond ?_ | refine SW.skip ?_ | refine SW.exit ?_ | refine SW.ret ?_ | (refine allF_i fun b hb => ?_; replace hD := And.intro hb hD; clear hb; try simp only [fresh_cons, fresh_nil, and_true, ne_eq, neF] at hD) | simp only [appK, appOsK]); try simp only [go_sem, ↓reduceIte, reduceCtorEq, Nat.reduceAdd, Nat.reduceMul, Nat.reduceSub, Nat.reduceLT, Nat.reduceLeDiff, Nat.reduceEqDiff, Nat.reduceBEq, Nat.reduceBneDiff, Int.reduceToNat, Int.reduceEq, hD]) | (refine And.intro (by omega) ?_) | (refine ifI (fun hc => ?_) (fun hc => ?_) <;> first | (exfalso; omega) | skip) | (first | (apply hK; clear hK K) | ((iterate 1 (clear hK K)); apply hK; clear hK K) | ((iterate 2 (clear hK K)); apply hK; clear hK K) | ((iterate 3 (clear hK K)); apply hK; clear hK K) | ((iterate 4 (clear hK K)); apply hK; clear hK K) | ((iterate 5 (clear hK K)); apply hK; clear hK K))
  rename_i bb
  obtain ⟨b4, hb4e⟩ : ∃ x, x = b := ⟨_, rfl⟩
  subst hb4e
  have hb1 : ¬ bb = b4 := fun x => by have := hD.1; rw [this] at x; exact x
  have hb2 : ¬ b4 = bb := fun x => hb1 x.symm
  have hf0 : fresh [(b4, Blk.svs (tokC tok0))] bb := ⟨⟨hb2, hb1⟩, trivial⟩
  have hf1 : ∀ k : Blk, fresh [(b4, k)] bb := fun k => ⟨⟨hb2, hb1⟩, trivial⟩
  clear hD
  have hD : (0 : Nat) = 0 := rfl
  refine SW.le (St.le_perm (List.Perm.swap ..)) ?_
  obtain ⟨I, hI⟩ : ∃ I : Nat → St → Prop, ∀ k S, I k S ↔ (∃ (i : Nat) (acc : List UInt8) (last : Option Tok) (h : Heap), k = l.length - i ∧ i ≤ l.length ∧ acc.length ≤ 1001 * i ∧ R = joinR (l.drop i) acc last ∧ (acc = [] ↔ last = .none) ∧ BH bb acc h [(b4, .svs (tokC (last.getD tok0)))] ∧
    S = ⟨[(3, BP bb), (4, .op b4 0), (7, TS l), (8, I64 l.length), (9, I64 i)], h⟩) := ⟨fun k S => _, fun _ _ => Iff.rfl⟩
  refine SW.loop' I l.length ((hI _ _).2 ⟨0, [], .none, _, rfl, Nat.zero_le _, Nat.zero_le _, hC0, ⟨fun _ => rfl, fun _ => rfl⟩, .inl ⟨rfl, rfl⟩, rfl⟩) (by repeat' (first | exact rfl | exact trivial | exact int_eq (by omega) | exact int_eq (by (rw [i64_wrap] <;> omega)) | constructor)) ?_
  clear hC0 hf0
  intro k S hIn
  obtain ⟨i, acc, last, h, rfl, hi, hacc, hC, hlast, hB, rfl⟩ := (hI _ _).1 hIn
  clear hIn
  have ie : ((i : Nat) : Int).toNat = i := Int.toNat_natCast _
  have i0 : (0 : Int) ≤ ((i : Nat) : Int) := by omega
  by_cases hlt : i < l.length
  · have hli : ((i : Nat) : Int) < ((l.length : Nat) : Int) := by omega
    have w1 : IntKind.i64.wrap ((i : Int) + 1) = ((i + 1 : Nat) : Int) := by rw [i64_wrap (by omega) (by omega)]; omega
    have hg : l.getD i tok0 = l[i] := by simp [List.getD_eq_getElem?_getD, hlt]
    have hd : l.drop i = l.getD i tok0 :: l.drop (i + 1) := by rw [List.drop_eq_getElem_cons hlt, hg]
    have hsz : (l.getD i tok0).text.size ≤ 1000 ∧ In64 (l.getD i tok0).val.2.1 := by rw [hg]; exact hs _ (List.getElem_mem hlt)
    rw [hd] at hC
    obtain ⟨k, s, ⟨a, n, t⟩, ln, cl, ht⟩ : ∃ k s v ln cl, l.getD i tok0 = ⟨k, s, v, ln, cl⟩ := ⟨_, _, _, _, _, rfl⟩
    have tf : tokF l i = [I64 k, Str s, I64 a, I64 n, Str t, I64 ln, I64 cl] := by unfold tokF; rw [ht]; rfl
    rw [ht] at hC hsz
    simp only at hsz
    have tv := tvalid_p k s a n t ln cl (by omega) hsz.2
    have pc : joinR (⟨k, s, (a, n, t), ln, cl⟩ :: l.drop (i + 1)) acc last = if vtok k s (a, n, t) = true then joinR (l.drop (i + 1)) ((acc ++ sepS last ⟨k, s, (a, n, t), ln, cl⟩) ++ s.data.toList) (some ⟨k, s, (a, n, t), ln, cl⟩) else joinR (l.drop (i + 1)) acc last := rfl
    rw [pc] at hC
    have hsl : s.data.toList.length = s.size := Array.length_toList
    cases hv : vtok k s (a, n, t) with
    | false =>
      rw [hv] at tv
      rw [hv, if_neg (by simp)] at hC
      repeat' first | (with_reducible refine And.intro (by omega) ?_) | (refine SW.seq_k fun K hK => ?_) | (refine SW.block ?_) | ((first | refine SW.region ?_ | refine SW.regionD (Checked.mixed Tryz.checked) (by kernel_rfl) ?_ | refine SW.cond ?_ | refine SW.skip ?_ | refine SW.exit ?_ | refine SW.ret ?_ | refine Call.of_pure (tv) ?_ | refine ⟨_, tv, ?_⟩ | (refine allF_i fun b hb => ?_; replace hD := And.intro hb hD; clear hb; try simp only [fresh_cons, fresh_nil, and_true, ne_eq, neF] at hD) | simp only [appK, appOsK]); try simp only [go_sem, ↓reduceIte, reduceCtorEq, Nat.reduceAdd, Nat.reduceMul, Nat.reduceSub, Nat.reduceLT, Nat.reduceLeDiff, Nat.reduceEqDiff, Nat.reduceBEq, Nat.reduceBneDiff, Int.reduceToNat, Int.reduceEq, hD, hli, ie, i0, w1, tf]) | (refine And.intro (by omega) ?_) | (refine ifI (fun hc => ?_) (fun hc => ?_) <;> first | (exfalso; omega) | skip) | (first | (apply hK; clear hK K) | ((iterate 1 (clear hK K)); apply hK; clear hK K) | ((iterate 2 (clear hK K)); apply hK; clear hK K) | ((iterate 3 (clear hK K)); apply hK; clear hK K) | ((iterate 4 (clear hK K)); apply hK; clear hK K) | ((iterate 5 (clear hK K)); apply hK; clear hK K))
      refine Rnd.le (St.le_sublist (h' := h) (fun x hx => List.mem_cons_of_mem _ hx) (fun hn => by rw [List.map_cons, List.nodup_cons] at hn; exact hn.2)) ?_
      refine Rnd.sub (l.length - (i + 1)) (by omega) ((hI _ _).2 ⟨i + 1, acc, last, _, rfl, by omega, by omega, hC, hlast, hB, rfl⟩) (by repeat' (first | exact rfl | exact trivial | exact int_eq (by omega) | exact int_eq (by (rw [i64_wrap] <;> omega)) | constructor))
    | true =>
      rw [hv] at tv
      rw [hv, if_pos rfl] at hC
      have hne : 1 ≤ s.size := vTok_ne (t := ⟨k, s, (a, n, t), ln, cl⟩) hv
      have hne0 : s.data.toList ≠ [] := fun e => by rw [e] at hsl; simp at hsl; omega
      rcases hlc : last with _ | ⟨ka, sa, va, la, ca⟩
      · have ha0 := hlast.2 hlc
        subst ha0 hlc
        rcases hB with ⟨_, rfl⟩ | ⟨x, _⟩
        · have hB : BH bb [] ((bb, Blk.svs [.sc (.pointer none), .nt]) :: [(b4, .svs [I64 0, Str ⟨#[]⟩, I64 0, I64 0, Str ⟨#[]⟩, I64 0, I64 0])]) [(b4, .svs [I64 0, Str ⟨#[]⟩, I64 0, I64 0, Str ⟨#[]⟩, I64 0, I64 0])] := .inl ⟨rfl, rfl⟩
          have hl0 : ¬ (0 : Int) < 0 := by decide
          have te : tokC tok0 = [I64 0, Str ⟨#[]⟩, I64 0, I64 0, Str ⟨#[]⟩, I64 0, I64 0] := rfl
          have te2 : tokC ((Option.none : Option Tok).getD tok0) = [I64 0, Str ⟨#[]⟩, I64 0, I64 0, Str ⟨#[]⟩, I64 0, I64 0] := rfl
          have hls : ([] : List UInt8).length + s.size ≤ 1000000 := by simp only [List.length_nil]; omega
          repeat' first | ((with_reducible refine Call.mono (blen_x hB _ _ ?_) ?_); (intro e; rw [e] at hD; simp at hD); intro r h' hx; obtain ⟨rfl, rfl⟩ := hx) | ((with_reducible refine Call.mono (wstr_x hB _ _ ?_ (hf1 _) s hne hls) ?_); (refine ⟨⟨?_, ?_⟩, ⟨?_, ?_⟩, trivial⟩ <;> (intro e; rw [e] at hD; simp at hD)); intro r h' hx; obtain ⟨rfl, hB2⟩ := hx; refine stop_i ?_) | (with_reducible refine And.intro (by omega) ?_) | (refine SW.seq_k fun K hK => ?_) | (refine SW.block ?_) | ((first | refine SW.region ?_ | refine SW.regionD (Checked.mixed Tryz.checked) (by kernel_rfl) ?_ | refine SW.cond ?_ | refine SW.skip ?_ | refine SW.exit ?_ | refine SW.ret ?_ | refine Call.of_pure (tv) ?_ | refine ⟨_, tv, ?_⟩ | (refine allF_i fun b hb => ?_; replace hD := And.intro hb hD; clear hb; try simp only [fresh_cons, fresh_nil, and_true, ne_eq, neF] at hD) | simp only [appK, appOsK]); try simp only [go_sem, ↓reduceIte, reduceCtorEq, Nat.reduceAdd, Nat.reduceMul, Nat.reduceSub, Nat.reduceLT, Nat.reduceLeDiff, Nat.reduceEqDiff, Nat.reduceBEq, Nat.reduceBneDiff, Int.reduceToNat, Int.reduceEq, hD, hli, ie, i0, w1, tf, hl0, te, te2]) | (refine And.intro (by omega) ?_) | (refine ifI (fun hc => ?_) (fun hc => ?_) <;> first | (exfalso; omega) | skip) | (first | (apply hK; clear hK K) | ((iterate 1 (clear hK K)); apply hK; clear hK K) | ((iterate 2 (clear hK K)); apply hK; clear hK K) | ((iterate 3 (clear hK K)); apply hK; clear hK K) | ((iterate 4 (clear hK K)); apply hK; clear hK K) | ((iterate 5 (clear hK K)); apply hK; clear hK K))
          refine Stop.mk ?_
          obtain ⟨L2, hL2⟩ : ∃ L, L = ([] ++ sepS .none ⟨k, s, (a, n, t), ln, cl⟩) ++ s.data.toList := ⟨_, rfl⟩
          have hE : ([] : List UInt8) ++ s.data.toList = L2 := hL2.symm
          rw [hE] at hB2
          rw [← hL2] at hC
          have hL0 : L2 ≠ [] := fun e => by rw [← hE] at e; exact hne0 e
          have hLl : L2.length ≤ 1001 * (i + 1) := by rw [← hE, List.nil_append, hsl]; omega
          rcases hB2 with ⟨e, _⟩ | ⟨hn2, g2, blk2, hfg, hgb, hgc, rfl⟩
          · exact absurd e hL0
          · have e1 : ¬ bb = b := fun e => by rw [e] at hD; simp at hD
            have e2 : ¬ b = b4 := fun e => by rw [e] at hD; simp at hD
            have e3 : ¬ bb = g2 := fun e => hgb e.symm
            have e4 : ¬ g2 = b := hfg.1.2
            have e5 : ¬ g2 = b4 := hfg.2.1.2
            have e6 : ¬ b = g2 := hfg.1.1
            have e7 : ¬ b4 = g2 := hfg.2.1.1
            repeat' first | (with_reducible refine And.intro (by omega) ?_) | (refine SW.seq_k fun K hK => ?_) | (refine SW.block ?_) | ((first | refine SW.region ?_ | refine SW.regionD (Checked.mixed Tryz.checked) (by kernel_rfl) ?_ | refine SW.cond ?_ | refine SW.skip ?_ | refine SW.exit ?_ | refine SW.ret ?_ | (refine allF_i fun b hb => ?_; replace hD := And.intro hb hD; clear hb; try simp only [fresh_cons, fresh_nil, and_true, ne_eq, neF] at hD) | simp only [appK, appOsK]); try simp only [go_sem, ↓reduceIte, reduceCtorEq, Nat.reduceAdd, Nat.reduceMul, Nat.reduceSub, Nat.reduceLT, Nat.reduceLeDiff, Nat.reduceEqDiff, Nat.reduceBEq, Nat.reduceBneDiff, Int.reduceToNat, Int.reduceEq, hD, hli, ie, i0, w1, tf, e1, e2, e3, e4, e5, e6, e7, hb1, hb2]) | (refine And.intro (by omega) ?_) | (refine ifI (fun hc => ?_) (fun hc => ?_) <;> first | (exfalso; omega) | skip) | (first | (apply hK; clear hK K) | ((iterate 1 (clear hK K)); apply hK; clear hK K) | ((iterate 2 (clear hK K)); apply hK; clear hK K) | ((iterate 3 (clear hK K)); apply hK; clear hK K) | ((iterate 4 (clear hK K)); apply hK; clear hK K) | ((iterate 5 (clear hK K)); apply hK; clear hK K))
            refine Rnd.le (St.le_sublist (h' := [(bb, .svs [.op bb 0, .ot g2 L2.length 5]), (g2, blk2), (b4, .svs (tokC ⟨k, s, (a, n, t), ln, cl⟩))]) (fun x hx => ?_) (fun hn => by simp [e3, hb1, e5])) ?_
            · simp only [List.mem_cons, List.not_mem_nil, or_false] at hx ⊢
              rcases hx with rfl | rfl | rfl
              · exact .inl rfl
              · exact .inr (.inl rfl)
              · exact .inr (.inr (.inr rfl))
            · refine Rnd.sub (l.length - (i + 1)) (by omega) ((hI _ _).2 ⟨i + 1, L2, some ⟨k, s, (a, n, t), ln, cl⟩, _, rfl, by omega, hLl, hC, ⟨fun x => absurd x hL0, fun x => by cases x⟩, .inr ⟨hL0, g2, blk2, ⟨⟨e7, e5⟩, trivial⟩, hgb, hgc, rfl⟩, rfl⟩) (by repeat' (first | exact rfl | exact trivial | exact int_eq (by omega) | exact int_eq (by (rw [i64_wrap] <;> omega)) | constructor))
        · exact absurd rfl x
      · subst hlc
        rcases hB with ⟨x, _⟩ | ⟨hacc0, g, blk, hf, hg, hc, rfl⟩
        · exact absurd (hlast.1 x) (by simp)
        · have hB : BH bb acc ((bb, Blk.svs [.op bb 0, .ot g acc.length 5]) :: (g, blk) :: [(b4, .svs [I64 ka, Str sa, I64 va.1, I64 va.2.1, Str va.2.2, I64 la, I64 ca])]) [(b4, .svs [I64 ka, Str sa, I64 va.1, I64 va.2.1, Str va.2.2, I64 la, I64 ca])] := .inr ⟨hacc0, g, blk, hf, hg, hc, rfl⟩
          have te : tokC ⟨ka, sa, va, la, ca⟩ = [I64 ka, Str sa, I64 va.1, I64 va.2.1, Str va.2.2, I64 la, I64 ca] := rfl
          have te2 : tokC ((some (⟨ka, sa, va, la, ca⟩ : Tok)).getD tok0) = [I64 ka, Str sa, I64 va.1, I64 va.2.1, Str va.2.2, I64 la, I64 ca] := rfl
          have hap : 1 ≤ acc.length := by
            cases acc with
            | nil => exact absurd rfl hacc0
            | cons x y => simp
          have hla : (0 : Int) < ((acc.length : Nat) : Int) := by omega
          have hg4 : ¬ g = b4 := hf.1.2
          have hgb1 : ¬ bb = g := fun e => hg e.symm
          have gl := glued_c ka k sa s va (a, n, t) la ln ca cl hne
          have hs32 : acc.length ≤ 1000000 := by omega
          have hls : acc.length + s.size ≤ 1000000 := by omega
          cases q : glueT ⟨ka, sa, va, la, ca⟩ ⟨k, s, (a, n, t), ln, cl⟩ with
          | true =>
            have q2 : glueS ka va.1 sa.data.toList k s.data.toList = true := q
            rw [q2] at gl
            have hsep : sepS (some ⟨ka, sa, va, la, ca⟩) ⟨k, s, (a, n, t), ln, cl⟩ = [32] := by
              show (if glueT _ _ = true then [32] else []) = [32]
              rw [if_pos q]
            rw [hsep] at hC
            have hwb : ∀ (x : Nat) (kx : Blk), fresh ((bb, Blk.svs [.op bb 0, .ot g acc.length 5]) :: (g, blk) :: [(b4, .svs [I64 ka, Str sa, I64 va.1, I64 va.2.1, Str va.2.2, I64 la, I64 ca])]) x → Ab.Call Tryz.prog 14 [BP bb, .sc (.int .u8 32)] ((x, kx) :: (bb, Blk.svs [.op bb 0, .ot g acc.length 5]) :: (g, blk) :: [(b4, .svs [I64 ka, Str sa, I64 va.1, I64 va.2.1, Str va.2.2, I64 la, I64 ca])]) (fun r h' => r = .sc .nilIface ∧ BH bb (acc ++ [32]) h' ((x, kx) :: [(b4, .svs [I64 ka, Str sa, I64 va.1, I64 va.2.1, Str va.2.2, I64 la, I64 ca])])) :=
              fun x kx hx => wbyte_x hB hacc0 x kx hx (hf1 _) 32 hs32
            repeat' first | ((with_reducible refine Call.mono (blen_x hB _ _ ?_) ?_); (intro e; rw [e] at hD; simp at hD); intro r h' hx; obtain ⟨rfl, rfl⟩ := hx) | ((with_reducible refine Call.mono (hwb _ _ ?_) ?_); (refine ⟨⟨?_, ?_⟩, ⟨?_, ?_⟩, ⟨?_, ?_⟩, trivial⟩ <;> (intro e; rw [e] at hD; simp at hD)); intro r h' hx; obtain ⟨rfl, hB3⟩ := hx; refine stop_i ?_) | (with_reducible refine And.intro (by omega) ?_) | (refine SW.seq_k fun K hK => ?_) | (refine SW.block ?_) | ((first | refine SW.region ?_ | refine SW.regionD (Checked.mixed Tryz.checked) (by kernel_rfl) ?_ | refine SW.cond ?_ | refine SW.skip ?_ | refine SW.exit ?_ | refine SW.ret ?_ | refine Call.of_pure (tv) ?_ | refine ⟨_, tv, ?_⟩ | refine Call.of_pure (gl) ?_ | refine ⟨_, gl, ?_⟩ | (refine allF_i fun b hb => ?_; replace hD := And.intro hb hD; clear hb; try simp only [fresh_cons, fresh_nil, and_true, ne_eq, neF] at hD) | simp only [appK, appOsK]); try simp only [go_sem, ↓reduceIte, reduceCtorEq, Nat.reduceAdd, Nat.reduceMul, Nat.reduceSub, Nat.reduceLT, Nat.reduceLeDiff, Nat.reduceEqDiff, Nat.reduceBEq, Nat.reduceBneDiff, Int.reduceToNat, Int.reduceEq, hD, hli, ie, i0, w1, tf, hla, te, te2, hg4, hgb1, hb1, hb2]) | (refine And.intro (by omega) ?_) | (refine ifI (fun hc => ?_) (fun hc => ?_) <;> first | (exfalso; omega) | skip) | (first | (apply hK; clear hK K) | ((iterate 1 (clear hK K)); apply hK; clear hK K) | ((iterate 2 (clear hK K)); apply hK; clear hK K) | ((iterate 3 (clear hK K)); apply hK; clear hK K) | ((iterate 4 (clear hK K)); apply hK; clear hK K) | ((iterate 5 (clear hK K)); apply hK; clear hK K))
            refine Stop.mk ?_
            rcases hB3 with ⟨e, _⟩ | ⟨hn3, g3, blk3, hfg3, hgb3, hgc3, rfl⟩
            · exact absurd (List.append_eq_nil_iff.1 e).2 (by simp)
            · have hB4 : BH bb (acc ++ [32]) ((bb, Blk.svs [.op bb 0, .ot g3 (acc ++ [32]).length 5]) :: (g3, blk3) :: (b, .svs [I64 k, Str s, I64 a, I64 n, Str t, I64 ln, I64 cl]) :: [(b4, .svs [I64 ka, Str sa, I64 va.1, I64 va.2.1, Str va.2.2, I64 la, I64 ca])]) ((b, .svs [I64 k, Str s, I64 a, I64 n, Str t, I64 ln, I64 cl]) :: [(b4, .svs [I64 ka, Str sa, I64 va.1, I64 va.2.1, Str va.2.2, I64 la, I64 ca])]) := .inr ⟨hn3, g3, blk3, hfg3, hgb3, hgc3, rfl⟩
              have e1 : ¬ bb = b := fun e => by rw [e] at hD; simp at hD
              have e1' : ¬ b = bb := fun e => e1 e.symm
              have e3 : ¬ bb = g3 := fun e => hgb3 e.symm
              have e4 : ¬ g3 = b := hfg3.1.2
              have hff : fresh ((b, Blk.svs [I64 k, Str s, I64 a, I64 n, Str t, I64 ln, I64 cl]) :: [(b4, .svs [I64 ka, Str sa, I64 va.1, I64 va.2.1, Str va.2.2, I64 la, I64 ca])]) bb := ⟨⟨e1', e1⟩, hf1 _⟩
              have hls2 : (acc ++ [32]).length + s.size ≤ 1000000 := by rw [List.length_append]; simp only [List.length_cons, List.length_nil]; omega
              have hlen3 : acc.length + 1 = (acc ++ [32]).length := by rw [List.length_append]; rfl
              have hws := wstr_c bb (acc ++ [32]) _ _ hB4 hff s hne hls2
              generalize (acc ++ [32]).length = m3 at *
              repeat' first | ((with_reducible refine Call.mono hws ?_); intro r h' hx; obtain ⟨rfl, hB2⟩ := hx; refine stop_i ?_) | (with_reducible refine And.intro (by omega) ?_) | (refine SW.seq_k fun K hK => ?_) | (refine SW.block ?_) | ((first | refine SW.region ?_ | refine SW.regionD (Checked.mixed Tryz.checked) (by kernel_rfl) ?_ | refine SW.cond ?_ | refine SW.skip ?_ | refine SW.exit ?_ | refine SW.ret ?_ | (refine allF_i fun b hb => ?_; replace hD := And.intro hb hD; clear hb; try simp only [fresh_cons, fresh_nil, and_true, ne_eq, neF] at hD) | simp only [appK, appOsK]); try simp only [go_sem, ↓reduceIte, reduceCtorEq, Nat.reduceAdd, Nat.reduceMul, Nat.reduceSub, Nat.reduceLT, Nat.reduceLeDiff, Nat.reduceEqDiff, Nat.reduceBEq, Nat.reduceBneDiff, Int.reduceToNat, Int.reduceEq, hD, hli, ie, i0, w1, tf, e1, e3, e4, hlen3]) | (refine And.intro (by omega) ?_) | (refine ifI (fun hc => ?_) (fun hc => ?_) <;> first | (exfalso; omega) | skip) | (first | (apply hK; clear hK K) | ((iterate 1 (clear hK K)); apply hK; clear hK K) | ((iterate 2 (clear hK K)); apply hK; clear hK K) | ((iterate 3 (clear hK K)); apply hK; clear hK K) | ((iterate 4 (clear hK K)); apply hK; clear hK K) | ((iterate 5 (clear hK K)); apply hK; clear hK K))
              refine Stop.mk ?_
              obtain ⟨L2, hL2⟩ : ∃ L, L = acc ++ [32] ++ s.data.toList := ⟨_, rfl⟩
              rw [← hL2] at hC hB2
              have hL0 : L2 ≠ [] := fun e => by rw [hL2] at e; exact hne0 (List.append_eq_nil_iff.1 e).2
              have hLl : L2.length ≤ 1001 * (i + 1) := by
                rw [hL2, List.length_append, List.length_append, hsl]
                simp only [List.length_cons, List.length_nil]
                omega
              rcases hB2 with ⟨e, _⟩ | ⟨hn2, g2, blk2, hfg, hgb, hgc, rfl⟩
              · exact absurd e hL0
              · have e1 : ¬ bb = b := fun e => by rw [e] at hD; simp at hD
                have e2 : ¬ b = b4 := fun e => by rw [e] at hD; simp at hD
                have e3 : ¬ bb = g2 := fun e => hgb e.symm
                have e4 : ¬ g2 = b := hfg.1.2
                have e5 : ¬ g2 = b4 := hfg.2.1.2
                have e6 : ¬ b = g2 := hfg.1.1
                have e7 : ¬ b4 = g2 := hfg.2.1.1
                repeat' first | (with_reducible refine And.intro (by omega) ?_) | (refine SW.seq_k fun K hK => ?_) | (refine SW.block ?_) | ((first | refine SW.region ?_ | refine SW.regionD (Checked.mixed Tryz.checked) (by kernel_rfl) ?_ | refine SW.cond ?_ | refine SW.skip ?_ | refine SW.exit ?_ | refine SW.ret ?_ | (refine allF_i fun b hb => ?_; replace hD := And.intro hb hD; clear hb; try simp only [fresh_cons, fresh_nil, and_true, ne_eq, neF] at hD) | simp only [appK, appOsK]); try simp only [go_sem, ↓reduceIte, reduceCtorEq, Nat.reduceAdd, Nat.reduceMul, Nat.reduceSub, Nat.reduceLT, Nat.reduceLeDiff, Nat.reduceEqDiff, Nat.reduceBEq, Nat.reduceBneDiff, Int.reduceToNat, Int.reduceEq, hD, hli, ie, i0, w1, tf, e1, e2, e3, e4, e5, e6, e7, hb1, hb2]) | (refine And.intro (by omega) ?_) | (refine ifI (fun hc => ?_) (fun hc => ?_) <;> first | (exfalso; omega) | skip) | (first | (apply hK; clear hK K) | ((iterate 1 (clear hK K)); apply hK; clear hK K) | ((iterate 2 (clear hK K)); apply hK; clear hK K) | ((iterate 3 (clear hK K)); apply hK; clear hK K) | ((iterate 4 (clear hK K)); apply hK; clear hK K) | ((iterate 5 (clear hK K)); apply hK; clear hK K))
                refine Rnd.le (St.le_sublist (h' := [(bb, .svs [.op bb 0, .ot g2 L2.length 5]), (g2, blk2), (b4, .svs (tokC ⟨k, s, (a, n, t), ln, cl⟩))]) (fun x hx => ?_) (fun hn => by simp [e3, hb1, e5])) ?_
                · simp only [List.mem_cons, List.not_mem_nil, or_false] at hx ⊢
                  rcases hx with rfl | rfl | rfl
                  · exact .inl rfl
                  · exact .inr (.inl rfl)
                  · exact .inr (.inr (.inr rfl))
                · refine Rnd.sub (l.length - (i + 1)) (by omega) ((hI _ _).2 ⟨i + 1, L2, some ⟨k, s, (a, n, t), ln, cl⟩, _, rfl, by omega, hLl, hC, ⟨fun x => absurd x hL0, fun x => by cases x⟩, .inr ⟨hL0, g2, blk2, ⟨⟨e7, e5⟩, trivial⟩, hgb, hgc, rfl⟩, rfl⟩) (by repeat' (first | exact rfl | exact trivial | exact int_eq (by omega) | exact int_eq (by (rw [i64_wrap] <;> omega)) | constructor))
          | false =>
            have q2 : glueS ka va.1 sa.data.toList k s.data.toList = false := q
            rw [q2] at gl
            have hsep : sepS (some ⟨ka, sa, va, la, ca⟩) ⟨k, s, (a, n, t), ln, cl⟩ = [] := by
              show (if glueT _ _ = true then [32] else []) = []
              rw [if_neg (by rw [q]; simp)]
            rw [hsep, List.append_nil] at hC
            repeat' first | ((with_reducible refine Call.mono (blen_x hB _ _ ?_) ?_); (intro e; rw [e] at hD; simp at hD); intro r h' hx; obtain ⟨rfl, rfl⟩ := hx) | ((with_reducible refine Call.mono (wstr_x hB _ _ ?_ (hf1 _) s hne hls) ?_); (refine ⟨⟨?_, ?_⟩, ⟨?_, ?_⟩, ⟨?_, ?_⟩, trivial⟩ <;> (intro e; rw [e] at hD; simp at hD)); intro r h' hx; obtain ⟨rfl, hB2⟩ := hx; refine stop_i ?_) | (with_reducible refine And.intro (by omega) ?_) | (refine SW.seq_k fun K hK => ?_) | (refine SW.block ?_) | ((first | refine SW.region ?_ | refine SW.regionD (Checked.mixed Tryz.checked) (by kernel_rfl) ?_ | refine SW.cond ?_ | refine SW.skip ?_ | refine SW.exit ?_ | refine SW.ret ?_ | refine Call.of_pure (tv) ?_ | refine ⟨_, tv, ?_⟩ | refine Call.of_pure (gl) ?_ | refine ⟨_, gl, ?_⟩ | (refine allF_i fun b hb => ?_; replace hD := And.intro hb hD; clear hb; try simp only [fresh_cons, fresh_nil, and_true, ne_eq, neF] at hD) | simp only [appK, appOsK]); try simp only [go_sem, ↓reduceIte, reduceCtorEq, Nat.reduceAdd, Nat.reduceMul, Nat.reduceSub, Nat.reduceLT, Nat.reduceLeDiff, Nat.reduceEqDiff, Nat.reduceBEq, Nat.reduceBneDiff, Int.reduceToNat, Int.reduceEq, hD, hli, ie, i0, w1, tf, hla, te, te2, hg4, hgb1, hb1, hb2]) | (refine And.intro (by omega) ?_) | (refine ifI (fun hc => ?_) (fun hc => ?_) <;> first | (exfalso; omega) | skip) | (first | (apply hK; clear hK K) | ((iterate 1 (clear hK K)); apply hK; clear hK K) | ((iterate 2 (clear hK K)); apply hK; clear hK K) | ((iterate 3 (clear hK K)); apply hK; clear hK K) | ((iterate 4 (clear hK K)); apply hK; clear hK K) | ((iterate 5 (clear hK K)); apply hK; clear hK K))
            refine Stop.mk ?_
            obtain ⟨L2, hL2⟩ : ∃ L, L = acc ++ s.data.toList := ⟨_, rfl⟩
            rw [← hL2] at hC hB2
            have hL0 : L2 ≠ [] := fun e => by rw [hL2] at e; exact hne0 (List.append_eq_nil_iff.1 e).2
            have hLl : L2.length ≤ 1001 * (i + 1) := by rw [hL2, List.length_append, hsl]; omega
            rcases hB2 with ⟨e, _⟩ | ⟨hn2, g2, blk2, hfg, hgb, hgc, rfl⟩
            · exact absurd e hL0
            · have e1 : ¬ bb = b := fun e => by rw [e] at hD; simp at hD
              have e2 : ¬ b = b4 := fun e => by rw [e] at hD; simp at hD
              have e3 : ¬ bb = g2 := fun e => hgb e.symm
              have e4 : ¬ g2 = b := hfg.1.2
              have e5 : ¬ g2 = b4 := hfg.2.1.2
              have e6 : ¬ b = g2 := hfg.1.1
              have e7 : ¬ b4 = g2 := hfg.2.1.1
              repeat' first | (with_reducible refine And.intro (by omega) ?_) | (refine SW.seq_k fun K hK => ?_) | (refine SW.block ?_) | ((first | refine SW.region ?_ | refine SW.regionD (Checked.mixed Tryz.checked) (by kernel_rfl) ?_ | refine SW.cond ?_ | refine SW.skip ?_ | refine SW.exit ?_ | refine SW.ret ?_ | (refine allF_i fun b hb => ?_; replace hD := And.intro hb hD; clear hb; try simp only [fresh_cons, fresh_nil, and_true, ne_eq, neF] at hD) | simp only [appK, appOsK]); try simp only [go_sem, ↓reduceIte, reduceCtorEq, Nat.reduceAdd, Nat.reduceMul, Nat.reduceSub, Nat.reduceLT, Nat.reduceLeDiff, Nat.reduceEqDiff, Nat.reduceBEq, Nat.reduceBneDiff, Int.reduceToNat, Int.reduceEq, hD, hli, ie, i0, w1, tf, e1, e2, e3, e4, e5, e6, e7, hb1, hb2]) | (refine And.intro (by omega) ?_) | (refine ifI (fun hc => ?_) (fun hc => ?_) <;> first | (exfalso; omega) | skip) | (first | (apply hK; clear hK K) | ((iterate 1 (clear hK K)); apply hK; clear hK K) | ((iterate 2 (clear hK K)); apply hK; clear hK K) | ((iterate 3 (clear hK K)); apply hK; clear hK K) | ((iterate 4 (clear hK K)); apply hK; clear hK K) | ((iterate 5 (clear hK K)); apply hK; clear hK K))
              refine Rnd.le (St.le_sublist (h' := [(bb, .svs [.op bb 0, .ot g2 L2.length 5]), (g2, blk2), (b4, .svs (tokC ⟨k, s, (a, n, t), ln, cl⟩))]) (fun x hx => ?_) (fun hn => by simp [e3, hb1, e5])) ?_
              · simp only [List.mem_cons, List.not_mem_nil, or_false] at hx ⊢
                rcases hx with rfl | rfl | rfl
                · exact .inl rfl
                · exact .inr (.inl rfl)
                · exact .inr (.inr (.inr rfl))
              · refine Rnd.sub (l.length - (i + 1)) (by omega) ((hI _ _).2 ⟨i + 1, L2, some ⟨k, s, (a, n, t), ln, cl⟩, _, rfl, by omega, hLl, hC, ⟨fun x => absurd x hL0, fun x => by cases x⟩, .inr ⟨hL0, g2, blk2, ⟨⟨e7, e5⟩, trivial⟩, hgb, hgc, rfl⟩, rfl⟩) (by repeat' (first | exact rfl | exact trivial | exact int_eq (by omega) | exact int_eq (by (rw [i64_wrap] <;> omega)) | constructor))
  · have hli : ¬ ((i : Nat) : Int) < ((l.length : Nat) : Int) := by omega
    rw [List.drop_of_length_le (by omega)] at hC
    have hC2 : R = acc := hC
    subst hC2
    rcases hB with ⟨rfl, rfl⟩ | ⟨hacc0, g, blk, hf, hg, hc, rfl⟩
    · repeat' first | ((with_reducible refine Call.mono (string_n bb _ _) ?_); intro r h' hx; obtain ⟨rfl, rfl⟩ := hx) | (with_reducible refine And.intro (by omega) ?_) | (refine SW.seq_k fun K hK => ?_) | (refine SW.block ?_) | ((first | refine SW.region ?_ | refine SW.regionD (Checked.mixed Tryz.checked) (by kernel_rfl) ?_ | refine SW.cond ?_ | refine SW.skip ?_ | refine SW.exit ?_ | refine SW.ret ?_ | (refine allF_i fun b hb => ?_; replace hD := And.intro hb hD; clear hb; try simp only [fresh_cons, fresh_nil, and_true, ne_eq, neF] at hD) | simp only [appK, appOsK]); try simp only [go_sem, ↓reduceIte, reduceCtorEq, Nat.reduceAdd, Nat.reduceMul, Nat.reduceSub, Nat.reduceLT, Nat.reduceLeDiff, Nat.reduceEqDiff, Nat.reduceBEq, Nat.reduceBneDiff, Int.reduceToNat, Int.reduceEq, hD, hli]) | (refine And.intro (by omega) ?_) | (refine ifI (fun hc => ?_) (fun hc => ?_) <;> first | (exfalso; omega) | skip) | (first | (apply hK; clear hK K) | ((iterate 1 (clear hK K)); apply hK; clear hK K) | ((iterate 2 (clear hK K)); apply hK; clear hK K) | ((iterate 3 (clear hK K)); apply hK; clear hK K) | ((iterate 4 (clear hK K)); apply hK; clear hK K) | ((iterate 5 (clear hK K)); apply hK; clear hK K))
      refine ret_pure ?_; simp only [resL_tmp, resL_nil, tupOf, go_sem, ↓reduceIte, reduceCtorEq, Nat.reduceAdd, Nat.reduceMul, Nat.reduceSub, Nat.reduceLT, Nat.reduceLeDiff, Nat.reduceEqDiff, Nat.reduceBEq, Nat.reduceBneDiff, Int.reduceToNat, Int.reduceEq, hD]
      rfl
    · have hls : R.length ≤ 1000000 := by omega
      repeat' first | ((with_reducible refine Call.mono (string_c bb g _ blk R hacc0 hls hc _) ?_); intro r h' hx; obtain ⟨rfl, rfl⟩ := hx) | (with_reducible refine And.intro (by omega) ?_) | (refine SW.seq_k fun K hK => ?_) | (refine SW.block ?_) | ((first | refine SW.region ?_ | refine SW.regionD (Checked.mixed Tryz.checked) (by kernel_rfl) ?_ | refine SW.cond ?_ | refine SW.skip ?_ | refine SW.exit ?_ | refine SW.ret ?_ | (refine allF_i fun b hb => ?_; replace hD := And.intro hb hD; clear hb; try simp only [fresh_cons, fresh_nil, and_true, ne_eq, neF] at hD) | simp only [appK, appOsK]); try simp only [go_sem, ↓reduceIte, reduceCtorEq, Nat.reduceAdd, Nat.reduceMul, Nat.reduceSub, Nat.reduceLT, Nat.reduceLeDiff, Nat.reduceEqDiff, Nat.reduceBEq, Nat.reduceBneDiff, Int.reduceToNat, Int.reduceEq, hD, hli]) | (refine And.intro (by omega) ?_) | (refine ifI (fun hc => ?_) (fun hc => ?_) <;> first | (exfalso; omega) | skip) | (first | (apply hK; clear hK K) | ((iterate 1 (clear hK K)); apply hK; clear hK K) | ((iterate 2 (clear hK K)); apply hK; clear hK K) | ((iterate 3 (clear hK K)); apply hK; clear hK K) | ((iterate 4 (clear hK K)); apply hK; clear hK K) | ((iterate 5 (clear hK K)); apply hK; clear hK K))
      refine ret_pure ?_; simp only [resL_tmp, resL_nil, tupOf, go_sem, ↓reduceIte, reduceCtorEq, Nat.reduceAdd, Nat.reduceMul, Nat.reduceSub, Nat.reduceLT, Nat.reduceLeDiff, Nat.reduceEqDiff, Nat.reduceBEq, Nat.reduceBneDiff, Int.reduceToNat, Int.reduceEq, hD]
      rfl
end Go.Proofs.YtajbifibhgppfaaGreatDoor
/- awake answers true. -/
set_option linter.unusedSimpArgs false
set_option linter.unusedVariables false
set_option linter.unusedSectionVars false
namespace Go.Proofs.YtajbifibhgppfaaGreatDoor
open Go Go.Ab Go.Ab.A01 Go.Ab.A05
variable [Gl] [Tabs] [Syms]
def aw1 : ByteArray := ⟨#[102, 100, 32, 102, 32, 114, 58, 32, 97, 32, 45, 62, 32, 98, 59, 32, 35, 32, 107, 101, 121]⟩
def aw2 : ByteArray := ⟨#[48, 53]⟩
def aw3 : ByteArray := ⟨#[97, 32, 36]⟩
def awOk (t : Tok) : Bool := decide (t.text.size ≤ 1000) && (decide (-9223372036854775808 ≤ t.val.2.1) && decide (t.val.2.1 ≤ 9223372036854775807))
theorem aw1_len : (tokensS aw1).1.length = 8 := by decide +kernel
theorem aw1_r : (tokensS aw1).2 = (0, 0, 0) := by decide +kernel
theorem aw1_col : ((tokensS aw1).1.getD 7 tok0).col = 15 := by decide +kernel
theorem aw1_ok : (tokensS aw1).1.all awOk = true := by decide +kernel
theorem aw1_join : joinS (tokensS aw1).1 = [102, 100, 32, 102, 32, 114, 58, 97, 45, 62, 98, 59] := by decide +kernel
theorem aw2_r : (tokensS aw2).2 = (1, 1, 2) := by decide +kernel
theorem aw3_r : (tokensS aw3).2 = (1, 3, 2) := by decide +kernel

set_option maxHeartbeats 2000000 in
set_option maxRecDepth 20000 in
theorem awake_c : PCall Tryz.prog 4 [] (SB true) := by
  have t1 := tokens_p aw1 (by decide)
  have t2 := tokens_p aw2 (by decide)
  have t3 := tokens_p aw3 (by decide)
  have hok : ∀ t ∈ (tokensS aw1).1, t.text.size ≤ 1000 ∧ In64 t.val.2.1 := fun t ht => by
    have := List.all_eq_true.1 aw1_ok t ht
    unfold awOk at this
    simp only [Bool.and_eq_true, decide_eq_true_eq] at this
    exact ⟨this.1, this.2⟩
  have jn := join_p (tokensS aw1).1 (by rw [aw1_len]; decide) hok
  rw [aw1_join] at jn
  unfold tokR at t1 t2 t3
  rw [aw1_r] at t1
  rw [aw2_r] at t2
  rw [aw3_r] at t3
  have hlen := aw1_len
  have hcol := aw1_col
  generalize (tokensS aw1).1 = l1 at *
  generalize (tokensS aw2).1 = l2 at *
  generalize (tokensS aw3).1 = l3 at *
  have hli : (7 : Int) < ((l1.length : Nat) : Int) := by rw [hlen]; decide
  have hl8 : ((l1.length : Nat) : Int) = 8 := by rw [hlen]; rfl
  obtain ⟨k, s, v, ln, cl, ht⟩ : ∃ k s v ln cl, l1.getD 7 tok0 = ⟨k, s, v, ln, cl⟩ := ⟨_, _, _, _, _, rfl⟩
  rw [ht] at hcol
  simp only at hcol
  subst hcol
  have tf : tokF l1 7 = [I64 k, Str s, I64 v.1, I64 v.2.1, Str v.2.2, I64 ln, I64 15] := by unfold tokF; rw [ht]; rfl
  have f1 : (([I64 k, Str s, I64 v.1, I64 v.2.1, Str v.2.2, I64 ln, I64 15] : List SV).drop 6).take 1 = [I64 15] := rfl
  have he := text_eq (mkB [102, 100, 32, 102, 32, 114, 58, 97, 45, 62, 98, 59]) [102, 100, 32, 102, 32, 114, 58, 97, 45, 62, 98, 59] #[102, 100, 32, 102, 32, 114, 58, 97, 45, 62, 98, 59] rfl
  rw [mkB_L, decide_eq_true rfl] at he
  have n1 : ((1 : Nat) : Int) = 1 := rfl
  have n3 : ((3 : Nat) : Int) = 3 := rfl
  refine Call.enter' (N := 74) (rs := [.tmp 0]) Tryz.func4 rfl rfl rfl (by decide) rfl ?_; simp only [argT]; have hD : (0 : Nat) = 0 := rfl
  repeat' first | (with_reducible refine And.intro (by omega) ?_) | (refine SW.seq_k fun K hK => ?_) | (refine SW.block ?_) | ((first | refine SW.region ?_ | refine SW.regionD (Checked.mixed Tryz.checked) (by kernel_rfl) ?_ | refine SW.cond ?_ | refine SW.skip ?_ | refine SW.exit ?_ | refine SW.ret ?_ | refine Call.of_pure (t1) ?_ | refine ⟨_, t1, ?_⟩ | refine Call.of_pure (t2) ?_ | refine ⟨_, t2, ?_⟩ | refine Call.of_pure (t3) ?_ | refine ⟨_, t3, ?_⟩ | refine Call.of_pure (jn) ?_ | refine ⟨_, jn, ?_⟩ | (refine allF_i fun b hb => ?_; replace hD := And.intro hb hD; clear hb; try simp only [fresh_cons, fresh_nil, and_true, ne_eq, neF] at hD) | simp only [appK, appOsK]); try simp only [go_sem, ↓reduceIte, reduceCtorEq, Nat.reduceAdd, Nat.reduceMul, Nat.reduceSub, Nat.reduceLT, Nat.reduceLeDiff, Nat.reduceEqDiff, Nat.reduceBEq, Nat.reduceBneDiff, Int.reduceToNat, Int.reduceEq, hD, hli, hl8, tf, f1, he, n1, n3]) | (refine And.intro (by omega) ?_) | (refine ifI (fun hc => ?_) (fun hc => ?_) <;> first | (exfalso; omega) | skip) | (first | (apply hK; clear hK K) | ((iterate 1 (clear hK K)); apply hK; clear hK K) | ((iterate 2 (clear hK K)); apply hK; clear hK K) | ((iterate 3 (clear hK K)); apply hK; clear hK K) | ((iterate 4 (clear hK K)); apply hK; clear hK K) | ((iterate 5 (clear hK K)); apply hK; clear hK K))
  refine ret_pure ?_; simp only [resL_tmp, resL_nil, tupOf, go_sem, ↓reduceIte, reduceCtorEq, Nat.reduceAdd, Nat.reduceMul, Nat.reduceSub, Nat.reduceLT, Nat.reduceLeDiff, Nat.reduceEqDiff, Nat.reduceBEq, Nat.reduceBneDiff, Int.reduceToNat, Int.reduceEq, hD]
end Go.Proofs.YtajbifibhgppfaaGreatDoor
/- What the listed package-level variables hold, and what comes in, for the proofs of the laws. -/
set_option linter.unusedSimpArgs false
set_option linter.unusedVariables false
set_option linter.unusedSectionVars false
namespace Go.Proofs.YtajbifibhgppfaaGreatDoor
open Go Go.Ab Go.Ab.A01 Go.Ab.A05 Go.ChangeShapes Go.WideShapes Go.ChangeAt Go.RowKit

theorem own : ownKnob Tryz.prog.godebug = .none := by kernel_rfl
theorem laidOut : laidOutB Tryz.prog = true := by kernel_rfl

/-- What is known of the package-level variables. -/
@[reducible] def gE (a2 : TypeId) (b2 : Value) (a3 : TypeId) (b3 : Value) : Gl :=
  ⟨fun g => if g = 2 then .fp (Lib.pow10Tab.map fun z => .sc (.int .u64 z)) else if g = 3 then .fp [.sc (.iface a2 b2)] else if g = 4 then .fp [.sc (.iface a3 b3)] else if g = 0 then .fp (symT.map fun s => Str s) else .any, fun g => if g = 2 then some 20 else .none⟩
theorem tabsE (a2 : TypeId) (b2 : Value) (a3 : TypeId) (b3 : Value) : @Tabs (gE a2 b2 a3 b3) := @Tabs.mk (gE a2 b2 a3 b3) rfl rfl ⟨a2, b2, rfl⟩ ⟨a3, b3, rfl⟩
theorem symsE (a2 : TypeId) (b2 : Value) (a3 : TypeId) (b3 : Value) : @Syms (gE a2 b2 a3 b3) := @Syms.mk (gE a2 b2 a3 b3) rfl

theorem t_tab : (Tryz.prog.globals[2]?).map (·.type) = some 99 := by kernel_rfl
theorem t_es : (Tryz.prog.globals[3]?).map (·.type) = some 44 := by kernel_rfl
theorem t_er : (Tryz.prog.globals[4]?).map (·.type) = some 44 := by kernel_rfl
theorem g_sy : Tryz.prog.globalNamed "dross/lexer.symbols" = some 0 := by kernel_rfl
theorem t_sy : (Tryz.prog.globals[0]?).map (·.type) = some 60 := by kernel_rfl
theorem pow_tab {H : Type} : (Rows.laid_internal_strconv_uint64pow10 : DataW H) = Lib.tabData .u64 Lib.pow10Tab := rfl
theorem sym_tab {H : Type} : (Rows.laid_dross_lexer_symbols : DataW H) = .agg (A05.syms.map fun l => .lit (.string l)) := rfl

/-- An array of strings that reads as a table holds the table's strings. -/
theorem cells_of_strs {H : Type} {enc : TypeId × Value → H} {P : Program} {w : World} {base : Nat} {sp : Nat → Bool} {held : Bool} {fuel : Nat} {t e : TypeId} {n : Nat} {cs : List Value} {zs : List (List UInt8)} {p : List MemPlace}
    (ht : P.underlying t = some (.array n e)) (he : P.underlying e = some .string) (hce : P.cellsOf e = 1) (hct : P.cellsOf t = n)
    (h : DataW.trod enc P w base sp held fuel t cs = some (.agg (zs.map fun l => .lit (.string l)), p)) : cs = zs.map fun l => Value.string (mkB l) := by
  cases fuel with
  | zero => simp [DataW.trod] at h
  | succ fuel =>
    simp only [DataW.trod, ht, hce, hct, Nat.mul_one] at h
    split at h
    · rename_i hl
      obtain ⟨xs, hm, hx⟩ := Option.map_eq_some_iff.1 h
      have hxs : xs.map (·.1) = zs.map fun l => (DataW.lit (.string l) : DataW H) := by
        have := congrArg Prod.fst hx
        simpa using this
      have hxl : xs.length = n := by simpa using Lib.mapM_length hm
      have hzl : zs.length = n := by
        have := congrArg List.length hxs
        simp at this
        omega
      apply List.ext_getElem?
      intro i
      by_cases hi : i < n
      · obtain ⟨b, hb, hf⟩ := Lib.mapM_at hm i i (by simp [hi])
        obtain ⟨s, hc, rfl, _⟩ := DataW.trod_string he hf
        have h1 : cs[i]? = some (.string s) := by
          have := congrArg (·[0]?) hc
          simpa [List.getElem?_take, List.getElem?_drop] using this
        have h2 : (xs.map (·.1))[i]? = some (DataW.lit (.string s.data.toList) : DataW H) := by simp [hb]
        rw [hxs] at h2
        simp only [List.getElem?_map, Option.map_eq_some_iff, DataW.lit.injEq, Lit.string.injEq] at h2
        obtain ⟨l, hl2, rfl⟩ := h2
        rw [h1, List.getElem?_map, hl2]
        show some (Value.string s) = some (Value.string (mkB s.data.toList))
        rw [mkB_list]
      · rw [List.getElem?_eq_none (by omega), List.getElem?_eq_none (by simp; omega)]
    · cases h

/-- A variable's cells, as they are seen. -/
theorem rep_vals {W : World} {E : Env} {nm : String} {g : Nat} {vals : List Value} (hE : ∀ a v, W.cell? a = some v → a.block = g → E.see a v) (hg : Tryz.prog.globalNamed nm = some g) (h : W.var? Tryz.prog nm = some vals.toArray) :
    Rep E (.pointer (some ⟨g, 0, none⟩)) (.fp (vals.map SV.sc)) ∧ HasSize W g (vals.length, none) := by
  unfold World.var? at h
  rw [hg] at h
  simp only [Option.bind_some] at h
  have hh : ∃ e fr, W.heap[g]? = some (.cells vals.toArray e fr) := by
    split at h
    · rename_i cs e fr hc
      rw [hc]
      cases h
      exact ⟨e, fr, rfl⟩
    · cases h
  obtain ⟨e, fr, hh⟩ := hh
  refine ⟨.fp g 0 _ (fun j => vals.getD j undef) (fun j hj => hE _ _ ?_ rfl) (fun j hj => ?_), ⟨_, e, fr, hh, by simp, .inl rfl⟩⟩
  · rw [List.length_map] at hj
    simp [World.cell?, hh, hj]
  · rw [List.length_map] at hj
    simp only [List.getD_eq_getElem?_getD, List.getElem?_map, List.getElem?_eq_getElem hj, Option.map_some, Option.getD_some]
    exact .sc _

theorem iface_of_trod {H : Type} {enc : TypeId × Value → H} {P : Program} {w : World} {base : Nat} {sp : Nat → Bool} {fuel : Nat} {t : TypeId} {cs : List Value} {nm : String} {d : DataW H} {p : List MemPlace} {m : Array (String × TypeId)}
    (ht : P.underlying t = some (.interface m)) (h : DataW.trod enc P w base sp false fuel t cs = some (.iface nm d, p)) : ∃ u v, cs = [.iface u v] := by
  cases fuel with
  | zero => simp [DataW.trod] at h
  | succ n =>
    simp only [DataW.trod, ht] at h
    split at h
    all_goals first | exact ⟨_, _, rfl⟩ | (exfalso; simp_all; done)

theorem rep_fp1 {E : Env} {g : Nat} {x : Value} (h : E.see ⟨g, 0, none⟩ x) : Rep E (.pointer (some ⟨g, 0, none⟩)) (.fp [.sc x]) := by
  refine .fp g 0 _ (fun _ => x) (fun j hj => ?_) (fun j hj => ?_)
  · obtain rfl : j = 0 := by simpa using hj
    exact h
  · obtain rfl : j = 0 := by simpa using hj
    exact .sc x

theorem cell_of_var {W : World} {nm : String} {g : Nat} {x : Value} (hg : Tryz.prog.globalNamed nm = some g) (h : W.var? Tryz.prog nm = some #[x]) : W.cell? ⟨g, 0, none⟩ = some x := by
  have := World.var?_cell hg h 0
  simpa using this

theorem gl_of_laid {W : World} (h : laidMetH Tryz.prog Rows.lexerJoinRow.laid W) : ∃ a2 b2 a3 b3, @GlOk (gE a2 b2 a3 b3) (envOf (fun _ => False) W) := by
  rw [MakeChecks.laidMetH_plain _ _ _ (by kernel_rfl)] at h
  obtain ⟨ps, ⟨g0, t0, cs0, f0, p0, q0, hg0, ht0, hv0, hd0, ⟨g1, t1, cs1, f1, p1, q1, hg1, ht1, hv1, hd1, ⟨g2, t2, cs2, f2, p2, q2, hg2, ht2, hv2, hd2, ⟨g3, t3, cs3, f3, p3, q3, hg3, ht3, hv3, hd3, ⟨g4, t4, cs4, f4, p4, q4, hg4, ht4, hv4, hd4, ⟨g5, t5, cs5, f5, p5, q5, hg5, ht5, hv5, hd5, _, _⟩, _⟩, _⟩, _⟩, _⟩, _⟩, _, _⟩ := h
  obtain rfl := Option.some.inj (g_tab.symm.trans hg2)
  obtain rfl := Option.some.inj (t_tab.symm.trans ht2)
  obtain rfl := Option.some.inj (g_er.symm.trans hg3)
  obtain rfl := Option.some.inj (t_er.symm.trans ht3)
  obtain rfl := Option.some.inj (g_es.symm.trans hg4)
  obtain rfl := Option.some.inj (t_es.symm.trans ht4)
  obtain rfl := Option.some.inj (g_sy.symm.trans hg5)
  obtain rfl := Option.some.inj (t_sy.symm.trans ht5)
  rw [pow_tab] at hd2
  rw [sym_tab] at hd5
  have hc2 := Lib.cells_of_tab (k := .u64) Tryz.underlying99 Tryz.underlying87 (by kernel_rfl) (by kernel_rfl) hd2
  have hc5 := cells_of_strs Tryz.underlying60 Tryz.underlying9 (by kernel_rfl) (by kernel_rfl) hd5
  obtain ⟨a3, b3, hc3⟩ := iface_of_trod Tryz.underlying44 hd3
  obtain ⟨a2, b2, hc4⟩ := iface_of_trod Tryz.underlying44 hd4
  have e3 : cs3 = #[.iface a3 b3] := Array.toList_inj.1 (by rw [hc3])
  have e4 : cs4 = #[.iface a2 b2] := Array.toList_inj.1 (by rw [hc4])
  rw [e3] at hv3
  rw [e4] at hv4
  have v3 := cell_of_var g_er hv3
  have v2 := cell_of_var g_es hv4
  refine ⟨a2, b2, a3, b3, ?_⟩
  obtain ⟨r1, r2⟩ := rep_vals (E := envOf (fun _ => False) W) (fun a v ha _ => ⟨id, ha⟩) g_tab (vals := Lib.pow10Tab.map fun z => Value.int .u64 z) (by rw [hv2, ← hc2])
  obtain ⟨r3, _⟩ := rep_vals (E := envOf (fun _ => False) W) (fun a v ha _ => ⟨id, ha⟩) g_sy (vals := A05.syms.map fun l => Value.string (mkB l)) (by rw [hv5, ← hc5])
  rw [List.map_map] at r1 r3
  rw [List.length_map, Lib.pow10Tab_length] at r2
  intro g
  by_cases h1 : g = 2
  · subst h1
    exact ⟨r1, fun m hm => by cases hm; exact r2⟩
  · refine ⟨?_, fun m hm => ?_⟩
    · show Rep _ _ (if g = 2 then _ else if g = 3 then _ else if g = 4 then _ else if g = 0 then _ else SV.any)
      rw [if_neg h1]
      by_cases h4 : g = 3
      · rw [if_pos h4]
        subst h4
        exact rep_fp1 ⟨id, v2⟩
      · rw [if_neg h4]
        by_cases h5 : g = 4
        · rw [if_pos h5]
          subst h5
          exact rep_fp1 ⟨id, v3⟩
        · rw [if_neg h5]
          by_cases h6 : g = 0
          · rw [if_pos h6]
            subst h6
            have e : (symT.map fun s => Str s) = A05.syms.map (SV.sc ∘ fun l => Value.string (mkB l)) := by
              unfold symT
              rw [List.map_map]
              rfl
            rw [e]
            exact r3
          · rw [if_neg h6]
            exact .any _
    · exfalso
      have hm' : (if g = 2 then some 20 else Option.none) = some m := hm
      rw [if_neg h1] at hm'
      cases hm'

theorem fits64 {n : Int} (h : fits .i64 n) : In64 n := by
  unfold fits Lit.wf at h
  simp only [Bool.and_eq_true, decide_eq_true_eq] at h
  exact ⟨h.1, h.2⟩
/-- Nothing is known of the package-level variables. -/
@[reducible] def gN : Gl := ⟨fun _ => .any, fun _ => .none⟩
abbrev V3 := Int × Int × ByteArray
abbrev cellsV (x : V3) : List SV := [I64 x.1, I64 x.2.1, Str x.2.2]
def okV (x : V3) : Prop := In64 x.1 ∧ In64 x.2.1 ∧ x.2.2.size ≤ 9223372036854775807
set_option maxRecDepth 100000 in
/-- A value that came in. -/
theorem rd_value [Gl] : Rd Tryz.prog 33 cellsV okV :=
  Rd.map (Rd.struct Tryz.underlying33 (by kernel_rfl) (RdF.cons rfl 1 (by kernel_rfl) (Rd.int Tryz.underlying3) (RdF.cons rfl 1 (by kernel_rfl) (Rd.int Tryz.underlying2) (RdF.cons rfl 1 (by kernel_rfl) (Rd.str Tryz.underlying9) (RdF.nil _)))))
    (fun x => (x.1, x.2.1, x.2.2.1)) (fun _ _ => rfl) (fun x h => ⟨fits64 h.1, fits64 h.2.1, h.2.2.1⟩)
def okT (x : Tok) : Prop := In64 x.kind ∧ x.text.size ≤ 9223372036854775807 ∧ okV x.val ∧ In64 x.line ∧ In64 x.col
set_option maxRecDepth 100000 in
/-- A token that came in. -/
theorem rd_token [Gl] : Rd Tryz.prog 35 tokC okT :=
  Rd.map (Rd.struct Tryz.underlying35 (by kernel_rfl) (RdF.cons rfl 1 (by kernel_rfl) (Rd.int Tryz.underlying3) (RdF.cons rfl 1 (by kernel_rfl) (Rd.str Tryz.underlying9) (RdF.cons rfl 3 (by kernel_rfl) rd_value
      (RdF.cons rfl 1 (by kernel_rfl) (Rd.int Tryz.underlying3) (RdF.cons rfl 1 (by kernel_rfl) (Rd.int Tryz.underlying3) (RdF.nil _)))))))
    (fun x => ⟨x.1, x.2.1, x.2.2.1, x.2.2.2.1, x.2.2.2.2.1⟩) (fun _ _ => rfl) (fun x h => ⟨fits64 h.1, h.2.1, h.2.2.1, fits64 h.2.2.2.1, fits64 h.2.2.2.2.1⟩)
end Go.Proofs.YtajbifibhgppfaaGreatDoor
