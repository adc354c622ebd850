/- The laws: Tokens, Valid, Position. -/
import Derived.Test.YtajbifibhgppfaaDoorM4
set_option linter.unusedSimpArgs false
set_option linter.unusedVariables false
set_option linter.unusedSectionVars false
namespace Go.Ab.A05
open Go Go.Ab Go.Ab.A01 Go.Proofs.YtajbifibhgppfaaDoor
theorem lexF_len : ∀ (g : Nat) (s : List UInt8) (i : Nat) (acc : List Tok), (lexF g s i acc).1.length ≤ acc.length + g
  | 0, s, i, acc => Nat.le_refl _
  | g + 1, s, i, acc => by
    rw [lexF]
    split
    · exact Nat.le_add_right _ _
    · split
      · have := lexF_len g s (i + 1) acc
        omega
      · split
        · have := lexF_len g s (i + lineN (s.drop i)) acc
          omega
        · split
          · exact Nat.zero_le _
          · rename_i k v _
            have := lexF_len g s (i + firstN (s.drop i)) (acc ++ [⟨k, mkB ((s.drop i).take (firstN (s.drop i))), v, lineS (s.take i), ((1 + tailS (s.take i) : Nat) : Int)⟩])
            rw [List.length_append, List.length_cons, List.length_nil] at this
            omega
theorem tokens_len (s : ByteArray) : (tokensS s).1.length ≤ 65536 := by
  unfold tokensS
  split
  · exact Nat.zero_le _
  · have := lexF_len s.size s.data.toList 0 []
    rw [List.length_nil] at this
    omega
end Go.Ab.A05
namespace Go.Proofs.YtajbifibhgppfaaDoor
open Go Go.Ab Go.Ab.A01 Go.Ab.A05
variable [Gl] [Tabs] [Syms]

set_option maxRecDepth 20000 in
theorem tokens_big_p (s : ByteArray) (hbig : 65536 < s.size) : PCall Tryd.prog 10 [Str s] (.tup [TS [], I64 0, I64 0, I64 3]) := by
  have hbi : (65536 : Int) < ((s.size : Nat) : Int) := by omega
  refine Call.enter' (N := 78) (rs := [.tmp 2, .tmp 3, .tmp 4, .tmp 5]) Tryd.func10 rfl rfl rfl (by decide) rfl ?_; simp only [argT]; have hD : (0 : Nat) = 0 := rfl
  repeat' first | (with_reducible refine And.intro (by omega) ?_) | (refine SW.seq_k fun K hK => ?_) | (refine SW.block ?_) | ((first | refine SW.region ?_ | refine SW.regionD (Checked.mixed Tryd.checked) (by kernel_rfl) ?_ | refine SW.cond ?_ | refine SW.skip ?_ | refine SW.exit ?_ | refine SW.ret ?_ | (refine allF_i fun b hb => ?_; replace hD := And.intro hb hD; clear hb; simp only [fresh_cons, fresh_nil, and_true, ne_eq, neF] at hD) | simp only [appK, appOsK]); try simp only [go_sem, ↓reduceIte, reduceCtorEq, Nat.reduceAdd, Nat.reduceMul, Nat.reduceSub, Nat.reduceLT, Nat.reduceLeDiff, Nat.reduceEqDiff, Nat.reduceBEq, Nat.reduceBneDiff, Int.reduceToNat, Int.reduceEq, hD, hbi]) | (refine And.intro (by omega) ?_) | (refine ifI (fun hc => ?_) (fun hc => ?_) <;> first | (exfalso; omega) | skip) | (first | (apply hK; clear hK K) | ((iterate 1 (clear hK K)); apply hK; clear hK K) | ((iterate 2 (clear hK K)); apply hK; clear hK K) | ((iterate 3 (clear hK K)); apply hK; clear hK K) | ((iterate 4 (clear hK K)); apply hK; clear hK K) | ((iterate 5 (clear hK K)); apply hK; clear hK K))
  refine retQ_le (St.le_nil_fl (i := 2) (sz := 7) (f := tokF []) rfl) ?_
  simp only [resL_tmp, resL_nil, tupOf, go_sem, ↓reduceIte, reduceCtorEq, Nat.reduceAdd, Nat.reduceMul, Nat.reduceSub, Nat.reduceLT, Nat.reduceLeDiff, Nat.reduceEqDiff, Nat.reduceBEq, Nat.reduceBneDiff, Int.reduceToNat, Int.reduceEq, hD]
  rfl
set_option maxRecDepth 20000 in
theorem tokens_big_r (s : ByteArray) (hbig : 65536 < s.size) : PCall Tryd.prog 11 [Str s] (.tup [TS [], I64 0, I64 0, I64 3]) := by
  have hbi : (65536 : Int) < ((s.size : Nat) : Int) := by omega
  refine Call.enter' (N := 92) (rs := [.tmp 2, .tmp 3, .tmp 4, .tmp 5]) Tryd.func11 rfl rfl rfl (by decide) rfl ?_; simp only [argT]; have hD : (0 : Nat) = 0 := rfl
  repeat' first | (with_reducible refine And.intro (by omega) ?_) | (refine SW.seq_k fun K hK => ?_) | (refine SW.block ?_) | ((first | refine SW.region ?_ | refine SW.regionD (Checked.mixed Tryd.checked) (by kernel_rfl) ?_ | refine SW.cond ?_ | refine SW.skip ?_ | refine SW.exit ?_ | refine SW.ret ?_ | (refine allF_i fun b hb => ?_; replace hD := And.intro hb hD; clear hb; simp only [fresh_cons, fresh_nil, and_true, ne_eq, neF] at hD) | simp only [appK, appOsK]); try simp only [go_sem, ↓reduceIte, reduceCtorEq, Nat.reduceAdd, Nat.reduceMul, Nat.reduceSub, Nat.reduceLT, Nat.reduceLeDiff, Nat.reduceEqDiff, Nat.reduceBEq, Nat.reduceBneDiff, Int.reduceToNat, Int.reduceEq, hD, hbi]) | (refine And.intro (by omega) ?_) | (refine ifI (fun hc => ?_) (fun hc => ?_) <;> first | (exfalso; omega) | skip) | (first | (apply hK; clear hK K) | ((iterate 1 (clear hK K)); apply hK; clear hK K) | ((iterate 2 (clear hK K)); apply hK; clear hK K) | ((iterate 3 (clear hK K)); apply hK; clear hK K) | ((iterate 4 (clear hK K)); apply hK; clear hK K) | ((iterate 5 (clear hK K)); apply hK; clear hK K))
  refine retQ_le (St.le_nil_fl (i := 2) (sz := 7) (f := tokF []) rfl) ?_
  simp only [resL_tmp, resL_nil, tupOf, go_sem, ↓reduceIte, reduceCtorEq, Nat.reduceAdd, Nat.reduceMul, Nat.reduceSub, Nat.reduceLT, Nat.reduceLeDiff, Nat.reduceEqDiff, Nat.reduceBEq, Nat.reduceBneDiff, Int.reduceToNat, Int.reduceEq, hD]
  rfl

set_option maxHeartbeats 2000000 in
set_option maxRecDepth 20000 in
theorem law_tokens (s : ByteArray) : PCall Tryd.prog 3 [Str s] (SB true) := by
  have aw := awake_c
  by_cases h1 : 400 < s.size
  · have h1i : (400 : Int) < ((s.size : Nat) : Int) := by omega
    by_cases h2 : s.size ≤ 65536
    · have h2i : ((s.size : Nat) : Int) ≤ 65536 := by omega
      refine Call.enter' (N := 56) (rs := [.tmp 2]) Tryd.func3 rfl rfl rfl (by decide) rfl ?_; simp only [argT]; have hD : (0 : Nat) = 0 := rfl
      repeat' first | (with_reducible refine And.intro (by omega) ?_) | (refine SW.seq_k fun K hK => ?_) | (refine SW.block ?_) | ((first | refine SW.region ?_ | refine SW.regionD (Checked.mixed Tryd.checked) (by kernel_rfl) ?_ | refine SW.cond ?_ | refine SW.skip ?_ | refine SW.exit ?_ | refine SW.ret ?_ | refine Call.of_pure (aw) ?_ | refine ⟨_, aw, ?_⟩ | (refine allF_i fun b hb => ?_; replace hD := And.intro hb hD; clear hb; simp only [fresh_cons, fresh_nil, and_true, ne_eq, neF] at hD) | simp only [appK, appOsK]); try simp only [go_sem, ↓reduceIte, reduceCtorEq, Nat.reduceAdd, Nat.reduceMul, Nat.reduceSub, Nat.reduceLT, Nat.reduceLeDiff, Nat.reduceEqDiff, Nat.reduceBEq, Nat.reduceBneDiff, Int.reduceToNat, Int.reduceEq, hD, h1i, h2i]) | (refine And.intro (by omega) ?_) | (refine ifI (fun hc => ?_) (fun hc => ?_) <;> first | (exfalso; omega) | skip) | (first | (apply hK; clear hK K) | ((iterate 1 (clear hK K)); apply hK; clear hK K) | ((iterate 2 (clear hK K)); apply hK; clear hK K) | ((iterate 3 (clear hK K)); apply hK; clear hK K) | ((iterate 4 (clear hK K)); apply hK; clear hK K) | ((iterate 5 (clear hK K)); apply hK; clear hK K))
      refine ret_pure ?_; simp only [resL_tmp, resL_nil, tupOf, go_sem, ↓reduceIte, reduceCtorEq, Nat.reduceAdd, Nat.reduceMul, Nat.reduceSub, Nat.reduceLT, Nat.reduceLeDiff, Nat.reduceEqDiff, Nat.reduceBEq, Nat.reduceBneDiff, Int.reduceToNat, Int.reduceEq, hD]
    · have h2i : ¬ ((s.size : Nat) : Int) ≤ 65536 := by omega
      have tp := tokens_big_p s (by omega)
      have tr := tokens_big_r s (by omega)
      have sm := same_r [] (by decide)
      refine Call.enter' (N := 56) (rs := [.tmp 2]) Tryd.func3 rfl rfl rfl (by decide) rfl ?_; simp only [argT]; have hD : (0 : Nat) = 0 := rfl
      repeat' first | (with_reducible refine And.intro (by omega) ?_) | (refine SW.seq_k fun K hK => ?_) | (refine SW.block ?_) | ((first | refine SW.region ?_ | refine SW.regionD (Checked.mixed Tryd.checked) (by kernel_rfl) ?_ | refine SW.cond ?_ | refine SW.skip ?_ | refine SW.exit ?_ | refine SW.ret ?_ | refine Call.of_pure (aw) ?_ | refine ⟨_, aw, ?_⟩ | refine Call.of_pure (tp) ?_ | refine ⟨_, tp, ?_⟩ | refine Call.of_pure (tr) ?_ | refine ⟨_, tr, ?_⟩ | refine Call.of_pure (sm) ?_ | refine ⟨_, sm, ?_⟩ | (refine allF_i fun b hb => ?_; replace hD := And.intro hb hD; clear hb; simp only [fresh_cons, fresh_nil, and_true, ne_eq, neF] at hD) | simp only [appK, appOsK]); try simp only [go_sem, ↓reduceIte, reduceCtorEq, Nat.reduceAdd, Nat.reduceMul, Nat.reduceSub, Nat.reduceLT, Nat.reduceLeDiff, Nat.reduceEqDiff, Nat.reduceBEq, Nat.reduceBneDiff, Int.reduceToNat, Int.reduceEq, hD, h1i, h2i]) | (refine And.intro (by omega) ?_) | (refine ifI (fun hc => ?_) (fun hc => ?_) <;> first | (exfalso; omega) | skip) | (first | (apply hK; clear hK K) | ((iterate 1 (clear hK K)); apply hK; clear hK K) | ((iterate 2 (clear hK K)); apply hK; clear hK K) | ((iterate 3 (clear hK K)); apply hK; clear hK K) | ((iterate 4 (clear hK K)); apply hK; clear hK K) | ((iterate 5 (clear hK K)); apply hK; clear hK K))
      refine ret_pure ?_; simp only [resL_tmp, resL_nil, tupOf, go_sem, ↓reduceIte, reduceCtorEq, Nat.reduceAdd, Nat.reduceMul, Nat.reduceSub, Nat.reduceLT, Nat.reduceLeDiff, Nat.reduceEqDiff, Nat.reduceBEq, Nat.reduceBneDiff, Int.reduceToNat, Int.reduceEq, hD]
  · have h1i : ¬ (400 : Int) < ((s.size : Nat) : Int) := by omega
    have tp := tokens_p s (by omega)
    have tr := tokens_r s (by omega)
    have hl := tokens_len s
    have sm := same_r (tokensS s).1 (by omega)
    unfold tokR at tp tr
    generalize (tokensS s).1 = l at *
    generalize (tokensS s).2 = q at *
    obtain ⟨x, y, z⟩ := q
    simp only at tp tr
    refine Call.enter' (N := 56) (rs := [.tmp 2]) Tryd.func3 rfl rfl rfl (by decide) rfl ?_; simp only [argT]; have hD : (0 : Nat) = 0 := rfl
    repeat' first | (with_reducible refine And.intro (by omega) ?_) | (refine SW.seq_k fun K hK => ?_) | (refine SW.block ?_) | ((first | refine SW.region ?_ | refine SW.regionD (Checked.mixed Tryd.checked) (by kernel_rfl) ?_ | refine SW.cond ?_ | refine SW.skip ?_ | refine SW.exit ?_ | refine SW.ret ?_ | refine Call.of_pure (aw) ?_ | refine ⟨_, aw, ?_⟩ | refine Call.of_pure (tp) ?_ | refine ⟨_, tp, ?_⟩ | refine Call.of_pure (tr) ?_ | refine ⟨_, tr, ?_⟩ | refine Call.of_pure (sm) ?_ | refine ⟨_, sm, ?_⟩ | (refine allF_i fun b hb => ?_; replace hD := And.intro hb hD; clear hb; simp only [fresh_cons, fresh_nil, and_true, ne_eq, neF] at hD) | simp only [appK, appOsK]); try simp only [go_sem, ↓reduceIte, reduceCtorEq, Nat.reduceAdd, Nat.reduceMul, Nat.reduceSub, Nat.reduceLT, Nat.reduceLeDiff, Nat.reduceEqDiff, Nat.reduceBEq, Nat.reduceBneDiff, Int.reduceToNat, Int.reduceEq, hD, h1i]) | (refine And.intro (by omega) ?_) | (refine ifI (fun hc => ?_) (fun hc => ?_) <;> first | (exfalso; omega) | skip) | (first | (apply hK; clear hK K) | ((iterate 1 (clear hK K)); apply hK; clear hK K) | ((iterate 2 (clear hK K)); apply hK; clear hK K) | ((iterate 3 (clear hK K)); apply hK; clear hK K) | ((iterate 4 (clear hK K)); apply hK; clear hK K) | ((iterate 5 (clear hK K)); apply hK; clear hK K))
    refine ret_pure ?_; simp only [resL_tmp, resL_nil, tupOf, go_sem, ↓reduceIte, reduceCtorEq, Nat.reduceAdd, Nat.reduceMul, Nat.reduceSub, Nat.reduceLT, Nat.reduceLeDiff, Nat.reduceEqDiff, Nat.reduceBEq, Nat.reduceBneDiff, Int.reduceToNat, Int.reduceEq, hD]

set_option maxHeartbeats 2000000 in
set_option maxRecDepth 20000 in
theorem law_position (s : ByteArray) (o : Int) : PCall Tryd.prog 7 [Str s, I64 o] (SB true) := by
  have aw := awake_c
  by_cases h1 : 1000 < s.size
  · have h1i : (1000 : Int) < ((s.size : Nat) : Int) := by omega
    refine Call.enter' (N := 46) (rs := [.tmp 4]) Tryd.func7 rfl rfl rfl (by decide) rfl ?_; simp only [argT]; have hD : (0 : Nat) = 0 := rfl
    repeat' first | (with_reducible refine And.intro (by omega) ?_) | (refine SW.seq_k fun K hK => ?_) | (refine SW.block ?_) | ((first | refine SW.region ?_ | refine SW.regionD (Checked.mixed Tryd.checked) (by kernel_rfl) ?_ | refine SW.cond ?_ | refine SW.skip ?_ | refine SW.exit ?_ | refine SW.ret ?_ | refine Call.of_pure (aw) ?_ | refine ⟨_, aw, ?_⟩ | (refine allF_i fun b hb => ?_; replace hD := And.intro hb hD; clear hb; simp only [fresh_cons, fresh_nil, and_true, ne_eq, neF] at hD) | simp only [appK, appOsK]); try simp only [go_sem, ↓reduceIte, reduceCtorEq, Nat.reduceAdd, Nat.reduceMul, Nat.reduceSub, Nat.reduceLT, Nat.reduceLeDiff, Nat.reduceEqDiff, Nat.reduceBEq, Nat.reduceBneDiff, Int.reduceToNat, Int.reduceEq, hD, h1i]) | (refine And.intro (by omega) ?_) | (refine ifI (fun hc => ?_) (fun hc => ?_) <;> first | (exfalso; omega) | skip) | (first | (apply hK; clear hK K) | ((iterate 1 (clear hK K)); apply hK; clear hK K) | ((iterate 2 (clear hK K)); apply hK; clear hK K) | ((iterate 3 (clear hK K)); apply hK; clear hK K) | ((iterate 4 (clear hK K)); apply hK; clear hK K) | ((iterate 5 (clear hK K)); apply hK; clear hK K))
    refine ret_pure ?_; simp only [resL_tmp, resL_nil, tupOf, go_sem, ↓reduceIte, reduceCtorEq, Nat.reduceAdd, Nat.reduceMul, Nat.reduceSub, Nat.reduceLT, Nat.reduceLeDiff, Nat.reduceEqDiff, Nat.reduceBEq, Nat.reduceBneDiff, Int.reduceToNat, Int.reduceEq, hD]
  · have h1i : ¬ (1000 : Int) < ((s.size : Nat) : Int) := by omega
    have tp := position_p s (by omega) o
    have tr := position_r s (by omega) o
    obtain ⟨x, y, z, hp⟩ : ∃ x y z, posR s.data.toList o = .tup [I64 x, I64 y, I64 z] := by
      unfold posR
      split <;> exact ⟨_, _, _, rfl⟩
    rw [hp] at tp tr
    refine Call.enter' (N := 46) (rs := [.tmp 4]) Tryd.func7 rfl rfl rfl (by decide) rfl ?_; simp only [argT]; have hD : (0 : Nat) = 0 := rfl
    repeat' first | (with_reducible refine And.intro (by omega) ?_) | (refine SW.seq_k fun K hK => ?_) | (refine SW.block ?_) | ((first | refine SW.region ?_ | refine SW.regionD (Checked.mixed Tryd.checked) (by kernel_rfl) ?_ | refine SW.cond ?_ | refine SW.skip ?_ | refine SW.exit ?_ | refine SW.ret ?_ | refine Call.of_pure (aw) ?_ | refine ⟨_, aw, ?_⟩ | refine Call.of_pure (tp) ?_ | refine ⟨_, tp, ?_⟩ | refine Call.of_pure (tr) ?_ | refine ⟨_, tr, ?_⟩ | (refine allF_i fun b hb => ?_; replace hD := And.intro hb hD; clear hb; simp only [fresh_cons, fresh_nil, and_true, ne_eq, neF] at hD) | simp only [appK, appOsK]); try simp only [go_sem, ↓reduceIte, reduceCtorEq, Nat.reduceAdd, Nat.reduceMul, Nat.reduceSub, Nat.reduceLT, Nat.reduceLeDiff, Nat.reduceEqDiff, Nat.reduceBEq, Nat.reduceBneDiff, Int.reduceToNat, Int.reduceEq, hD, h1i]) | (refine And.intro (by omega) ?_) | (refine ifI (fun hc => ?_) (fun hc => ?_) <;> first | (exfalso; omega) | skip) | (first | (apply hK; clear hK K) | ((iterate 1 (clear hK K)); apply hK; clear hK K) | ((iterate 2 (clear hK K)); apply hK; clear hK K) | ((iterate 3 (clear hK K)); apply hK; clear hK K) | ((iterate 4 (clear hK K)); apply hK; clear hK K) | ((iterate 5 (clear hK K)); apply hK; clear hK K))
    refine ret_pure ?_; simp only [resL_tmp, resL_nil, tupOf, go_sem, ↓reduceIte, reduceCtorEq, Nat.reduceAdd, Nat.reduceMul, Nat.reduceSub, Nat.reduceLT, Nat.reduceLeDiff, Nat.reduceEqDiff, Nat.reduceBEq, Nat.reduceBneDiff, Int.reduceToNat, Int.reduceEq, hD]

set_option maxHeartbeats 4000000 in
set_option maxRecDepth 20000 in
theorem law_valid (k : Int) (x : ByteArray) (a n : Int) (v : ByteArray) (ln cl : Int) (hn : In64 n) (s : ByteArray) : PCall Tryd.prog 5 [TK k x (a, n, v) ln cl, Str s] (SB true) := by
  have aw := awake_c
  have f1 : (([I64 k, Str x, I64 a, I64 n, Str v, I64 ln, I64 cl] : List SV).drop 1).take 1 = [Str x] := rfl
  by_cases h1 : 1000 < x.size
  · have h1i : (1000 : Int) < ((x.size : Nat) : Int) := by omega
    refine Call.enter' (N := 38) (rs := [.tmp 4]) Tryd.func5 rfl rfl rfl (by decide) rfl ?_; simp only [argT]; have hD : (0 : Nat) = 0 := rfl
    repeat' first | (with_reducible refine And.intro (by omega) ?_) | (refine SW.seq_k fun K hK => ?_) | (refine SW.block ?_) | ((first | refine SW.region ?_ | refine SW.regionD (Checked.mixed Tryd.checked) (by kernel_rfl) ?_ | refine SW.cond ?_ | refine SW.skip ?_ | refine SW.exit ?_ | refine SW.ret ?_ | refine Call.of_pure (aw) ?_ | refine ⟨_, aw, ?_⟩ | (refine allF_i fun b hb => ?_; replace hD := And.intro hb hD; clear hb; simp only [fresh_cons, fresh_nil, and_true, ne_eq, neF] at hD) | simp only [appK, appOsK]); try simp only [go_sem, ↓reduceIte, reduceCtorEq, Nat.reduceAdd, Nat.reduceMul, Nat.reduceSub, Nat.reduceLT, Nat.reduceLeDiff, Nat.reduceEqDiff, Nat.reduceBEq, Nat.reduceBneDiff, Int.reduceToNat, Int.reduceEq, hD, h1i]) | (refine And.intro (by omega) ?_) | (refine ifI (fun hc => ?_) (fun hc => ?_) <;> first | (exfalso; omega) | skip) | (first | (apply hK; clear hK K) | ((iterate 1 (clear hK K)); apply hK; clear hK K) | ((iterate 2 (clear hK K)); apply hK; clear hK K) | ((iterate 3 (clear hK K)); apply hK; clear hK K) | ((iterate 4 (clear hK K)); apply hK; clear hK K) | ((iterate 5 (clear hK K)); apply hK; clear hK K))
    refine ret_pure ?_; simp only [resL_tmp, resL_nil, tupOf, go_sem, ↓reduceIte, reduceCtorEq, Nat.reduceAdd, Nat.reduceMul, Nat.reduceSub, Nat.reduceLT, Nat.reduceLeDiff, Nat.reduceEqDiff, Nat.reduceBEq, Nat.reduceBneDiff, Int.reduceToNat, Int.reduceEq, hD]
  · have h1i : ¬ (1000 : Int) < ((x.size : Nat) : Int) := by omega
    by_cases h2 : 1000 < v.size
    · have h2i : (1000 : Int) < ((v.size : Nat) : Int) := by omega
      refine Call.enter' (N := 38) (rs := [.tmp 4]) Tryd.func5 rfl rfl rfl (by decide) rfl ?_; simp only [argT]; have hD : (0 : Nat) = 0 := rfl
      repeat' first | (with_reducible refine And.intro (by omega) ?_) | (refine SW.seq_k fun K hK => ?_) | (refine SW.block ?_) | ((first | refine SW.region ?_ | refine SW.regionD (Checked.mixed Tryd.checked) (by kernel_rfl) ?_ | refine SW.cond ?_ | refine SW.skip ?_ | refine SW.exit ?_ | refine SW.ret ?_ | refine Call.of_pure (aw) ?_ | refine ⟨_, aw, ?_⟩ | (refine allF_i fun b hb => ?_; replace hD := And.intro hb hD; clear hb; simp only [fresh_cons, fresh_nil, and_true, ne_eq, neF] at hD) | simp only [appK, appOsK]); try simp only [go_sem, ↓reduceIte, reduceCtorEq, Nat.reduceAdd, Nat.reduceMul, Nat.reduceSub, Nat.reduceLT, Nat.reduceLeDiff, Nat.reduceEqDiff, Nat.reduceBEq, Nat.reduceBneDiff, Int.reduceToNat, Int.reduceEq, hD, h1i, h2i]) | (refine And.intro (by omega) ?_) | (refine ifI (fun hc => ?_) (fun hc => ?_) <;> first | (exfalso; omega) | skip) | (first | (apply hK; clear hK K) | ((iterate 1 (clear hK K)); apply hK; clear hK K) | ((iterate 2 (clear hK K)); apply hK; clear hK K) | ((iterate 3 (clear hK K)); apply hK; clear hK K) | ((iterate 4 (clear hK K)); apply hK; clear hK K) | ((iterate 5 (clear hK K)); apply hK; clear hK K))
      refine ret_pure ?_; simp only [resL_tmp, resL_nil, tupOf, go_sem, ↓reduceIte, reduceCtorEq, Nat.reduceAdd, Nat.reduceMul, Nat.reduceSub, Nat.reduceLT, Nat.reduceLeDiff, Nat.reduceEqDiff, Nat.reduceBEq, Nat.reduceBneDiff, Int.reduceToNat, Int.reduceEq, hD]
    · have h2i : ¬ (1000 : Int) < ((v.size : Nat) : Int) := by omega
      by_cases h3 : 1000 < s.size
      · have h3i : (1000 : Int) < ((s.size : Nat) : Int) := by omega
        refine Call.enter' (N := 38) (rs := [.tmp 4]) Tryd.func5 rfl rfl rfl (by decide) rfl ?_; simp only [argT]; have hD : (0 : Nat) = 0 := rfl
        repeat' first | (with_reducible refine And.intro (by omega) ?_) | (refine SW.seq_k fun K hK => ?_) | (refine SW.block ?_) | ((first | refine SW.region ?_ | refine SW.regionD (Checked.mixed Tryd.checked) (by kernel_rfl) ?_ | refine SW.cond ?_ | refine SW.skip ?_ | refine SW.exit ?_ | refine SW.ret ?_ | refine Call.of_pure (aw) ?_ | refine ⟨_, aw, ?_⟩ | (refine allF_i fun b hb => ?_; replace hD := And.intro hb hD; clear hb; simp only [fresh_cons, fresh_nil, and_true, ne_eq, neF] at hD) | simp only [appK, appOsK]); try simp only [go_sem, ↓reduceIte, reduceCtorEq, Nat.reduceAdd, Nat.reduceMul, Nat.reduceSub, Nat.reduceLT, Nat.reduceLeDiff, Nat.reduceEqDiff, Nat.reduceBEq, Nat.reduceBneDiff, Int.reduceToNat, Int.reduceEq, hD, h1i, h2i, h3i]) | (refine And.intro (by omega) ?_) | (refine ifI (fun hc => ?_) (fun hc => ?_) <;> first | (exfalso; omega) | skip) | (first | (apply hK; clear hK K) | ((iterate 1 (clear hK K)); apply hK; clear hK K) | ((iterate 2 (clear hK K)); apply hK; clear hK K) | ((iterate 3 (clear hK K)); apply hK; clear hK K) | ((iterate 4 (clear hK K)); apply hK; clear hK K) | ((iterate 5 (clear hK K)); apply hK; clear hK K))
        refine ret_pure ?_; simp only [resL_tmp, resL_nil, tupOf, go_sem, ↓reduceIte, reduceCtorEq, Nat.reduceAdd, Nat.reduceMul, Nat.reduceSub, Nat.reduceLT, Nat.reduceLeDiff, Nat.reduceEqDiff, Nat.reduceBEq, Nat.reduceBneDiff, Int.reduceToNat, Int.reduceEq, hD]
      · have h3i : ¬ (1000 : Int) < ((s.size : Nat) : Int) := by omega
        have vp := tvalid_p k x a n v ln cl (by omega) hn
        have vr := tvalid_r k x a n v ln cl (by omega)
        have np := isName_p s (by omega)
        have nr := isName_r s (by omega)
        generalize vtok k x (a, n, v) = q1 at *
        generalize nameB s.data.toList = q2 at *
        have e1 : (q1 == q1) = true := by cases q1 <;> rfl
        have e2 : (q2 == q2) = true := by cases q2 <;> rfl
        refine Call.enter' (N := 38) (rs := [.tmp 4]) Tryd.func5 rfl rfl rfl (by decide) rfl ?_; simp only [argT]; have hD : (0 : Nat) = 0 := rfl
        repeat' first | (with_reducible refine And.intro (by omega) ?_) | (refine SW.seq_k fun K hK => ?_) | (refine SW.block ?_) | ((first | refine SW.region ?_ | refine SW.regionZ (id := 3) (Checked.mixed Tryd.checked) ((.one 0 [0, 1, 3, 4, 5, 6, 7, 8, 9, 10, 11, 12] (.one 1 [1, 3, 4, 5, 6, 7, 8, 9, 10, 11, 12] (.one 2 [2, 3, 4, 5, 6, 7, 8, 9, 10, 11, 12] (.one 3 [3, 4, 5, 6, 7, 8, 9, 10, 11, 12] (.one 4 [4, 5, 6, 7, 8, 9, 10, 11, 12] (.one 5 [5, 6, 7, 8, 9, 10, 11, 12] (.one 6 [6, 7, 9, 10, 11, 12] (.one 7 [7, 9, 10, 11, 12] (.one 8 [8, 9, 10, 11, 12] (.one 9 [9, 10, 11, 12] (.one 10 [10, 11, 12] (.one 11 [11, 12] (.one 12 [12] .done))))))))))))) : OZ) (by kernel_rfl) ?_ | refine SW.regionD (Checked.mixed Tryd.checked) (by kernel_rfl) ?_ | refine SW.cond ?_ | refine SW.skip ?_ | refine SW.exit ?_ | refine SW.ret ?_ | refine Call.of_pure (aw) ?_ | refine ⟨_, aw, ?_⟩ | refine Call.of_pure (vp) ?_ | refine ⟨_, vp, ?_⟩ | refine Call.of_pure (vr) ?_ | refine ⟨_, vr, ?_⟩ | refine Call.of_pure (np) ?_ | refine ⟨_, np, ?_⟩ | refine Call.of_pure (nr) ?_ | refine ⟨_, nr, ?_⟩ | (refine allF_i fun b hb => ?_; replace hD := And.intro hb hD; clear hb; simp only [fresh_cons, fresh_nil, and_true, ne_eq, neF] at hD) | simp only [appK, appOsK]); try simp only [go_sem, ↓reduceIte, reduceCtorEq, Nat.reduceAdd, Nat.reduceMul, Nat.reduceSub, Nat.reduceLT, Nat.reduceLeDiff, Nat.reduceEqDiff, Nat.reduceBEq, Nat.reduceBneDiff, Int.reduceToNat, Int.reduceEq, hD, h1i, h2i, h3i, e1, e2]) | (refine And.intro (by omega) ?_) | (refine ifI (fun hc => ?_) (fun hc => ?_) <;> first | (exfalso; omega) | skip) | (first | (apply hK; clear hK K) | ((iterate 1 (clear hK K)); apply hK; clear hK K) | ((iterate 2 (clear hK K)); apply hK; clear hK K) | ((iterate 3 (clear hK K)); apply hK; clear hK K) | ((iterate 4 (clear hK K)); apply hK; clear hK K) | ((iterate 5 (clear hK K)); apply hK; clear hK K)) | (refine And.intro ?_ ?_)
        refine ret_pure ?_; simp only [resL_tmp, resL_nil, tupOf, go_sem, ↓reduceIte, reduceCtorEq, Nat.reduceAdd, Nat.reduceMul, Nat.reduceSub, Nat.reduceLT, Nat.reduceLeDiff, Nat.reduceEqDiff, Nat.reduceBEq, Nat.reduceBneDiff, Int.reduceToNat, Int.reduceEq, hD]
end Go.Proofs.YtajbifibhgppfaaDoor
