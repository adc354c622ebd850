/- Contracts: Percent of the program and of the reference. -/
import Derived.Test.YtcbgkcjlechdnaaDoorA1
import Derived.Test.YtcbgkcjlechdnaaDoorU1
set_option linter.unusedSimpArgs false
set_option linter.unusedVariables false
set_option linter.unusedSectionVars false
namespace Go.Ab
open Go
abbrev Str (s : ByteArray) : SV := .sc (.string s)
/-- A number's decimal digits. -/
def dec (u : Nat) : ByteArray := ⟨(Lib.decDigits u).toArray⟩
/-- Hundredths of a percent. -/
def pctS (n : Nat) : ByteArray := dec (n / 100) ++ ⟨#[46]⟩ ++ (dec (100 + n % 100)).extract 1 (dec (100 + n % 100)).size
/-- Percent. -/
def pctR (a b : Int) : ByteArray × Int := if okR a b = true then (if a < 0 ∨ b < a then (⟨#[]⟩, 7) else (pctS (a.natAbs * 10000 / b.natAbs), 0)) else (⟨#[]⟩, 1)
end Go.Ab
namespace Go.Proofs.YtcbgkcjlechdnaaDoor
open Go Go.Ab
variable [Gl] [Tabs]

theorem dec_size (u : Nat) : (dec u).size = Lib.nDigits u := by
  show (Lib.decDigits u).toArray.size = _
  rw [List.size_toArray, Lib.decDigits_length]

set_option maxHeartbeats 2000000 in
set_option maxRecDepth 20000 in
theorem pct_p1 (a b : Int) (v1 : PCall Tryd.prog 15 [SV.agg [I64 a, I64 b]] (SB true)) (ea : IntKind.u64.wrap a = (a.natAbs : Int)) (eb : IntKind.u64.wrap b = (b.natAbs : Int)) (h0 : ¬ a < 0) (h1 : ¬ b < a)
    (T n : Nat) (t1 : PCall Tryd.prog 35 [U64 a.natAbs, U64 10000] (Wd T)) (o1 : PCall Tryd.prog 39 [Wd T, U64 b.natAbs] (.tup [Wd n, U64 (T % b.natAbs : Nat)])) (nw : n % 18446744073709551616 = n) (X Y : ByteArray) (hX : (1 : Int) ≤ (X.size : Nat)) (hXs : X.size ≤ 30) (hYs : Y.size ≤ 30)
    (m1 : IntKind.u64.wrap (100 + Int.tmod (n : Int) 100) = ((100 + n % 100 : Nat) : Int)) (m2 : IntKind.u64.wrap (Int.tdiv (n : Int) 100) = ((n / 100 : Nat) : Int))
    (f1 : PCall Tryd.prog 44 [U64 (100 + n % 100 : Nat), I64 10] (Str X)) (f2 : PCall Tryd.prog 44 [U64 (n / 100 : Nat), I64 10] (Str Y)) :
    PCall Tryd.prog 19 [.agg [I64 a, I64 b]] (.tup [Str (Y ++ ⟨#[46]⟩ ++ X.extract 1 X.size), I64 0]) := by
  have sx : (X.extract 1 X.size).size = X.size - 1 := by rw [ByteArray.size_extract, Nat.min_self]
  refine Call.enter' (N := 45) (rs := [.tmp 2, .tmp 3]) Tryd.func19 rfl rfl rfl (by decide) rfl ?_; simp only [argT]; have hD : (0 : Nat) = 0 := rfl
  repeat' first
    | (refine SW.seq_k fun K hK => ?_)
    | (refine SW.block ?_)
    | ((first
      | refine SW.region ?_
      | refine SW.regionZ (id := 5) (Checked.mixed Tryd.checked) ((.one 0 [0, 1, 2, 3, 7, 8, 9, 10, 12, 13] (.one 1 [1, 2, 3, 7, 8, 9, 10, 12, 13] (.one 2 [2, 3, 7, 8, 9, 10, 12, 13] (.one 3 [3, 7, 8, 9, 10, 12, 13] (.one 4 [4, 5, 6, 7, 8, 9, 10, 12, 13] (.one 5 [5, 6, 7, 8, 9, 10, 12, 13] (.one 6 [6, 7, 8, 9, 10, 12, 13] (.one 7 [7, 8, 9, 10, 12, 13] (.one 8 [8, 9, 10, 12, 13] (.one 9 [9, 12, 13] (.alt 10 (.alt 11 (.alt 12 (.one 13 [13] .done) .nil) .nil) (.alt 11 (.alt 10 (.alt 12 (.one 13 [13] .done) .nil) (.alt 12 (.one 10 [10, 13] (.one 13 [13] .done)) .nil)) .nil)))))))))))) : OZ) (by kernel_rfl) ?_
      | refine SW.regionZ (id := 8) (Checked.mixed Tryd.checked) ((.one 0 [0, 1, 2, 3, 6, 7, 8] (.one 1 [1, 2, 3, 6, 7, 8] (.one 2 [2, 3, 6, 7, 8] (.one 3 [3, 6, 7, 8] (.one 4 [4, 5, 6, 7, 8] (.one 5 [5, 6, 7, 8] (.one 6 [6, 7, 8] (.one 7 [7, 8] (.one 8 [8] .done))))))))) : OZ) (by kernel_rfl) ?_
      | refine SW.regionD (Checked.mixed Tryd.checked) (by kernel_rfl) ?_
      | refine SW.cond ?_
      | refine SW.skip ?_
      | refine SW.exit ?_
      | refine SW.ret ?_
      | refine Call.of_pure (v1) ?_
      | refine ⟨_, v1, ?_⟩
      | refine Call.of_pure (t1) ?_
      | refine ⟨_, t1, ?_⟩
      | refine Call.of_pure (o1) ?_
      | refine ⟨_, o1, ?_⟩
      | refine Call.of_pure (f1) ?_
      | refine ⟨_, f1, ?_⟩
      | refine Call.of_pure (f2) ?_
      | refine ⟨_, f2, ?_⟩
      | (refine allF_i fun b hb => ?_; replace hD := And.intro hb hD; clear hb; simp only [fresh_cons, fresh_nil, and_true, ne_eq, neF] at hD)
      | simp only [appK, appOsK]); try simp only [go_sem, ↓reduceIte, reduceCtorEq, Nat.reduceAdd, Nat.reduceMul, Nat.reduceSub, Nat.reduceLT, Nat.reduceLeDiff, Nat.reduceEqDiff, Nat.reduceBEq, Nat.reduceBneDiff, Int.reduceToNat, Int.toNat_natCast, eq_self, decide_true, decide_false, Int.reduceEq, and_true, true_and, if_false_eq, if_true_eq, List.getElem?_cons_zero, List.getElem?_cons_succ, setAll, List.length_cons, List.length_nil, List.length_set, List.getD_cons_zero, List.getD_cons_succ, Nat.le_refl, Int.le_refl, Nat.beq_refl, or_self, true_or, or_true, List.drop_zero, hD, ea, eb, h0, h1, nw, m1, m2, hX, sx])
    | (refine And.intro (by omega) ?_)
    | (refine ifI (fun hc => ?_) (fun hc => ?_) <;> first | (exfalso; omega) | skip)
    | (first | (apply hK; clear hK K) | (clear hK K; apply hK; clear hK K) | (clear hK K; clear hK K; apply hK; clear hK K) | (clear hK K; clear hK K; clear hK K; apply hK; clear hK K) | (clear hK K; clear hK K; clear hK K; clear hK K; apply hK; clear hK K) | (clear hK K; clear hK K; clear hK K; clear hK K; clear hK K; apply hK; clear hK K))
    | (refine And.intro ?_ ?_)
    | fail
  all_goals (refine ret_pure ?_; simp only [resL_tmp, resL_nil, tupOf, go_sem, ↓reduceIte, reduceCtorEq, Nat.reduceAdd, Nat.reduceMul, Nat.reduceSub, Nat.reduceLT, Nat.reduceLeDiff, Nat.reduceEqDiff, Nat.reduceBEq, Nat.reduceBneDiff, Int.reduceToNat, Int.toNat_natCast, eq_self, decide_true, decide_false, Int.reduceEq, and_true, true_and, if_false_eq, if_true_eq, List.getElem?_cons_zero, List.getElem?_cons_succ, setAll, List.length_cons, List.length_nil, List.length_set, List.getD_cons_zero, List.getD_cons_succ, Nat.le_refl, Int.le_refl, Nat.beq_refl, or_self, true_or, or_true, List.drop_zero, hD])

set_option maxHeartbeats 2000000 in
set_option maxRecDepth 20000 in
theorem pct_r1 (a b : Int) (v1 : PCall Tryd.prog 16 [SV.agg [I64 a, I64 b]] (SB true)) (h0 : ¬ a < 0) (h1 : ¬ b < a) (s1 : PCall Tryd.prog 34 [I64 a] (.agg [U64 0, U64 a.natAbs])) (s2 : PCall Tryd.prog 34 [I64 b] (.agg [U64 0, U64 b.natAbs]))
    (T n m : Nat) (t1 : PCall Tryd.prog 40 [.agg [U64 0, U64 a.natAbs], .agg [U64 0, U64 10000]] (Wd T)) (o1 : PCall Tryd.prog 45 [Wd T, .agg [U64 0, U64 b.natAbs]] (.tup [Wd n, Wd m])) (nw : n % 18446744073709551616 = n) (X Y : ByteArray) (hX : (1 : Int) ≤ (X.size : Nat)) (hXs : X.size ≤ 30) (hYs : Y.size ≤ 30)
    (m1 : IntKind.u64.wrap (100 + Int.tmod (n : Int) 100) = ((100 + n % 100 : Nat) : Int)) (m2 : IntKind.u64.wrap (Int.tdiv (n : Int) 100) = ((n / 100 : Nat) : Int))
    (f1 : PCall Tryd.prog 44 [U64 (100 + n % 100 : Nat), I64 10] (Str X)) (f2 : PCall Tryd.prog 44 [U64 (n / 100 : Nat), I64 10] (Str Y)) :
    PCall Tryd.prog 20 [.agg [I64 a, I64 b]] (.tup [Str (Y ++ ⟨#[46]⟩ ++ X.extract 1 X.size), I64 0]) := by
  have sx : (X.extract 1 X.size).size = X.size - 1 := by rw [ByteArray.size_extract, Nat.min_self]
  refine Call.enter' (N := 45) (rs := [.tmp 2, .tmp 3]) Tryd.func20 rfl rfl rfl (by decide) rfl ?_; simp only [argT]; have hD : (0 : Nat) = 0 := rfl
  repeat' first
    | (refine SW.seq_k fun K hK => ?_)
    | (refine SW.block ?_)
    | ((first
      | refine SW.region ?_
      | refine SW.regionZ (id := 5) (Checked.mixed Tryd.checked) ((.one 0 [0, 1, 2, 4, 7, 8, 9, 10, 11, 14, 15] (.one 1 [1, 2, 4, 7, 8, 9, 10, 11, 14, 15] (.one 2 [2, 4, 7, 8, 9, 10, 11, 14, 15] (.one 3 [3, 4, 7, 8, 9, 10, 11, 14, 15] (.one 4 [4, 7, 8, 9, 10, 11, 14, 15] (.one 5 [5, 6, 7, 8, 9, 10, 11, 14, 15] (.one 6 [6, 7, 8, 9, 10, 11, 14, 15] (.one 7 [7, 8, 9, 10, 11, 14, 15] (.one 8 [8, 9, 10, 11, 14, 15] (.one 9 [9, 10, 11, 14, 15] (.one 10 [10, 14, 15] (.alt 11 (.alt 12 (.alt 13 (.alt 14 (.alt 15 .done .nil) .nil) .nil) (.alt 13 (.alt 12 (.alt 14 (.alt 15 .done .nil) .nil) .nil) .nil)) (.alt 12 (.alt 11 (.alt 13 (.alt 14 (.alt 15 .done .nil) .nil) .nil) (.alt 13 (.alt 11 (.alt 14 (.alt 15 .done .nil) .nil) (.alt 14 (.one 11 [11, 15] (.alt 15 .done .nil)) .nil)) .nil)) (.alt 13 (.alt 11 (.alt 12 (.alt 14 (.alt 15 .done .nil) .nil) .nil) (.alt 12 (.alt 11 (.alt 14 (.alt 15 .done .nil) .nil) (.alt 14 (.one 11 [11, 15] (.alt 15 .done .nil)) .nil)) .nil)) .nil)))))))))))))) : OZ) (by kernel_rfl) ?_
      | refine SW.regionZ (id := 7) (Checked.mixed Tryd.checked) ((.one 0 [0, 1, 2, 3, 4, 7, 8, 9] (.one 1 [1, 2, 3, 4, 7, 8, 9] (.one 2 [2, 3, 4, 7, 8, 9] (.one 3 [3, 4, 7, 8, 9] (.one 4 [4, 7, 8, 9] (.one 5 [5, 6, 7, 8, 9] (.one 6 [6, 7, 8, 9] (.one 7 [7, 8, 9] (.one 8 [8, 9] (.one 9 [9] .done)))))))))) : OZ) (by kernel_rfl) ?_
      | refine SW.regionD (Checked.mixed Tryd.checked) (by kernel_rfl) ?_
      | refine SW.cond ?_
      | refine SW.skip ?_
      | refine SW.exit ?_
      | refine SW.ret ?_
      | refine Call.of_pure (v1) ?_
      | refine ⟨_, v1, ?_⟩
      | refine Call.of_pure (s1) ?_
      | refine ⟨_, s1, ?_⟩
      | refine Call.of_pure (s2) ?_
      | refine ⟨_, s2, ?_⟩
      | refine Call.of_pure (t1) ?_
      | refine ⟨_, t1, ?_⟩
      | refine Call.of_pure (o1) ?_
      | refine ⟨_, o1, ?_⟩
      | refine Call.of_pure (f1) ?_
      | refine ⟨_, f1, ?_⟩
      | refine Call.of_pure (f2) ?_
      | refine ⟨_, f2, ?_⟩
      | (refine allF_i fun b hb => ?_; replace hD := And.intro hb hD; clear hb; simp only [fresh_cons, fresh_nil, and_true, ne_eq, neF] at hD)
      | simp only [appK, appOsK]); try simp only [go_sem, ↓reduceIte, reduceCtorEq, Nat.reduceAdd, Nat.reduceMul, Nat.reduceSub, Nat.reduceLT, Nat.reduceLeDiff, Nat.reduceEqDiff, Nat.reduceBEq, Nat.reduceBneDiff, Int.reduceToNat, Int.toNat_natCast, eq_self, decide_true, decide_false, Int.reduceEq, and_true, true_and, if_false_eq, if_true_eq, List.getElem?_cons_zero, List.getElem?_cons_succ, setAll, List.length_cons, List.length_nil, List.length_set, List.getD_cons_zero, List.getD_cons_succ, Nat.le_refl, Int.le_refl, Nat.beq_refl, or_self, true_or, or_true, List.drop_zero, hD, h0, h1, nw, m1, m2, hX, sx])
    | (refine And.intro (by omega) ?_)
    | (refine ifI (fun hc => ?_) (fun hc => ?_) <;> first | (exfalso; omega) | skip)
    | (first | (apply hK; clear hK K) | (clear hK K; apply hK; clear hK K) | (clear hK K; clear hK K; apply hK; clear hK K) | (clear hK K; clear hK K; clear hK K; apply hK; clear hK K) | (clear hK K; clear hK K; clear hK K; clear hK K; apply hK; clear hK K) | (clear hK K; clear hK K; clear hK K; clear hK K; clear hK K; apply hK; clear hK K))
    | (refine And.intro ?_ ?_)
    | fail
  all_goals (refine ret_pure ?_; simp only [resL_tmp, resL_nil, tupOf, go_sem, ↓reduceIte, reduceCtorEq, Nat.reduceAdd, Nat.reduceMul, Nat.reduceSub, Nat.reduceLT, Nat.reduceLeDiff, Nat.reduceEqDiff, Nat.reduceBEq, Nat.reduceBneDiff, Int.reduceToNat, Int.toNat_natCast, eq_self, decide_true, decide_false, Int.reduceEq, and_true, true_and, if_false_eq, if_true_eq, List.getElem?_cons_zero, List.getElem?_cons_succ, setAll, List.length_cons, List.length_nil, List.length_set, List.getD_cons_zero, List.getD_cons_succ, Nat.le_refl, Int.le_refl, Nat.beq_refl, or_self, true_or, or_true, List.drop_zero, hD])

theorem pct_n {a b : Int} (h0 : ¬ a < 0) (h1 : ¬ b < a) (hb : 0 < b) : a.natAbs * 10000 / b.natAbs ≤ 10000 := by
  have h : a.natAbs ≤ b.natAbs := by omega
  have h2 : a.natAbs * 10000 / b.natAbs < 10001 := by
    rw [Nat.div_lt_iff_lt_mul (by omega)]
    omega
  exact Nat.le_of_lt_succ h2

theorem pct_m (n : Nat) (h : n ≤ 10000) : IntKind.u64.wrap (100 + Int.tmod (n : Int) 100) = ((100 + n % 100 : Nat) : Int) ∧ IntKind.u64.wrap (Int.tdiv (n : Int) 100) = ((n / 100 : Nat) : Int) := by
  have e1 : Int.tmod (n : Int) 100 = ((n % 100 : Nat) : Int) := (Int.ofNat_tmod n 100).symm
  have e2 : Int.tdiv (n : Int) 100 = ((n / 100 : Nat) : Int) := (Int.ofNat_tdiv n 100).symm
  rw [e1, e2]
  refine ⟨by rw [u64n (by omega) (by omega)]; omega, u64n (by omega) (by omega)⟩

theorem pct_d (n : Nat) (h : n ≤ 10000) : (1 : Int) ≤ ((dec (100 + n % 100)).size : Nat) ∧ (dec (100 + n % 100)).size ≤ 30 ∧ (dec (n / 100)).size ≤ 30 := by
  rw [dec_size, dec_size]
  have h1 := Lib.nDigits_pos (100 + n % 100)
  have h2 := Lib.nDigits_le20 (100 + n % 100) (by omega)
  have h3 := Lib.nDigits_le20 (n / 100) (by omega)
  omega

set_option maxRecDepth 20000 in
theorem pct_p (a b : Int) (ha : In64 a) (hb : In64 b) : PCall Tryd.prog 19 [.agg [I64 a, I64 b]] (.tup [Str (pctR a b).1, I64 (pctR a b).2]) := by
  have v1 := valid_p a b ha.1 ha.2 hb.1 hb.2
  cases hv : okR a b with
  | false =>
    rw [hv] at v1
    have e : pctR a b = (⟨#[]⟩, 1) := by rw [pctR, if_neg (by rw [hv]; simp)]
    rw [e]
    refine Call.enter' (N := 45) (rs := [.tmp 2, .tmp 3]) Tryd.func19 rfl rfl rfl (by decide) rfl ?_; simp only [argT]; have hD : (0 : Nat) = 0 := rfl
    repeat' first
      | (refine SW.seq_k fun K hK => ?_)
      | (refine SW.block ?_)
      | ((first
      | refine SW.region ?_
      | refine SW.regionD (Checked.mixed Tryd.checked) (by kernel_rfl) ?_
      | refine SW.cond ?_
      | refine SW.skip ?_
      | refine SW.exit ?_
      | refine SW.ret ?_
      | refine Call.of_pure (v1) ?_
      | refine ⟨_, v1, ?_⟩
      | (refine allF_i fun b hb => ?_; replace hD := And.intro hb hD; clear hb; simp only [fresh_cons, fresh_nil, and_true, ne_eq, neF] at hD)
      | simp only [appK, appOsK]); try simp only [go_sem, ↓reduceIte, reduceCtorEq, Nat.reduceAdd, Nat.reduceMul, Nat.reduceSub, Nat.reduceLT, Nat.reduceLeDiff, Nat.reduceEqDiff, Nat.reduceBEq, Nat.reduceBneDiff, Int.reduceToNat, Int.toNat_natCast, eq_self, decide_true, decide_false, Int.reduceEq, and_true, true_and, if_false_eq, if_true_eq, List.getElem?_cons_zero, List.getElem?_cons_succ, setAll, List.length_cons, List.length_nil, List.length_set, List.getD_cons_zero, List.getD_cons_succ, Nat.le_refl, Int.le_refl, Nat.beq_refl, or_self, true_or, or_true, List.drop_zero, hD])
      | (refine And.intro (by omega) ?_)
      | (refine ifI (fun hc => ?_) (fun hc => ?_) <;> first | (exfalso; omega) | skip)
      | (first | (apply hK; clear hK K) | (clear hK K; apply hK; clear hK K) | (clear hK K; clear hK K; apply hK; clear hK K) | (clear hK K; clear hK K; clear hK K; apply hK; clear hK K) | (clear hK K; clear hK K; clear hK K; clear hK K; apply hK; clear hK K) | (clear hK K; clear hK K; clear hK K; clear hK K; clear hK K; apply hK; clear hK K))
      | fail
    refine ret_pure ?_; simp only [resL_tmp, resL_nil, tupOf, go_sem, ↓reduceIte, reduceCtorEq, Nat.reduceAdd, Nat.reduceMul, Nat.reduceSub, Nat.reduceLT, Nat.reduceLeDiff, Nat.reduceEqDiff, Nat.reduceBEq, Nat.reduceBneDiff, Int.reduceToNat, Int.toNat_natCast, eq_self, decide_true, decide_false, Int.reduceEq, and_true, true_and, if_false_eq, if_true_eq, List.getElem?_cons_zero, List.getElem?_cons_succ, setAll, List.length_cons, List.length_nil, List.length_set, List.getD_cons_zero, List.getD_cons_succ, Nat.le_refl, Int.le_refl, Nat.beq_refl, or_self, true_or, or_true, List.drop_zero, hD]
  | true =>
    rw [hv] at v1
    have hb0 := okR_den hv
    have e : pctR a b = if a < 0 ∨ b < a then (⟨#[]⟩, 7) else (pctS (a.natAbs * 10000 / b.natAbs), 0) := by rw [pctR, if_pos hv]
    by_cases h0 : a < 0
    · rw [e, if_pos (.inl h0)]
      refine Call.enter' (N := 45) (rs := [.tmp 2, .tmp 3]) Tryd.func19 rfl rfl rfl (by decide) rfl ?_; simp only [argT]; have hD : (0 : Nat) = 0 := rfl
      repeat' first
        | (refine SW.seq_k fun K hK => ?_)
        | (refine SW.block ?_)
        | ((first
      | refine SW.region ?_
      | refine SW.regionD (Checked.mixed Tryd.checked) (by kernel_rfl) ?_
      | refine SW.cond ?_
      | refine SW.skip ?_
      | refine SW.exit ?_
      | refine SW.ret ?_
      | refine Call.of_pure (v1) ?_
      | refine ⟨_, v1, ?_⟩
      | (refine allF_i fun b hb => ?_; replace hD := And.intro hb hD; clear hb; simp only [fresh_cons, fresh_nil, and_true, ne_eq, neF] at hD)
      | simp only [appK, appOsK]); try simp only [go_sem, ↓reduceIte, reduceCtorEq, Nat.reduceAdd, Nat.reduceMul, Nat.reduceSub, Nat.reduceLT, Nat.reduceLeDiff, Nat.reduceEqDiff, Nat.reduceBEq, Nat.reduceBneDiff, Int.reduceToNat, Int.toNat_natCast, eq_self, decide_true, decide_false, Int.reduceEq, and_true, true_and, if_false_eq, if_true_eq, List.getElem?_cons_zero, List.getElem?_cons_succ, setAll, List.length_cons, List.length_nil, List.length_set, List.getD_cons_zero, List.getD_cons_succ, Nat.le_refl, Int.le_refl, Nat.beq_refl, or_self, true_or, or_true, List.drop_zero, hD, h0])
        | (refine And.intro (by omega) ?_)
        | (refine ifI (fun hc => ?_) (fun hc => ?_) <;> first | (exfalso; omega) | skip)
        | (first | (apply hK; clear hK K) | (clear hK K; apply hK; clear hK K) | (clear hK K; clear hK K; apply hK; clear hK K) | (clear hK K; clear hK K; clear hK K; apply hK; clear hK K) | (clear hK K; clear hK K; clear hK K; clear hK K; apply hK; clear hK K) | (clear hK K; clear hK K; clear hK K; clear hK K; clear hK K; apply hK; clear hK K))
        | fail
      refine ret_pure ?_; simp only [resL_tmp, resL_nil, tupOf, go_sem, ↓reduceIte, reduceCtorEq, Nat.reduceAdd, Nat.reduceMul, Nat.reduceSub, Nat.reduceLT, Nat.reduceLeDiff, Nat.reduceEqDiff, Nat.reduceBEq, Nat.reduceBneDiff, Int.reduceToNat, Int.toNat_natCast, eq_self, decide_true, decide_false, Int.reduceEq, and_true, true_and, if_false_eq, if_true_eq, List.getElem?_cons_zero, List.getElem?_cons_succ, setAll, List.length_cons, List.length_nil, List.length_set, List.getD_cons_zero, List.getD_cons_succ, Nat.le_refl, Int.le_refl, Nat.beq_refl, or_self, true_or, or_true, List.drop_zero, hD]
    · by_cases h1 : b < a
      · rw [e, if_pos (.inr h1)]
        refine Call.enter' (N := 45) (rs := [.tmp 2, .tmp 3]) Tryd.func19 rfl rfl rfl (by decide) rfl ?_; simp only [argT]; have hD : (0 : Nat) = 0 := rfl
        repeat' first
          | (refine SW.seq_k fun K hK => ?_)
          | (refine SW.block ?_)
          | ((first
      | refine SW.region ?_
      | refine SW.regionD (Checked.mixed Tryd.checked) (by kernel_rfl) ?_
      | refine SW.cond ?_
      | refine SW.skip ?_
      | refine SW.exit ?_
      | refine SW.ret ?_
      | refine Call.of_pure (v1) ?_
      | refine ⟨_, v1, ?_⟩
      | (refine allF_i fun b hb => ?_; replace hD := And.intro hb hD; clear hb; simp only [fresh_cons, fresh_nil, and_true, ne_eq, neF] at hD)
      | simp only [appK, appOsK]); try simp only [go_sem, ↓reduceIte, reduceCtorEq, Nat.reduceAdd, Nat.reduceMul, Nat.reduceSub, Nat.reduceLT, Nat.reduceLeDiff, Nat.reduceEqDiff, Nat.reduceBEq, Nat.reduceBneDiff, Int.reduceToNat, Int.toNat_natCast, eq_self, decide_true, decide_false, Int.reduceEq, and_true, true_and, if_false_eq, if_true_eq, List.getElem?_cons_zero, List.getElem?_cons_succ, setAll, List.length_cons, List.length_nil, List.length_set, List.getD_cons_zero, List.getD_cons_succ, Nat.le_refl, Int.le_refl, Nat.beq_refl, or_self, true_or, or_true, List.drop_zero, hD, h0, h1])
          | (refine And.intro (by omega) ?_)
          | (refine ifI (fun hc => ?_) (fun hc => ?_) <;> first | (exfalso; omega) | skip)
          | (first | (apply hK; clear hK K) | (clear hK K; apply hK; clear hK K) | (clear hK K; clear hK K; apply hK; clear hK K) | (clear hK K; clear hK K; clear hK K; apply hK; clear hK K) | (clear hK K; clear hK K; clear hK K; clear hK K; apply hK; clear hK K) | (clear hK K; clear hK K; clear hK K; clear hK K; clear hK K; apply hK; clear hK K))
          | fail
        refine ret_pure ?_; simp only [resL_tmp, resL_nil, tupOf, go_sem, ↓reduceIte, reduceCtorEq, Nat.reduceAdd, Nat.reduceMul, Nat.reduceSub, Nat.reduceLT, Nat.reduceLeDiff, Nat.reduceEqDiff, Nat.reduceBEq, Nat.reduceBneDiff, Int.reduceToNat, Int.toNat_natCast, eq_self, decide_true, decide_false, Int.reduceEq, and_true, true_and, if_false_eq, if_true_eq, List.getElem?_cons_zero, List.getElem?_cons_succ, setAll, List.length_cons, List.length_nil, List.length_set, List.getD_cons_zero, List.getD_cons_succ, Nat.le_refl, Int.le_refl, Nat.beq_refl, or_self, true_or, or_true, List.drop_zero, hD]
      · rw [e, if_neg (by omega)]
        have la := ha.abs
        have lb := hb.abs
        have hn := pct_n h0 h1 hb0
        have t1 := times_p a.natAbs 10000 (by omega) (by omega)
        have o1 := over_p (a.natAbs * 10000) b.natAbs (by omega) (by omega) (by omega)
        generalize a.natAbs * 10000 / b.natAbs = n at *
        obtain ⟨m1, m2⟩ := pct_m n hn
        obtain ⟨d1, d2, d3⟩ := pct_d n hn
        exact pct_p1 a b v1 (absw_pos (by omega) ha.2) (absw_pos (by omega) hb.2) h0 h1 _ n t1 o1 (Nat.mod_eq_of_lt (by omega)) (dec (100 + n % 100)) (dec (n / 100)) d1 d2 d3 m1 m2 (fmtUint _ (by omega)) (fmtUint _ (by omega))

set_option maxRecDepth 20000 in
theorem pct_r (a b : Int) (ha : In64 a) (hb : In64 b) : PCall Tryd.prog 20 [.agg [I64 a, I64 b]] (.tup [Str (pctR a b).1, I64 (pctR a b).2]) := by
  have v1 := valid_r a b ha.1 ha.2 hb.1 hb.2
  cases hv : okR a b with
  | false =>
    rw [hv] at v1
    have e : pctR a b = (⟨#[]⟩, 1) := by rw [pctR, if_neg (by rw [hv]; simp)]
    rw [e]
    refine Call.enter' (N := 45) (rs := [.tmp 2, .tmp 3]) Tryd.func20 rfl rfl rfl (by decide) rfl ?_; simp only [argT]; have hD : (0 : Nat) = 0 := rfl
    repeat' first
      | (refine SW.seq_k fun K hK => ?_)
      | (refine SW.block ?_)
      | ((first
      | refine SW.region ?_
      | refine SW.regionD (Checked.mixed Tryd.checked) (by kernel_rfl) ?_
      | refine SW.cond ?_
      | refine SW.skip ?_
      | refine SW.exit ?_
      | refine SW.ret ?_
      | refine Call.of_pure (v1) ?_
      | refine ⟨_, v1, ?_⟩
      | (refine allF_i fun b hb => ?_; replace hD := And.intro hb hD; clear hb; simp only [fresh_cons, fresh_nil, and_true, ne_eq, neF] at hD)
      | simp only [appK, appOsK]); try simp only [go_sem, ↓reduceIte, reduceCtorEq, Nat.reduceAdd, Nat.reduceMul, Nat.reduceSub, Nat.reduceLT, Nat.reduceLeDiff, Nat.reduceEqDiff, Nat.reduceBEq, Nat.reduceBneDiff, Int.reduceToNat, Int.toNat_natCast, eq_self, decide_true, decide_false, Int.reduceEq, and_true, true_and, if_false_eq, if_true_eq, List.getElem?_cons_zero, List.getElem?_cons_succ, setAll, List.length_cons, List.length_nil, List.length_set, List.getD_cons_zero, List.getD_cons_succ, Nat.le_refl, Int.le_refl, Nat.beq_refl, or_self, true_or, or_true, List.drop_zero, hD])
      | (refine And.intro (by omega) ?_)
      | (refine ifI (fun hc => ?_) (fun hc => ?_) <;> first | (exfalso; omega) | skip)
      | (first | (apply hK; clear hK K) | (clear hK K; apply hK; clear hK K) | (clear hK K; clear hK K; apply hK; clear hK K) | (clear hK K; clear hK K; clear hK K; apply hK; clear hK K) | (clear hK K; clear hK K; clear hK K; clear hK K; apply hK; clear hK K) | (clear hK K; clear hK K; clear hK K; clear hK K; clear hK K; apply hK; clear hK K))
      | fail
    refine ret_pure ?_; simp only [resL_tmp, resL_nil, tupOf, go_sem, ↓reduceIte, reduceCtorEq, Nat.reduceAdd, Nat.reduceMul, Nat.reduceSub, Nat.reduceLT, Nat.reduceLeDiff, Nat.reduceEqDiff, Nat.reduceBEq, Nat.reduceBneDiff, Int.reduceToNat, Int.toNat_natCast, eq_self, decide_true, decide_false, Int.reduceEq, and_true, true_and, if_false_eq, if_true_eq, List.getElem?_cons_zero, List.getElem?_cons_succ, setAll, List.length_cons, List.length_nil, List.length_set, List.getD_cons_zero, List.getD_cons_succ, Nat.le_refl, Int.le_refl, Nat.beq_refl, or_self, true_or, or_true, List.drop_zero, hD]
  | true =>
    rw [hv] at v1
    have hb0 := okR_den hv
    have e : pctR a b = if a < 0 ∨ b < a then (⟨#[]⟩, 7) else (pctS (a.natAbs * 10000 / b.natAbs), 0) := by rw [pctR, if_pos hv]
    by_cases h0 : a < 0
    · rw [e, if_pos (.inl h0)]
      refine Call.enter' (N := 45) (rs := [.tmp 2, .tmp 3]) Tryd.func20 rfl rfl rfl (by decide) rfl ?_; simp only [argT]; have hD : (0 : Nat) = 0 := rfl
      repeat' first
        | (refine SW.seq_k fun K hK => ?_)
        | (refine SW.block ?_)
        | ((first
      | refine SW.region ?_
      | refine SW.regionD (Checked.mixed Tryd.checked) (by kernel_rfl) ?_
      | refine SW.cond ?_
      | refine SW.skip ?_
      | refine SW.exit ?_
      | refine SW.ret ?_
      | refine Call.of_pure (v1) ?_
      | refine ⟨_, v1, ?_⟩
      | (refine allF_i fun b hb => ?_; replace hD := And.intro hb hD; clear hb; simp only [fresh_cons, fresh_nil, and_true, ne_eq, neF] at hD)
      | simp only [appK, appOsK]); try simp only [go_sem, ↓reduceIte, reduceCtorEq, Nat.reduceAdd, Nat.reduceMul, Nat.reduceSub, Nat.reduceLT, Nat.reduceLeDiff, Nat.reduceEqDiff, Nat.reduceBEq, Nat.reduceBneDiff, Int.reduceToNat, Int.toNat_natCast, eq_self, decide_true, decide_false, Int.reduceEq, and_true, true_and, if_false_eq, if_true_eq, List.getElem?_cons_zero, List.getElem?_cons_succ, setAll, List.length_cons, List.length_nil, List.length_set, List.getD_cons_zero, List.getD_cons_succ, Nat.le_refl, Int.le_refl, Nat.beq_refl, or_self, true_or, or_true, List.drop_zero, hD, h0])
        | (refine And.intro (by omega) ?_)
        | (refine ifI (fun hc => ?_) (fun hc => ?_) <;> first | (exfalso; omega) | skip)
        | (first | (apply hK; clear hK K) | (clear hK K; apply hK; clear hK K) | (clear hK K; clear hK K; apply hK; clear hK K) | (clear hK K; clear hK K; clear hK K; apply hK; clear hK K) | (clear hK K; clear hK K; clear hK K; clear hK K; apply hK; clear hK K) | (clear hK K; clear hK K; clear hK K; clear hK K; clear hK K; apply hK; clear hK K))
        | fail
      refine ret_pure ?_; simp only [resL_tmp, resL_nil, tupOf, go_sem, ↓reduceIte, reduceCtorEq, Nat.reduceAdd, Nat.reduceMul, Nat.reduceSub, Nat.reduceLT, Nat.reduceLeDiff, Nat.reduceEqDiff, Nat.reduceBEq, Nat.reduceBneDiff, Int.reduceToNat, Int.toNat_natCast, eq_self, decide_true, decide_false, Int.reduceEq, and_true, true_and, if_false_eq, if_true_eq, List.getElem?_cons_zero, List.getElem?_cons_succ, setAll, List.length_cons, List.length_nil, List.length_set, List.getD_cons_zero, List.getD_cons_succ, Nat.le_refl, Int.le_refl, Nat.beq_refl, or_self, true_or, or_true, List.drop_zero, hD]
    · by_cases h1 : b < a
      · rw [e, if_pos (.inr h1)]
        refine Call.enter' (N := 45) (rs := [.tmp 2, .tmp 3]) Tryd.func20 rfl rfl rfl (by decide) rfl ?_; simp only [argT]; have hD : (0 : Nat) = 0 := rfl
        repeat' first
          | (refine SW.seq_k fun K hK => ?_)
          | (refine SW.block ?_)
          | ((first
      | refine SW.region ?_
      | refine SW.regionD (Checked.mixed Tryd.checked) (by kernel_rfl) ?_
      | refine SW.cond ?_
      | refine SW.skip ?_
      | refine SW.exit ?_
      | refine SW.ret ?_
      | refine Call.of_pure (v1) ?_
      | refine ⟨_, v1, ?_⟩
      | (refine allF_i fun b hb => ?_; replace hD := And.intro hb hD; clear hb; simp only [fresh_cons, fresh_nil, and_true, ne_eq, neF] at hD)
      | simp only [appK, appOsK]); try simp only [go_sem, ↓reduceIte, reduceCtorEq, Nat.reduceAdd, Nat.reduceMul, Nat.reduceSub, Nat.reduceLT, Nat.reduceLeDiff, Nat.reduceEqDiff, Nat.reduceBEq, Nat.reduceBneDiff, Int.reduceToNat, Int.toNat_natCast, eq_self, decide_true, decide_false, Int.reduceEq, and_true, true_and, if_false_eq, if_true_eq, List.getElem?_cons_zero, List.getElem?_cons_succ, setAll, List.length_cons, List.length_nil, List.length_set, List.getD_cons_zero, List.getD_cons_succ, Nat.le_refl, Int.le_refl, Nat.beq_refl, or_self, true_or, or_true, List.drop_zero, hD, h0, h1])
          | (refine And.intro (by omega) ?_)
          | (refine ifI (fun hc => ?_) (fun hc => ?_) <;> first | (exfalso; omega) | skip)
          | (first | (apply hK; clear hK K) | (clear hK K; apply hK; clear hK K) | (clear hK K; clear hK K; apply hK; clear hK K) | (clear hK K; clear hK K; clear hK K; apply hK; clear hK K) | (clear hK K; clear hK K; clear hK K; clear hK K; apply hK; clear hK K) | (clear hK K; clear hK K; clear hK K; clear hK K; clear hK K; apply hK; clear hK K))
          | fail
        refine ret_pure ?_; simp only [resL_tmp, resL_nil, tupOf, go_sem, ↓reduceIte, reduceCtorEq, Nat.reduceAdd, Nat.reduceMul, Nat.reduceSub, Nat.reduceLT, Nat.reduceLeDiff, Nat.reduceEqDiff, Nat.reduceBEq, Nat.reduceBneDiff, Int.reduceToNat, Int.toNat_natCast, eq_self, decide_true, decide_false, Int.reduceEq, and_true, true_and, if_false_eq, if_true_eq, List.getElem?_cons_zero, List.getElem?_cons_succ, setAll, List.length_cons, List.length_nil, List.length_set, List.getD_cons_zero, List.getD_cons_succ, Nat.le_refl, Int.le_refl, Nat.beq_refl, or_self, true_or, or_true, List.drop_zero, hD]
      · rw [e, if_neg (by omega)]
        have la := ha.abs
        have lb := hb.abs
        have hn := pct_n h0 h1 hb0
        have t1 := times_r a.natAbs 10000 (by omega) (by omega)
        have o1 := parts_r (a.natAbs * 10000) b.natAbs (by omega) (by omega) (by omega)
        rw [Wd_small (x := b.natAbs) (by omega)] at o1
        generalize a.natAbs * 10000 / b.natAbs = n at *
        obtain ⟨m1, m2⟩ := pct_m n hn
        obtain ⟨d1, d2, d3⟩ := pct_d n hn
        exact pct_r1 a b v1 h0 h1 (size_r a ha.1 ha.2) (size_r b hb.1 hb.2) _ n _ t1 o1 (Nat.mod_eq_of_lt (by omega)) (dec (100 + n % 100)) (dec (n / 100)) d1 d2 d3 m1 m2 (fmtUint _ (by omega)) (fmtUint _ (by omega))
end Go.Proofs.YtcbgkcjlechdnaaDoor
