/- Contracts: Add of the reference; Cmp and Mul of the program. -/
import Derived.Test.YtcbgkcjlechdnaaDoorR7
set_option linter.unusedSimpArgs false
set_option linter.unusedVariables false
set_option linter.unusedSectionVars false
namespace Go.Ab
open Go
/-- Add. -/
def addR (a b c d : Int) : Int × Int × Int := if okR a b = true ∧ okR c d = true then
    (if (decide (a < 0) == decide (c < 0)) = true then bldR (decide (a < 0)) (a.natAbs * d.natAbs + c.natAbs * b.natAbs) (b.natAbs * d.natAbs)
    else if a.natAbs * d.natAbs < c.natAbs * b.natAbs then bldR (decide (c < 0)) (c.natAbs * b.natAbs - a.natAbs * d.natAbs) (b.natAbs * d.natAbs)
    else bldR (decide (a < 0)) (a.natAbs * d.natAbs - c.natAbs * b.natAbs) (b.natAbs * d.natAbs)) else (0, 0, 1)
/-- Mul, with the common divisors taken away ahead. -/
def mulP (a b c d : Int) : Int × Int × Int := if okR a b = true ∧ okR c d = true then
    (if a = 0 ∨ c = 0 then (0, 1, 0) else
      let g := Nat.gcd a.natAbs d.natAbs
      let h := Nat.gcd c.natAbs b.natAbs
      if 18446744073709551616 ≤ a.natAbs / g * (c.natAbs / h) ∨ 18446744073709551616 ≤ b.natAbs / h * (d.natAbs / g) then (0, 0, 7)
      else ofR (!(decide (a < 0) == decide (c < 0))) (a.natAbs / g * (c.natAbs / h)) (b.natAbs / h * (d.natAbs / g))) else (0, 0, 1)
theorem div_le63 {x g : Nat} (h : x ≤ 9223372036854775808) : x / g ≤ 9223372036854775808 := Nat.le_trans (Nat.div_le_self _ _) h
end Go.Ab
namespace Go.Proofs.YtcbgkcjlechdnaaDoor
open Go Go.Ab
variable [Gl]


set_option maxRecDepth 20000 in
theorem add_r1 (a b c d : Int) (X Y D : Nat) (v1 : PCall Tryd.prog 16 [SV.agg [I64 a, I64 b]] (SB true)) (v2 : PCall Tryd.prog 16 [SV.agg [I64 c, I64 d]] (SB true))
    (s1 : PCall Tryd.prog 34 [I64 a] (SV.agg [U64 0, U64 a.natAbs])) (s2 : PCall Tryd.prog 34 [I64 b] (SV.agg [U64 0, U64 b.natAbs])) (s3 : PCall Tryd.prog 34 [I64 c] (SV.agg [U64 0, U64 c.natAbs])) (s4 : PCall Tryd.prog 34 [I64 d] (SV.agg [U64 0, U64 d.natAbs]))
    (t1 : PCall Tryd.prog 40 [SV.agg [U64 0, U64 a.natAbs], SV.agg [U64 0, U64 d.natAbs]] (Wd X)) (t2 : PCall Tryd.prog 40 [SV.agg [U64 0, U64 c.natAbs], SV.agg [U64 0, U64 b.natAbs]] (Wd Y)) (t3 : PCall Tryd.prog 40 [SV.agg [U64 0, U64 b.natAbs], SV.agg [U64 0, U64 d.natAbs]] (Wd D))
    (u1 : PCall Tryd.prog 41 [Wd X, Wd Y] (Wd (X + Y))) (R : Int × Int × Int) (o1 : PCall Tryd.prog 33 [SB (decide (a < 0)), Wd (X + Y), Wd D] (FR R)) (hs : (decide (a < 0) == decide (c < 0)) = true) : PCall Tryd.prog 18 [.agg [I64 a, I64 b], .agg [I64 c, I64 d]] (FR R) := by
  refine Call.enter' (N := 79) (rs := [.cell 4 24, .tmp 5]) Tryd.func18 rfl rfl rfl (by decide) rfl ?_; simp only [argT]; have hD : (0 : Nat) = 0 := rfl
  repeat' first
    | (refine SW.seq_k fun K hK => ?_)
    | (refine SW.block ?_)
    | ((first
      | refine SW.region ?_
      | refine SW.regionZ (id := 3) (Checked.mixed Tryd.checked) ((.one 0 [0, 1, 2, 5, 6, 9, 12, 13, 16, 17] (.one 1 [1, 2, 5, 6, 9, 12, 13, 16, 17] (.one 2 [2, 5, 6, 9, 12, 13, 16, 17] (.one 3 [3, 4, 5, 6, 9, 12, 13, 16, 17] (.one 4 [4, 5, 6, 9, 12, 13, 16, 17] (.one 5 [5, 6, 9, 12, 13, 16, 17] (.one 6 [6, 9, 12, 13, 16, 17] (.one 7 [7, 8, 9, 12, 13, 16, 17] (.one 8 [8, 9, 12, 13, 16, 17] (.one 9 [9, 12, 13, 16, 17] (.one 10 [10, 11, 12, 13, 16, 17] (.one 11 [11, 12, 13, 16, 17] (.one 12 [12, 13, 16, 17] (.one 13 [13, 16, 17] (.alt 14 (.alt 15 (.alt 16 (.alt 17 .done .nil) .nil) .nil) (.alt 15 (.alt 14 (.alt 16 (.alt 17 .done .nil) .nil) .nil) .nil)))))))))))))))) : OZ) (by kernel_rfl) ?_
      | refine SW.regionZ (id := 4) (Checked.mixed Tryd.checked) ((.one 0 [0, 1, 2, 5, 6, 8] (.one 1 [1, 2, 5, 6, 8] (.one 2 [2, 5, 6, 8] (.one 3 [3, 4, 5, 6, 8] (.one 4 [4, 5, 6, 8] (.one 5 [5, 6, 8] (.one 6 [6, 8] (.alt 7 (.alt 8 .done .nil) .nil)))))))) : OZ) (by kernel_rfl) ?_
      | refine SW.regionZ (id := 6) (Checked.mixed Tryd.checked) ((.one 0 [0, 1, 2, 7, 8, 9, 10, 11] (.one 1 [1, 2, 7, 8, 9, 10, 11] (.one 2 [2, 7, 8, 9, 10, 11] (.one 3 [3, 5, 7, 8, 9, 10, 11] (.one 4 [4, 5, 7, 8, 9, 10, 11] (.one 5 [5, 7, 8, 9, 10, 11] (.one 6 [6, 7, 8, 9, 10, 11] (.one 7 [7, 8, 9, 10, 11] (.one 8 [8, 10, 11] (.one 9 [9, 10, 11] (.alt 10 (.one 11 [11] .done) .nil))))))))))) : OZ) (by kernel_rfl) ?_
      | refine SW.regionZ (id := 8) (Checked.mixed Tryd.checked) ((.one 0 [0, 1, 2, 7, 8, 9, 10, 11] (.one 1 [1, 2, 7, 8, 9, 10, 11] (.one 2 [2, 7, 8, 9, 10, 11] (.one 3 [3, 5, 7, 8, 9, 10, 11] (.one 4 [4, 5, 7, 8, 9, 10, 11] (.one 5 [5, 7, 8, 9, 10, 11] (.one 6 [6, 7, 8, 9, 10, 11] (.one 7 [7, 8, 9, 10, 11] (.one 8 [8, 10, 11] (.one 9 [9, 10, 11] (.alt 10 (.one 11 [11] .done) .nil))))))))))) : OZ) (by kernel_rfl) ?_
      | refine SW.regionZ (id := 9) (Checked.mixed Tryd.checked) ((.one 0 [0, 1, 2, 7, 8, 9, 10, 11] (.one 1 [1, 2, 7, 8, 9, 10, 11] (.one 2 [2, 7, 8, 9, 10, 11] (.one 3 [3, 5, 7, 8, 9, 10, 11] (.one 4 [4, 5, 7, 8, 9, 10, 11] (.one 5 [5, 7, 8, 9, 10, 11] (.one 6 [6, 7, 8, 9, 10, 11] (.one 7 [7, 8, 9, 10, 11] (.one 8 [8, 10, 11] (.one 9 [9, 10, 11] (.alt 10 (.one 11 [11] .done) .nil))))))))))) : OZ) (by kernel_rfl) ?_
      | refine SW.regionD (Checked.mixed Tryd.checked) (by kernel_rfl) ?_
      | refine SW.cond ?_
      | refine SW.skip ?_
      | refine SW.exit ?_
      | refine SW.ret ?_
      | refine Call.of_pure (v1) ?_
      | refine ⟨_, v1, ?_⟩
      | refine Call.of_pure (v2) ?_
      | refine ⟨_, v2, ?_⟩
      | refine Call.of_pure (s1) ?_
      | refine ⟨_, s1, ?_⟩
      | refine Call.of_pure (s2) ?_
      | refine ⟨_, s2, ?_⟩
      | refine Call.of_pure (s3) ?_
      | refine ⟨_, s3, ?_⟩
      | refine Call.of_pure (s4) ?_
      | refine ⟨_, s4, ?_⟩
      | refine Call.of_pure (t1) ?_
      | refine ⟨_, t1, ?_⟩
      | refine Call.of_pure (t2) ?_
      | refine ⟨_, t2, ?_⟩
      | refine Call.of_pure (t3) ?_
      | refine ⟨_, t3, ?_⟩
      | refine Call.of_pure (u1) ?_
      | refine ⟨_, u1, ?_⟩
      | refine Call.of_pure (o1) ?_
      | refine ⟨_, o1, ?_⟩
      | (refine allF_i fun b hb => ?_; replace hD := And.intro hb hD; clear hb; simp only [fresh_cons, fresh_nil, and_true, ne_eq, neF] at hD)
      | simp only [appK, appOsK]); try simp only [go_sem, ↓reduceIte, reduceCtorEq, Nat.reduceAdd, Nat.reduceMul, Nat.reduceSub, Nat.reduceLT, Nat.reduceLeDiff, Nat.reduceEqDiff, Nat.reduceBEq, Nat.reduceBneDiff, Int.reduceToNat, Int.toNat_natCast, eq_self, decide_true, decide_false, Int.reduceEq, and_true, true_and, if_false_eq, if_true_eq, List.getElem?_cons_zero, List.getElem?_cons_succ, setAll, List.length_cons, List.length_nil, List.length_set, List.getD_cons_zero, List.getD_cons_succ, Nat.le_refl, Int.le_refl, Nat.beq_refl, or_self, true_or, or_true, List.drop_zero, hD, hs])
    | (refine And.intro (by omega) ?_)
    | (refine ifI (fun hc => ?_) (fun hc => ?_) <;> first | (exfalso; omega) | skip)
    | (first | (apply hK; clear hK K) | (clear hK K; apply hK; clear hK K) | (clear hK K; clear hK K; apply hK; clear hK K) | (clear hK K; clear hK K; clear hK K; apply hK; clear hK K) | (clear hK K; clear hK K; clear hK K; clear hK K; apply hK; clear hK K) | (clear hK K; clear hK K; clear hK K; clear hK K; clear hK K; apply hK; clear hK K))
    | (refine And.intro ?_ ?_)
    | fail
  all_goals (apply ret_cell (i := 4) (n := 2); exact rfl; (simp only [go_sem, ↓reduceIte, reduceCtorEq, Nat.reduceAdd, Nat.reduceMul, Nat.reduceSub, Nat.reduceLT, Nat.reduceLeDiff, Nat.reduceEqDiff, Nat.reduceBEq, Nat.reduceBneDiff, Int.reduceToNat, Int.toNat_natCast, eq_self, decide_true, decide_false, Int.reduceEq, and_true, true_and, if_false_eq, if_true_eq, List.getElem?_cons_zero, List.getElem?_cons_succ, setAll, List.length_cons, List.length_nil, List.length_set, List.getD_cons_zero, List.getD_cons_succ, Nat.le_refl, Int.le_refl, Nat.beq_refl, or_self, true_or, or_true, List.drop_zero, hD]; try rfl); (first | exact Nat.le_refl _ | decide); simp only [resL_tmp, resL_cellE, resC_ok, resL_nil, tupOf, getN, go_sem, ↓reduceIte, reduceCtorEq, Nat.reduceAdd, Nat.reduceMul, Nat.reduceSub, Nat.reduceLT, Nat.reduceLeDiff, Nat.reduceEqDiff, Nat.reduceBEq, Nat.reduceBneDiff, Int.reduceToNat, Int.toNat_natCast, eq_self, decide_true, decide_false, Int.reduceEq, and_true, true_and, if_false_eq, if_true_eq, List.getElem?_cons_zero, List.getElem?_cons_succ, setAll, List.length_cons, List.length_nil, List.length_set, List.getD_cons_zero, List.getD_cons_succ, Nat.le_refl, Int.le_refl, Nat.beq_refl, or_self, true_or, or_true, List.drop_zero, hD])

set_option maxRecDepth 20000 in
theorem add_r2 (a b c d : Int) (X Y D : Nat) (v1 : PCall Tryd.prog 16 [SV.agg [I64 a, I64 b]] (SB true)) (v2 : PCall Tryd.prog 16 [SV.agg [I64 c, I64 d]] (SB true))
    (s1 : PCall Tryd.prog 34 [I64 a] (SV.agg [U64 0, U64 a.natAbs])) (s2 : PCall Tryd.prog 34 [I64 b] (SV.agg [U64 0, U64 b.natAbs])) (s3 : PCall Tryd.prog 34 [I64 c] (SV.agg [U64 0, U64 c.natAbs])) (s4 : PCall Tryd.prog 34 [I64 d] (SV.agg [U64 0, U64 d.natAbs]))
    (t1 : PCall Tryd.prog 40 [SV.agg [U64 0, U64 a.natAbs], SV.agg [U64 0, U64 d.natAbs]] (Wd X)) (t2 : PCall Tryd.prog 40 [SV.agg [U64 0, U64 c.natAbs], SV.agg [U64 0, U64 b.natAbs]] (Wd Y)) (t3 : PCall Tryd.prog 40 [SV.agg [U64 0, U64 b.natAbs], SV.agg [U64 0, U64 d.natAbs]] (Wd D))
    (l1 : PCall Tryd.prog 42 [Wd X, Wd Y] (SB (decide (X < Y)))) (u1 : PCall Tryd.prog 43 [Wd Y, Wd X] (Wd (Y - X))) (R : Int × Int × Int) (o1 : PCall Tryd.prog 33 [SB (decide (c < 0)), Wd (Y - X), Wd D] (FR R)) (hs : (decide (a < 0) == decide (c < 0)) = false) (hl : X < Y) : PCall Tryd.prog 18 [.agg [I64 a, I64 b], .agg [I64 c, I64 d]] (FR R) := by
  refine Call.enter' (N := 79) (rs := [.cell 4 24, .tmp 5]) Tryd.func18 rfl rfl rfl (by decide) rfl ?_; simp only [argT]; have hD : (0 : Nat) = 0 := rfl
  repeat' first
    | (refine SW.seq_k fun K hK => ?_)
    | (refine SW.block ?_)
    | ((first
      | refine SW.region ?_
      | refine SW.regionZ (id := 3) (Checked.mixed Tryd.checked) ((.one 0 [0, 1, 2, 5, 6, 9, 12, 13, 16, 17] (.one 1 [1, 2, 5, 6, 9, 12, 13, 16, 17] (.one 2 [2, 5, 6, 9, 12, 13, 16, 17] (.one 3 [3, 4, 5, 6, 9, 12, 13, 16, 17] (.one 4 [4, 5, 6, 9, 12, 13, 16, 17] (.one 5 [5, 6, 9, 12, 13, 16, 17] (.one 6 [6, 9, 12, 13, 16, 17] (.one 7 [7, 8, 9, 12, 13, 16, 17] (.one 8 [8, 9, 12, 13, 16, 17] (.one 9 [9, 12, 13, 16, 17] (.one 10 [10, 11, 12, 13, 16, 17] (.one 11 [11, 12, 13, 16, 17] (.one 12 [12, 13, 16, 17] (.one 13 [13, 16, 17] (.alt 14 (.alt 15 (.alt 16 (.alt 17 .done .nil) .nil) .nil) (.alt 15 (.alt 14 (.alt 16 (.alt 17 .done .nil) .nil) .nil) .nil)))))))))))))))) : OZ) (by kernel_rfl) ?_
      | refine SW.regionZ (id := 4) (Checked.mixed Tryd.checked) ((.one 0 [0, 1, 2, 5, 6, 8] (.one 1 [1, 2, 5, 6, 8] (.one 2 [2, 5, 6, 8] (.one 3 [3, 4, 5, 6, 8] (.one 4 [4, 5, 6, 8] (.one 5 [5, 6, 8] (.one 6 [6, 8] (.alt 7 (.alt 8 .done .nil) .nil)))))))) : OZ) (by kernel_rfl) ?_
      | refine SW.regionZ (id := 6) (Checked.mixed Tryd.checked) ((.one 0 [0, 1, 2, 7, 8, 9, 10, 11] (.one 1 [1, 2, 7, 8, 9, 10, 11] (.one 2 [2, 7, 8, 9, 10, 11] (.one 3 [3, 5, 7, 8, 9, 10, 11] (.one 4 [4, 5, 7, 8, 9, 10, 11] (.one 5 [5, 7, 8, 9, 10, 11] (.one 6 [6, 7, 8, 9, 10, 11] (.one 7 [7, 8, 9, 10, 11] (.one 8 [8, 10, 11] (.one 9 [9, 10, 11] (.alt 10 (.one 11 [11] .done) .nil))))))))))) : OZ) (by kernel_rfl) ?_
      | refine SW.regionZ (id := 8) (Checked.mixed Tryd.checked) ((.one 0 [0, 1, 2, 7, 8, 9, 10, 11] (.one 1 [1, 2, 7, 8, 9, 10, 11] (.one 2 [2, 7, 8, 9, 10, 11] (.one 3 [3, 5, 7, 8, 9, 10, 11] (.one 4 [4, 5, 7, 8, 9, 10, 11] (.one 5 [5, 7, 8, 9, 10, 11] (.one 6 [6, 7, 8, 9, 10, 11] (.one 7 [7, 8, 9, 10, 11] (.one 8 [8, 10, 11] (.one 9 [9, 10, 11] (.alt 10 (.one 11 [11] .done) .nil))))))))))) : OZ) (by kernel_rfl) ?_
      | refine SW.regionZ (id := 9) (Checked.mixed Tryd.checked) ((.one 0 [0, 1, 2, 7, 8, 9, 10, 11] (.one 1 [1, 2, 7, 8, 9, 10, 11] (.one 2 [2, 7, 8, 9, 10, 11] (.one 3 [3, 5, 7, 8, 9, 10, 11] (.one 4 [4, 5, 7, 8, 9, 10, 11] (.one 5 [5, 7, 8, 9, 10, 11] (.one 6 [6, 7, 8, 9, 10, 11] (.one 7 [7, 8, 9, 10, 11] (.one 8 [8, 10, 11] (.one 9 [9, 10, 11] (.alt 10 (.one 11 [11] .done) .nil))))))))))) : OZ) (by kernel_rfl) ?_
      | refine SW.regionD (Checked.mixed Tryd.checked) (by kernel_rfl) ?_
      | refine SW.cond ?_
      | refine SW.skip ?_
      | refine SW.exit ?_
      | refine SW.ret ?_
      | refine Call.of_pure (v1) ?_
      | refine ⟨_, v1, ?_⟩
      | refine Call.of_pure (v2) ?_
      | refine ⟨_, v2, ?_⟩
      | refine Call.of_pure (s1) ?_
      | refine ⟨_, s1, ?_⟩
      | refine Call.of_pure (s2) ?_
      | refine ⟨_, s2, ?_⟩
      | refine Call.of_pure (s3) ?_
      | refine ⟨_, s3, ?_⟩
      | refine Call.of_pure (s4) ?_
      | refine ⟨_, s4, ?_⟩
      | refine Call.of_pure (t1) ?_
      | refine ⟨_, t1, ?_⟩
      | refine Call.of_pure (t2) ?_
      | refine ⟨_, t2, ?_⟩
      | refine Call.of_pure (t3) ?_
      | refine ⟨_, t3, ?_⟩
      | refine Call.of_pure (l1) ?_
      | refine ⟨_, l1, ?_⟩
      | refine Call.of_pure (u1) ?_
      | refine ⟨_, u1, ?_⟩
      | refine Call.of_pure (o1) ?_
      | refine ⟨_, o1, ?_⟩
      | (refine allF_i fun b hb => ?_; replace hD := And.intro hb hD; clear hb; simp only [fresh_cons, fresh_nil, and_true, ne_eq, neF] at hD)
      | simp only [appK, appOsK]); try simp only [go_sem, ↓reduceIte, reduceCtorEq, Nat.reduceAdd, Nat.reduceMul, Nat.reduceSub, Nat.reduceLT, Nat.reduceLeDiff, Nat.reduceEqDiff, Nat.reduceBEq, Nat.reduceBneDiff, Int.reduceToNat, Int.toNat_natCast, eq_self, decide_true, decide_false, Int.reduceEq, and_true, true_and, if_false_eq, if_true_eq, List.getElem?_cons_zero, List.getElem?_cons_succ, setAll, List.length_cons, List.length_nil, List.length_set, List.getD_cons_zero, List.getD_cons_succ, Nat.le_refl, Int.le_refl, Nat.beq_refl, or_self, true_or, or_true, List.drop_zero, hD, hs, hl])
    | (refine And.intro (by omega) ?_)
    | (refine ifI (fun hc => ?_) (fun hc => ?_) <;> first | (exfalso; omega) | skip)
    | (first | (apply hK; clear hK K) | (clear hK K; apply hK; clear hK K) | (clear hK K; clear hK K; apply hK; clear hK K) | (clear hK K; clear hK K; clear hK K; apply hK; clear hK K) | (clear hK K; clear hK K; clear hK K; clear hK K; apply hK; clear hK K) | (clear hK K; clear hK K; clear hK K; clear hK K; clear hK K; apply hK; clear hK K))
    | (refine And.intro ?_ ?_)
    | fail
  all_goals (apply ret_cell (i := 4) (n := 2); exact rfl; (simp only [go_sem, ↓reduceIte, reduceCtorEq, Nat.reduceAdd, Nat.reduceMul, Nat.reduceSub, Nat.reduceLT, Nat.reduceLeDiff, Nat.reduceEqDiff, Nat.reduceBEq, Nat.reduceBneDiff, Int.reduceToNat, Int.toNat_natCast, eq_self, decide_true, decide_false, Int.reduceEq, and_true, true_and, if_false_eq, if_true_eq, List.getElem?_cons_zero, List.getElem?_cons_succ, setAll, List.length_cons, List.length_nil, List.length_set, List.getD_cons_zero, List.getD_cons_succ, Nat.le_refl, Int.le_refl, Nat.beq_refl, or_self, true_or, or_true, List.drop_zero, hD]; try rfl); (first | exact Nat.le_refl _ | decide); simp only [resL_tmp, resL_cellE, resC_ok, resL_nil, tupOf, getN, go_sem, ↓reduceIte, reduceCtorEq, Nat.reduceAdd, Nat.reduceMul, Nat.reduceSub, Nat.reduceLT, Nat.reduceLeDiff, Nat.reduceEqDiff, Nat.reduceBEq, Nat.reduceBneDiff, Int.reduceToNat, Int.toNat_natCast, eq_self, decide_true, decide_false, Int.reduceEq, and_true, true_and, if_false_eq, if_true_eq, List.getElem?_cons_zero, List.getElem?_cons_succ, setAll, List.length_cons, List.length_nil, List.length_set, List.getD_cons_zero, List.getD_cons_succ, Nat.le_refl, Int.le_refl, Nat.beq_refl, or_self, true_or, or_true, List.drop_zero, hD])

set_option maxRecDepth 20000 in
theorem add_r3 (a b c d : Int) (X Y D : Nat) (v1 : PCall Tryd.prog 16 [SV.agg [I64 a, I64 b]] (SB true)) (v2 : PCall Tryd.prog 16 [SV.agg [I64 c, I64 d]] (SB true))
    (s1 : PCall Tryd.prog 34 [I64 a] (SV.agg [U64 0, U64 a.natAbs])) (s2 : PCall Tryd.prog 34 [I64 b] (SV.agg [U64 0, U64 b.natAbs])) (s3 : PCall Tryd.prog 34 [I64 c] (SV.agg [U64 0, U64 c.natAbs])) (s4 : PCall Tryd.prog 34 [I64 d] (SV.agg [U64 0, U64 d.natAbs]))
    (t1 : PCall Tryd.prog 40 [SV.agg [U64 0, U64 a.natAbs], SV.agg [U64 0, U64 d.natAbs]] (Wd X)) (t2 : PCall Tryd.prog 40 [SV.agg [U64 0, U64 c.natAbs], SV.agg [U64 0, U64 b.natAbs]] (Wd Y)) (t3 : PCall Tryd.prog 40 [SV.agg [U64 0, U64 b.natAbs], SV.agg [U64 0, U64 d.natAbs]] (Wd D))
    (l1 : PCall Tryd.prog 42 [Wd X, Wd Y] (SB (decide (X < Y)))) (u1 : PCall Tryd.prog 43 [Wd X, Wd Y] (Wd (X - Y))) (R : Int × Int × Int) (o1 : PCall Tryd.prog 33 [SB (decide (a < 0)), Wd (X - Y), Wd D] (FR R)) (hs : (decide (a < 0) == decide (c < 0)) = false) (hl : ¬ X < Y) : PCall Tryd.prog 18 [.agg [I64 a, I64 b], .agg [I64 c, I64 d]] (FR R) := by
  refine Call.enter' (N := 79) (rs := [.cell 4 24, .tmp 5]) Tryd.func18 rfl rfl rfl (by decide) rfl ?_; simp only [argT]; have hD : (0 : Nat) = 0 := rfl
  repeat' first
    | (refine SW.seq_k fun K hK => ?_)
    | (refine SW.block ?_)
    | ((first
      | refine SW.region ?_
      | refine SW.regionZ (id := 3) (Checked.mixed Tryd.checked) ((.one 0 [0, 1, 2, 5, 6, 9, 12, 13, 16, 17] (.one 1 [1, 2, 5, 6, 9, 12, 13, 16, 17] (.one 2 [2, 5, 6, 9, 12, 13, 16, 17] (.one 3 [3, 4, 5, 6, 9, 12, 13, 16, 17] (.one 4 [4, 5, 6, 9, 12, 13, 16, 17] (.one 5 [5, 6, 9, 12, 13, 16, 17] (.one 6 [6, 9, 12, 13, 16, 17] (.one 7 [7, 8, 9, 12, 13, 16, 17] (.one 8 [8, 9, 12, 13, 16, 17] (.one 9 [9, 12, 13, 16, 17] (.one 10 [10, 11, 12, 13, 16, 17] (.one 11 [11, 12, 13, 16, 17] (.one 12 [12, 13, 16, 17] (.one 13 [13, 16, 17] (.alt 14 (.alt 15 (.alt 16 (.alt 17 .done .nil) .nil) .nil) (.alt 15 (.alt 14 (.alt 16 (.alt 17 .done .nil) .nil) .nil) .nil)))))))))))))))) : OZ) (by kernel_rfl) ?_
      | refine SW.regionZ (id := 4) (Checked.mixed Tryd.checked) ((.one 0 [0, 1, 2, 5, 6, 8] (.one 1 [1, 2, 5, 6, 8] (.one 2 [2, 5, 6, 8] (.one 3 [3, 4, 5, 6, 8] (.one 4 [4, 5, 6, 8] (.one 5 [5, 6, 8] (.one 6 [6, 8] (.alt 7 (.alt 8 .done .nil) .nil)))))))) : OZ) (by kernel_rfl) ?_
      | refine SW.regionZ (id := 6) (Checked.mixed Tryd.checked) ((.one 0 [0, 1, 2, 7, 8, 9, 10, 11] (.one 1 [1, 2, 7, 8, 9, 10, 11] (.one 2 [2, 7, 8, 9, 10, 11] (.one 3 [3, 5, 7, 8, 9, 10, 11] (.one 4 [4, 5, 7, 8, 9, 10, 11] (.one 5 [5, 7, 8, 9, 10, 11] (.one 6 [6, 7, 8, 9, 10, 11] (.one 7 [7, 8, 9, 10, 11] (.one 8 [8, 10, 11] (.one 9 [9, 10, 11] (.alt 10 (.one 11 [11] .done) .nil))))))))))) : OZ) (by kernel_rfl) ?_
      | refine SW.regionZ (id := 8) (Checked.mixed Tryd.checked) ((.one 0 [0, 1, 2, 7, 8, 9, 10, 11] (.one 1 [1, 2, 7, 8, 9, 10, 11] (.one 2 [2, 7, 8, 9, 10, 11] (.one 3 [3, 5, 7, 8, 9, 10, 11] (.one 4 [4, 5, 7, 8, 9, 10, 11] (.one 5 [5, 7, 8, 9, 10, 11] (.one 6 [6, 7, 8, 9, 10, 11] (.one 7 [7, 8, 9, 10, 11] (.one 8 [8, 10, 11] (.one 9 [9, 10, 11] (.alt 10 (.one 11 [11] .done) .nil))))))))))) : OZ) (by kernel_rfl) ?_
      | refine SW.regionZ (id := 9) (Checked.mixed Tryd.checked) ((.one 0 [0, 1, 2, 7, 8, 9, 10, 11] (.one 1 [1, 2, 7, 8, 9, 10, 11] (.one 2 [2, 7, 8, 9, 10, 11] (.one 3 [3, 5, 7, 8, 9, 10, 11] (.one 4 [4, 5, 7, 8, 9, 10, 11] (.one 5 [5, 7, 8, 9, 10, 11] (.one 6 [6, 7, 8, 9, 10, 11] (.one 7 [7, 8, 9, 10, 11] (.one 8 [8, 10, 11] (.one 9 [9, 10, 11] (.alt 10 (.one 11 [11] .done) .nil))))))))))) : OZ) (by kernel_rfl) ?_
      | refine SW.regionD (Checked.mixed Tryd.checked) (by kernel_rfl) ?_
      | refine SW.cond ?_
      | refine SW.skip ?_
      | refine SW.exit ?_
      | refine SW.ret ?_
      | refine Call.of_pure (v1) ?_
      | refine ⟨_, v1, ?_⟩
      | refine Call.of_pure (v2) ?_
      | refine ⟨_, v2, ?_⟩
      | refine Call.of_pure (s1) ?_
      | refine ⟨_, s1, ?_⟩
      | refine Call.of_pure (s2) ?_
      | refine ⟨_, s2, ?_⟩
      | refine Call.of_pure (s3) ?_
      | refine ⟨_, s3, ?_⟩
      | refine Call.of_pure (s4) ?_
      | refine ⟨_, s4, ?_⟩
      | refine Call.of_pure (t1) ?_
      | refine ⟨_, t1, ?_⟩
      | refine Call.of_pure (t2) ?_
      | refine ⟨_, t2, ?_⟩
      | refine Call.of_pure (t3) ?_
      | refine ⟨_, t3, ?_⟩
      | refine Call.of_pure (l1) ?_
      | refine ⟨_, l1, ?_⟩
      | refine Call.of_pure (u1) ?_
      | refine ⟨_, u1, ?_⟩
      | refine Call.of_pure (o1) ?_
      | refine ⟨_, o1, ?_⟩
      | (refine allF_i fun b hb => ?_; replace hD := And.intro hb hD; clear hb; simp only [fresh_cons, fresh_nil, and_true, ne_eq, neF] at hD)
      | simp only [appK, appOsK]); try simp only [go_sem, ↓reduceIte, reduceCtorEq, Nat.reduceAdd, Nat.reduceMul, Nat.reduceSub, Nat.reduceLT, Nat.reduceLeDiff, Nat.reduceEqDiff, Nat.reduceBEq, Nat.reduceBneDiff, Int.reduceToNat, Int.toNat_natCast, eq_self, decide_true, decide_false, Int.reduceEq, and_true, true_and, if_false_eq, if_true_eq, List.getElem?_cons_zero, List.getElem?_cons_succ, setAll, List.length_cons, List.length_nil, List.length_set, List.getD_cons_zero, List.getD_cons_succ, Nat.le_refl, Int.le_refl, Nat.beq_refl, or_self, true_or, or_true, List.drop_zero, hD, hs, hl])
    | (refine And.intro (by omega) ?_)
    | (refine ifI (fun hc => ?_) (fun hc => ?_) <;> first | (exfalso; omega) | skip)
    | (first | (apply hK; clear hK K) | (clear hK K; apply hK; clear hK K) | (clear hK K; clear hK K; apply hK; clear hK K) | (clear hK K; clear hK K; clear hK K; apply hK; clear hK K) | (clear hK K; clear hK K; clear hK K; clear hK K; apply hK; clear hK K) | (clear hK K; clear hK K; clear hK K; clear hK K; clear hK K; apply hK; clear hK K))
    | (refine And.intro ?_ ?_)
    | fail
  all_goals (apply ret_cell (i := 4) (n := 2); exact rfl; (simp only [go_sem, ↓reduceIte, reduceCtorEq, Nat.reduceAdd, Nat.reduceMul, Nat.reduceSub, Nat.reduceLT, Nat.reduceLeDiff, Nat.reduceEqDiff, Nat.reduceBEq, Nat.reduceBneDiff, Int.reduceToNat, Int.toNat_natCast, eq_self, decide_true, decide_false, Int.reduceEq, and_true, true_and, if_false_eq, if_true_eq, List.getElem?_cons_zero, List.getElem?_cons_succ, setAll, List.length_cons, List.length_nil, List.length_set, List.getD_cons_zero, List.getD_cons_succ, Nat.le_refl, Int.le_refl, Nat.beq_refl, or_self, true_or, or_true, List.drop_zero, hD]; try rfl); (first | exact Nat.le_refl _ | decide); simp only [resL_tmp, resL_cellE, resC_ok, resL_nil, tupOf, getN, go_sem, ↓reduceIte, reduceCtorEq, Nat.reduceAdd, Nat.reduceMul, Nat.reduceSub, Nat.reduceLT, Nat.reduceLeDiff, Nat.reduceEqDiff, Nat.reduceBEq, Nat.reduceBneDiff, Int.reduceToNat, Int.toNat_natCast, eq_self, decide_true, decide_false, Int.reduceEq, and_true, true_and, if_false_eq, if_true_eq, List.getElem?_cons_zero, List.getElem?_cons_succ, setAll, List.length_cons, List.length_nil, List.length_set, List.getD_cons_zero, List.getD_cons_succ, Nat.le_refl, Int.le_refl, Nat.beq_refl, or_self, true_or, or_true, List.drop_zero, hD])

set_option maxRecDepth 20000 in
theorem add_r (a b c d : Int) (ha : In64 a) (hb : In64 b) (hc : In64 c) (hd : In64 d) : PCall Tryd.prog 18 [.agg [I64 a, I64 b], .agg [I64 c, I64 d]] (FR (addR a b c d)) := by
  have v1 := valid_r a b ha.1 ha.2 hb.1 hb.2
  have v2 := valid_r c d hc.1 hc.2 hd.1 hd.2
  have s1 := size_r a ha.1 ha.2
  have s2 := size_r b hb.1 hb.2
  have s3 := size_r c hc.1 hc.2
  have s4 := size_r d hd.1 hd.2
  have t1 := times_r a.natAbs d.natAbs (by have := ha.abs; omega) (by have := hd.abs; omega)
  have t2 := times_r c.natAbs b.natAbs (by have := hc.abs; omega) (by have := hb.abs; omega)
  have t3 := times_r b.natAbs d.natAbs (by have := hb.abs; omega) (by have := hd.abs; omega)
  have p1 := prod_le ha.abs hd.abs
  have p2 := prod_le hc.abs hb.abs
  have p3 := prod_le hb.abs hd.abs
  by_cases hv : okR a b = true ∧ okR c d = true
  · have hb0 := okR_den hv.1
    have hd0 := okR_den hv.2
    have hpos : 0 < b.natAbs * d.natAbs := Nat.mul_pos (by omega) (by omega)
    rw [addR, if_pos hv]
    rw [hv.1] at v1
    rw [hv.2] at v2
    generalize a.natAbs * d.natAbs = X at *
    generalize c.natAbs * b.natAbs = Y at *
    generalize b.natAbs * d.natAbs = D at *
    have l1 := less_r X Y (by omega) (by omega)
    cases hs : (decide (a < 0) == decide (c < 0)) with
    | true =>
      rw [if_pos rfl]
      have u1 := plus_r X Y (by omega) (by omega)
      rw [Nat.mod_eq_of_lt (a := X + Y) (by omega)] at u1
      exact add_r1 a b c d X Y D v1 v2 s1 s2 s3 s4 t1 t2 t3 u1 _ (build_r _ _ D (by omega) hpos (by omega)) hs
    | false =>
      rw [if_neg (by simp)]
      by_cases hl : X < Y
      · rw [if_pos hl]
        exact add_r2 a b c d X Y D v1 v2 s1 s2 s3 s4 t1 t2 t3 l1 (minus_r Y X (by omega) (by omega) (by omega)) _ (build_r _ _ D (by omega) hpos (by omega)) hs hl
      · rw [if_neg hl]
        exact add_r3 a b c d X Y D v1 v2 s1 s2 s3 s4 t1 t2 t3 l1 (minus_r X Y (by omega) (by omega) (by omega)) _ (build_r _ _ D (by omega) hpos (by omega)) hs hl
  · rw [addR, if_neg hv]
    clear s1 s2 s3 s4 t1 t2 t3
    cases h1 : okR a b with
    | false =>
      rw [h1] at v1
      refine Call.enter' (N := 79) (rs := [.cell 4 24, .tmp 5]) Tryd.func18 rfl rfl rfl (by decide) rfl ?_; simp only [argT]; have hD : (0 : Nat) = 0 := rfl
      repeat' first
        | (refine SW.seq_k fun K hK => ?_)
        | (refine SW.block ?_)
        | ((first
      | refine SW.region ?_
      | refine SW.regionD (Checked.mixed Tryd.checked) (by kernel_rfl) ?_
      | refine SW.cond ?_
      | refine SW.skip ?_
      | refine SW.exit ?_
      | refine SW.ret ?_
      | refine Call.of_pure (v1) ?_
      | refine ⟨_, v1, ?_⟩
      | (refine allF_i fun b hb => ?_; replace hD := And.intro hb hD; clear hb; simp only [fresh_cons, fresh_nil, and_true, ne_eq, neF] at hD)
      | simp only [appK, appOsK]); try simp only [go_sem, ↓reduceIte, reduceCtorEq, Nat.reduceAdd, Nat.reduceMul, Nat.reduceSub, Nat.reduceLT, Nat.reduceLeDiff, Nat.reduceEqDiff, Nat.reduceBEq, Nat.reduceBneDiff, Int.reduceToNat, Int.toNat_natCast, eq_self, decide_true, decide_false, Int.reduceEq, and_true, true_and, if_false_eq, if_true_eq, List.getElem?_cons_zero, List.getElem?_cons_succ, setAll, List.length_cons, List.length_nil, List.length_set, List.getD_cons_zero, List.getD_cons_succ, Nat.le_refl, Int.le_refl, Nat.beq_refl, or_self, true_or, or_true, List.drop_zero, hD])
        | (refine And.intro (by omega) ?_)
        | (refine ifI (fun hc => ?_) (fun hc => ?_) <;> first | (exfalso; omega) | skip)
        | (first | (apply hK; clear hK K) | (clear hK K; apply hK; clear hK K) | (clear hK K; clear hK K; apply hK; clear hK K) | (clear hK K; clear hK K; clear hK K; apply hK; clear hK K) | (clear hK K; clear hK K; clear hK K; clear hK K; apply hK; clear hK K) | (clear hK K; clear hK K; clear hK K; clear hK K; clear hK K; apply hK; clear hK K))
        | fail
      apply ret_cell (i := 4) (n := 2); exact rfl; (simp only [go_sem, ↓reduceIte, reduceCtorEq, Nat.reduceAdd, Nat.reduceMul, Nat.reduceSub, Nat.reduceLT, Nat.reduceLeDiff, Nat.reduceEqDiff, Nat.reduceBEq, Nat.reduceBneDiff, Int.reduceToNat, Int.toNat_natCast, eq_self, decide_true, decide_false, Int.reduceEq, and_true, true_and, if_false_eq, if_true_eq, List.getElem?_cons_zero, List.getElem?_cons_succ, setAll, List.length_cons, List.length_nil, List.length_set, List.getD_cons_zero, List.getD_cons_succ, Nat.le_refl, Int.le_refl, Nat.beq_refl, or_self, true_or, or_true, List.drop_zero, hD]; try rfl); (first | exact Nat.le_refl _ | decide); simp only [resL_tmp, resL_cellE, resC_ok, resL_nil, tupOf, getN, go_sem, ↓reduceIte, reduceCtorEq, Nat.reduceAdd, Nat.reduceMul, Nat.reduceSub, Nat.reduceLT, Nat.reduceLeDiff, Nat.reduceEqDiff, Nat.reduceBEq, Nat.reduceBneDiff, Int.reduceToNat, Int.toNat_natCast, eq_self, decide_true, decide_false, Int.reduceEq, and_true, true_and, if_false_eq, if_true_eq, List.getElem?_cons_zero, List.getElem?_cons_succ, setAll, List.length_cons, List.length_nil, List.length_set, List.getD_cons_zero, List.getD_cons_succ, Nat.le_refl, Int.le_refl, Nat.beq_refl, or_self, true_or, or_true, List.drop_zero, hD]
    | true =>
      have h2 : okR c d = false := by
        cases h2 : okR c d with
        | false => rfl
        | true => exact absurd ⟨h1, h2⟩ hv
      rw [h1] at v1
      rw [h2] at v2
      refine Call.enter' (N := 79) (rs := [.cell 4 24, .tmp 5]) Tryd.func18 rfl rfl rfl (by decide) rfl ?_; simp only [argT]; have hD : (0 : Nat) = 0 := rfl
      repeat' first
        | (refine SW.seq_k fun K hK => ?_)
        | (refine SW.block ?_)
        | ((first
      | refine SW.region ?_
      | refine SW.regionD (Checked.mixed Tryd.checked) (by kernel_rfl) ?_
      | refine SW.cond ?_
      | refine SW.skip ?_
      | refine SW.exit ?_
      | refine SW.ret ?_
      | refine Call.of_pure (v1) ?_
      | refine ⟨_, v1, ?_⟩
      | refine Call.of_pure (v2) ?_
      | refine ⟨_, v2, ?_⟩
      | (refine allF_i fun b hb => ?_; replace hD := And.intro hb hD; clear hb; simp only [fresh_cons, fresh_nil, and_true, ne_eq, neF] at hD)
      | simp only [appK, appOsK]); try simp only [go_sem, ↓reduceIte, reduceCtorEq, Nat.reduceAdd, Nat.reduceMul, Nat.reduceSub, Nat.reduceLT, Nat.reduceLeDiff, Nat.reduceEqDiff, Nat.reduceBEq, Nat.reduceBneDiff, Int.reduceToNat, Int.toNat_natCast, eq_self, decide_true, decide_false, Int.reduceEq, and_true, true_and, if_false_eq, if_true_eq, List.getElem?_cons_zero, List.getElem?_cons_succ, setAll, List.length_cons, List.length_nil, List.length_set, List.getD_cons_zero, List.getD_cons_succ, Nat.le_refl, Int.le_refl, Nat.beq_refl, or_self, true_or, or_true, List.drop_zero, hD])
        | (refine And.intro (by omega) ?_)
        | (refine ifI (fun hc => ?_) (fun hc => ?_) <;> first | (exfalso; omega) | skip)
        | (first | (apply hK; clear hK K) | (clear hK K; apply hK; clear hK K) | (clear hK K; clear hK K; apply hK; clear hK K) | (clear hK K; clear hK K; clear hK K; apply hK; clear hK K) | (clear hK K; clear hK K; clear hK K; clear hK K; apply hK; clear hK K) | (clear hK K; clear hK K; clear hK K; clear hK K; clear hK K; apply hK; clear hK K))
        | fail
      apply ret_cell (i := 4) (n := 2); exact rfl; (simp only [go_sem, ↓reduceIte, reduceCtorEq, Nat.reduceAdd, Nat.reduceMul, Nat.reduceSub, Nat.reduceLT, Nat.reduceLeDiff, Nat.reduceEqDiff, Nat.reduceBEq, Nat.reduceBneDiff, Int.reduceToNat, Int.toNat_natCast, eq_self, decide_true, decide_false, Int.reduceEq, and_true, true_and, if_false_eq, if_true_eq, List.getElem?_cons_zero, List.getElem?_cons_succ, setAll, List.length_cons, List.length_nil, List.length_set, List.getD_cons_zero, List.getD_cons_succ, Nat.le_refl, Int.le_refl, Nat.beq_refl, or_self, true_or, or_true, List.drop_zero, hD]; try rfl); (first | exact Nat.le_refl _ | decide); simp only [resL_tmp, resL_cellE, resC_ok, resL_nil, tupOf, getN, go_sem, ↓reduceIte, reduceCtorEq, Nat.reduceAdd, Nat.reduceMul, Nat.reduceSub, Nat.reduceLT, Nat.reduceLeDiff, Nat.reduceEqDiff, Nat.reduceBEq, Nat.reduceBneDiff, Int.reduceToNat, Int.toNat_natCast, eq_self, decide_true, decide_false, Int.reduceEq, and_true, true_and, if_false_eq, if_true_eq, List.getElem?_cons_zero, List.getElem?_cons_succ, setAll, List.length_cons, List.length_nil, List.length_set, List.getD_cons_zero, List.getD_cons_succ, Nat.le_refl, Int.le_refl, Nat.beq_refl, or_self, true_or, or_true, List.drop_zero, hD]
end Go.Proofs.YtcbgkcjlechdnaaDoor
