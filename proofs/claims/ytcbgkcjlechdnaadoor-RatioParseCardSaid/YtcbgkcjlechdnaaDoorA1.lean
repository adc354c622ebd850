/- Contract of the program: Add. -/
import Derived.Test.YtcbgkcjlechdnaaDoorR9
import Derived.Test.YtcbgkcjlechdnaaDoorD3
set_option linter.unusedSimpArgs false
set_option linter.unusedVariables false
set_option linter.unusedSectionVars false
namespace Go.Ab
open Go
/-- What is added: the sign, and the numerator. -/
def addT (s t : Bool) (X Y : Nat) : Bool × Nat := if (s == t) = true then (s, X + Y) else if Y ≤ X then (s, X - Y) else (!s, Y - X)
/-- The sum of fractions whose denominators have the common divisor g. -/
def addG (b d g T : Nat) (ng : Bool) : Int × Int × Int := if T = 0 then (0, 1, 0) else
  if 18446744073709551616 ≤ T / Nat.gcd g (T % g) ∨ 18446744073709551616 ≤ b / g * (d / Nat.gcd g (T % g)) then (0, 0, 7) else ofR ng (T / Nat.gcd g (T % g)) (b / g * (d / Nat.gcd g (T % g)))
/-- Add, as the program does it. -/
def addP (a b c d : Int) : Int × Int × Int := if okR a b = true ∧ okR c d = true then
    addG b.natAbs d.natAbs (Nat.gcd b.natAbs d.natAbs) (addT (decide (a < 0)) (decide (c < 0)) (a.natAbs * (d.natAbs / Nat.gcd b.natAbs d.natAbs)) (c.natAbs * (b.natAbs / Nat.gcd b.natAbs d.natAbs))).2
      (addT (decide (a < 0)) (decide (c < 0)) (a.natAbs * (d.natAbs / Nat.gcd b.natAbs d.natAbs)) (c.natAbs * (b.natAbs / Nat.gcd b.natAbs d.natAbs))).1 else (0, 0, 1)
end Go.Ab
namespace Go.Proofs.YtcbgkcjlechdnaaDoor
open Go Go.Ab
variable [Gl]

set_option maxHeartbeats 4000000 in
set_option maxRecDepth 20000 in
theorem add_p1 (a b c d : Int) (g h X Y T D : Nat) (v1 : PCall Tryd.prog 15 [SV.agg [I64 a, I64 b]] (SB true)) (v2 : PCall Tryd.prog 15 [SV.agg [I64 c, I64 d]] (SB true))
    (eb : IntKind.u64.wrap b = (b.natAbs : Int)) (ed : IntKind.u64.wrap d = (d.natAbs : Int)) (s1 : PCall Tryd.prog 30 [I64 a] (U64 a.natAbs)) (s3 : PCall Tryd.prog 30 [I64 c] (U64 c.natAbs))
    (g1 : PCall Tryd.prog 31 [U64 b.natAbs, U64 d.natAbs] (U64 g)) (eg : ¬ (g : Int) = 0) (eh : ¬ (h : Int) = 0)
    (q1 : IntKind.u64.wrap (Int.tdiv (d.natAbs : Int) (g : Int)) = ((d.natAbs / g : Nat) : Int)) (q2 : IntKind.u64.wrap (Int.tdiv (b.natAbs : Int) (g : Int)) = ((b.natAbs / g : Nat) : Int)) (q3 : IntKind.u64.wrap (Int.tdiv (d.natAbs : Int) (h : Int)) = ((d.natAbs / h : Nat) : Int))
    (t1 : PCall Tryd.prog 35 [U64 a.natAbs, U64 (d.natAbs / g : Nat)] (Wd X)) (t2 : PCall Tryd.prog 35 [U64 c.natAbs, U64 (b.natAbs / g : Nat)] (Wd Y))
    (o1 : PCall Tryd.prog 39 [Wd T, U64 g] (.tup [Wd (T / g), U64 (T % g : Nat)])) (g2 : PCall Tryd.prog 31 [U64 g, U64 (T % g : Nat)] (U64 h)) (o2 : PCall Tryd.prog 39 [Wd T, U64 h] (.tup [Wd (T / h), U64 (T % h : Nat)]))
    (t3 : PCall Tryd.prog 35 [U64 (b.natAbs / g : Nat), U64 (d.natAbs / h : Nat)] (Wd D))
    (u1 : PCall Tryd.prog 36 [Wd X, Wd Y] (Wd T)) (hs : (decide (a < 0) == decide (c < 0)) = true) (R : Int × Int × Int) (o : PCall Tryd.prog 32 [SB (decide (a < 0)), U64 (T / h % 18446744073709551616 : Nat), U64 (D % 18446744073709551616 : Nat)] (FR R)) : PCall Tryd.prog 17 [.agg [I64 a, I64 b], .agg [I64 c, I64 d]] (FR (if T = 0 then (0, 1, 0) else if 18446744073709551616 ≤ T / h ∨ 18446744073709551616 ≤ D then (0, 0, 7) else R)) := by
  refine Call.enter' (N := 119) (rs := [.cell 4 24, .tmp 5]) Tryd.func17 rfl rfl rfl (by decide) rfl ?_; simp only [argT]; have hD : (0 : Nat) = 0 := rfl
  repeat' first
    | (refine SW.seq_k fun K hK => ?_)
    | (refine SW.block ?_)
    | ((first
      | refine SW.region ?_
      | refine SW.regionZ (id := 3) (Checked.mixed Tryd.checked) ((.one 0 [0, 1, 2, 6, 7] (.one 1 [1, 2, 6, 7] (.one 2 [2, 6, 7] (.one 3 [3, 4, 5, 7] (.one 4 [4, 5, 7] (.one 5 [5, 7] (.one 6 [6, 7] (.one 7 [7] .done)))))))) : OZ) (by kernel_rfl) ?_
      | refine SW.regionZ (id := 5) (Checked.mixed Tryd.checked) ((.one 0 [0, 1, 2, 6, 9, 13, 16, 17] (.one 1 [1, 2, 6, 9, 13, 16, 17] (.one 2 [2, 6, 9, 13, 16, 17] (.one 3 [3, 5, 6, 9, 13, 16, 17] (.one 4 [4, 5, 6, 9, 13, 16, 17] (.one 5 [5, 6, 9, 13, 16, 17] (.one 6 [6, 9, 13, 16, 17] (.one 7 [7, 8, 9, 13, 16, 17] (.one 8 [8, 9, 13, 16, 17] (.one 9 [9, 13, 16, 17] (.one 10 [10, 12, 13, 16, 17] (.one 11 [11, 12, 13, 16, 17] (.one 12 [12, 13, 16, 17] (.one 13 [13, 16, 17] (.alt 14 (.alt 15 (.alt 16 (.alt 17 .done .nil) .nil) .nil) (.alt 15 (.alt 14 (.alt 16 (.alt 17 .done .nil) .nil) .nil) .nil)))))))))))))))) : OZ) (by kernel_rfl) ?_
      | refine SW.regionZ (id := 18) (Checked.mixed Tryd.checked) ((.one 0 [0, 2, 6, 8] (.one 1 [1, 2, 6, 8] (.one 2 [2, 6, 8] (.one 3 [3, 5, 6, 8] (.one 4 [4, 5, 6, 8] (.one 5 [5, 6, 8] (.one 6 [6, 8] (.alt 7 (.alt 8 .done .nil) .nil)))))))) : OZ) (by kernel_rfl) ?_
      | refine SW.regionD (Checked.mixed Tryd.checked) (by kernel_rfl) ?_
      | refine SW.cond ?_
      | refine SW.skip ?_
      | refine SW.exit ?_
      | refine SW.ret ?_
      | refine Call.of_pure (v1) ?_
      | refine ⟨_, v1, ?_⟩
      | refine Call.of_pure (v2) ?_
      | refine ⟨_, v2, ?_⟩
      | refine Call.of_pure (s1) ?_
      | refine ⟨_, s1, ?_⟩
      | refine Call.of_pure (s3) ?_
      | refine ⟨_, s3, ?_⟩
      | refine Call.of_pure (g1) ?_
      | refine ⟨_, g1, ?_⟩
      | refine Call.of_pure (t1) ?_
      | refine ⟨_, t1, ?_⟩
      | refine Call.of_pure (t2) ?_
      | refine ⟨_, t2, ?_⟩
      | refine Call.of_pure (u1) ?_
      | refine ⟨_, u1, ?_⟩
      | refine Call.of_pure (o1) ?_
      | refine ⟨_, o1, ?_⟩
      | refine Call.of_pure (g2) ?_
      | refine ⟨_, g2, ?_⟩
      | refine Call.of_pure (o2) ?_
      | refine ⟨_, o2, ?_⟩
      | refine Call.of_pure (t3) ?_
      | refine ⟨_, t3, ?_⟩
      | refine Call.of_pure (o) ?_
      | refine ⟨_, o, ?_⟩
      | (refine allF_i fun b hb => ?_; replace hD := And.intro hb hD; clear hb; simp only [fresh_cons, fresh_nil, and_true, ne_eq, neF] at hD)
      | simp only [appK, appOsK]); try simp only [go_sem, ↓reduceIte, reduceCtorEq, Nat.reduceAdd, Nat.reduceMul, Nat.reduceSub, Nat.reduceLT, Nat.reduceLeDiff, Nat.reduceEqDiff, Nat.reduceBEq, Nat.reduceBneDiff, Int.reduceToNat, Int.toNat_natCast, eq_self, decide_true, decide_false, Int.reduceEq, and_true, true_and, if_false_eq, if_true_eq, List.getElem?_cons_zero, List.getElem?_cons_succ, setAll, List.length_cons, List.length_nil, List.length_set, List.getD_cons_zero, List.getD_cons_succ, Nat.le_refl, Int.le_refl, Nat.beq_refl, or_self, true_or, or_true, List.drop_zero, hD, hs, eb, ed, eg, eh, q1, q2, q3])
    | (refine And.intro (by omega) ?_)
    | (refine ifI (fun hc => ?_) (fun hc => ?_) <;> first | (exfalso; omega) | skip)
    | (first | (apply hK; clear hK K) | (clear hK K; apply hK; clear hK K) | (clear hK K; clear hK K; apply hK; clear hK K) | (clear hK K; clear hK K; clear hK K; apply hK; clear hK K) | (clear hK K; clear hK K; clear hK K; clear hK K; apply hK; clear hK K) | (clear hK K; clear hK K; clear hK K; clear hK K; clear hK K; apply hK; clear hK K))
    | (refine And.intro ?_ ?_)
    | fail
  all_goals
    apply ret_cell (i := 4) (n := 2); exact rfl; (simp only [go_sem, ↓reduceIte, reduceCtorEq, Nat.reduceAdd, Nat.reduceMul, Nat.reduceSub, Nat.reduceLT, Nat.reduceLeDiff, Nat.reduceEqDiff, Nat.reduceBEq, Nat.reduceBneDiff, Int.reduceToNat, Int.toNat_natCast, eq_self, decide_true, decide_false, Int.reduceEq, and_true, true_and, if_false_eq, if_true_eq, List.getElem?_cons_zero, List.getElem?_cons_succ, setAll, List.length_cons, List.length_nil, List.length_set, List.getD_cons_zero, List.getD_cons_succ, Nat.le_refl, Int.le_refl, Nat.beq_refl, or_self, true_or, or_true, List.drop_zero, hD]; try rfl); (first | exact Nat.le_refl _ | decide); simp only [resL_tmp, resL_cellE, resC_ok, resL_nil, tupOf, getN, go_sem, ↓reduceIte, reduceCtorEq, Nat.reduceAdd, Nat.reduceMul, Nat.reduceSub, Nat.reduceLT, Nat.reduceLeDiff, Nat.reduceEqDiff, Nat.reduceBEq, Nat.reduceBneDiff, Int.reduceToNat, Int.toNat_natCast, eq_self, decide_true, decide_false, Int.reduceEq, and_true, true_and, if_false_eq, if_true_eq, List.getElem?_cons_zero, List.getElem?_cons_succ, setAll, List.length_cons, List.length_nil, List.length_set, List.getD_cons_zero, List.getD_cons_succ, Nat.le_refl, Int.le_refl, Nat.beq_refl, or_self, true_or, or_true, List.drop_zero, hD]
    clear hD
    first | rw [if_pos (by omega)] | rw [if_neg (by omega), if_pos (by omega)] | rw [if_neg (by omega), if_neg (by omega)]

set_option maxHeartbeats 4000000 in
set_option maxRecDepth 20000 in
theorem add_p2 (a b c d : Int) (g h X Y T D : Nat) (v1 : PCall Tryd.prog 15 [SV.agg [I64 a, I64 b]] (SB true)) (v2 : PCall Tryd.prog 15 [SV.agg [I64 c, I64 d]] (SB true))
    (eb : IntKind.u64.wrap b = (b.natAbs : Int)) (ed : IntKind.u64.wrap d = (d.natAbs : Int)) (s1 : PCall Tryd.prog 30 [I64 a] (U64 a.natAbs)) (s3 : PCall Tryd.prog 30 [I64 c] (U64 c.natAbs))
    (g1 : PCall Tryd.prog 31 [U64 b.natAbs, U64 d.natAbs] (U64 g)) (eg : ¬ (g : Int) = 0) (eh : ¬ (h : Int) = 0)
    (q1 : IntKind.u64.wrap (Int.tdiv (d.natAbs : Int) (g : Int)) = ((d.natAbs / g : Nat) : Int)) (q2 : IntKind.u64.wrap (Int.tdiv (b.natAbs : Int) (g : Int)) = ((b.natAbs / g : Nat) : Int)) (q3 : IntKind.u64.wrap (Int.tdiv (d.natAbs : Int) (h : Int)) = ((d.natAbs / h : Nat) : Int))
    (t1 : PCall Tryd.prog 35 [U64 a.natAbs, U64 (d.natAbs / g : Nat)] (Wd X)) (t2 : PCall Tryd.prog 35 [U64 c.natAbs, U64 (b.natAbs / g : Nat)] (Wd Y))
    (o1 : PCall Tryd.prog 39 [Wd T, U64 g] (.tup [Wd (T / g), U64 (T % g : Nat)])) (g2 : PCall Tryd.prog 31 [U64 g, U64 (T % g : Nat)] (U64 h)) (o2 : PCall Tryd.prog 39 [Wd T, U64 h] (.tup [Wd (T / h), U64 (T % h : Nat)]))
    (t3 : PCall Tryd.prog 35 [U64 (b.natAbs / g : Nat), U64 (d.natAbs / h : Nat)] (Wd D))
    (e : Int) (cm : PCall Tryd.prog 37 [Wd X, Wd Y] (I64 e)) (he : 0 ≤ e) (u1 : PCall Tryd.prog 38 [Wd X, Wd Y] (Wd T)) (hs : (decide (a < 0) == decide (c < 0)) = false) (R : Int × Int × Int) (o : PCall Tryd.prog 32 [SB (decide (a < 0)), U64 (T / h % 18446744073709551616 : Nat), U64 (D % 18446744073709551616 : Nat)] (FR R)) : PCall Tryd.prog 17 [.agg [I64 a, I64 b], .agg [I64 c, I64 d]] (FR (if T = 0 then (0, 1, 0) else if 18446744073709551616 ≤ T / h ∨ 18446744073709551616 ≤ D then (0, 0, 7) else R)) := by
  refine Call.enter' (N := 119) (rs := [.cell 4 24, .tmp 5]) Tryd.func17 rfl rfl rfl (by decide) rfl ?_; simp only [argT]; have hD : (0 : Nat) = 0 := rfl
  repeat' first
    | (refine SW.seq_k fun K hK => ?_)
    | (refine SW.block ?_)
    | ((first
      | refine SW.region ?_
      | refine SW.regionZ (id := 3) (Checked.mixed Tryd.checked) ((.one 0 [0, 1, 2, 6, 7] (.one 1 [1, 2, 6, 7] (.one 2 [2, 6, 7] (.one 3 [3, 4, 5, 7] (.one 4 [4, 5, 7] (.one 5 [5, 7] (.one 6 [6, 7] (.one 7 [7] .done)))))))) : OZ) (by kernel_rfl) ?_
      | refine SW.regionZ (id := 5) (Checked.mixed Tryd.checked) ((.one 0 [0, 1, 2, 6, 9, 13, 16, 17] (.one 1 [1, 2, 6, 9, 13, 16, 17] (.one 2 [2, 6, 9, 13, 16, 17] (.one 3 [3, 5, 6, 9, 13, 16, 17] (.one 4 [4, 5, 6, 9, 13, 16, 17] (.one 5 [5, 6, 9, 13, 16, 17] (.one 6 [6, 9, 13, 16, 17] (.one 7 [7, 8, 9, 13, 16, 17] (.one 8 [8, 9, 13, 16, 17] (.one 9 [9, 13, 16, 17] (.one 10 [10, 12, 13, 16, 17] (.one 11 [11, 12, 13, 16, 17] (.one 12 [12, 13, 16, 17] (.one 13 [13, 16, 17] (.alt 14 (.alt 15 (.alt 16 (.alt 17 .done .nil) .nil) .nil) (.alt 15 (.alt 14 (.alt 16 (.alt 17 .done .nil) .nil) .nil) .nil)))))))))))))))) : OZ) (by kernel_rfl) ?_
      | refine SW.regionZ (id := 18) (Checked.mixed Tryd.checked) ((.one 0 [0, 2, 6, 8] (.one 1 [1, 2, 6, 8] (.one 2 [2, 6, 8] (.one 3 [3, 5, 6, 8] (.one 4 [4, 5, 6, 8] (.one 5 [5, 6, 8] (.one 6 [6, 8] (.alt 7 (.alt 8 .done .nil) .nil)))))))) : OZ) (by kernel_rfl) ?_
      | refine SW.regionD (Checked.mixed Tryd.checked) (by kernel_rfl) ?_
      | refine SW.cond ?_
      | refine SW.skip ?_
      | refine SW.exit ?_
      | refine SW.ret ?_
      | refine Call.of_pure (v1) ?_
      | refine ⟨_, v1, ?_⟩
      | refine Call.of_pure (v2) ?_
      | refine ⟨_, v2, ?_⟩
      | refine Call.of_pure (s1) ?_
      | refine ⟨_, s1, ?_⟩
      | refine Call.of_pure (s3) ?_
      | refine ⟨_, s3, ?_⟩
      | refine Call.of_pure (g1) ?_
      | refine ⟨_, g1, ?_⟩
      | refine Call.of_pure (t1) ?_
      | refine ⟨_, t1, ?_⟩
      | refine Call.of_pure (t2) ?_
      | refine ⟨_, t2, ?_⟩
      | refine Call.of_pure (cm) ?_
      | refine ⟨_, cm, ?_⟩
      | refine Call.of_pure (u1) ?_
      | refine ⟨_, u1, ?_⟩
      | refine Call.of_pure (o1) ?_
      | refine ⟨_, o1, ?_⟩
      | refine Call.of_pure (g2) ?_
      | refine ⟨_, g2, ?_⟩
      | refine Call.of_pure (o2) ?_
      | refine ⟨_, o2, ?_⟩
      | refine Call.of_pure (t3) ?_
      | refine ⟨_, t3, ?_⟩
      | refine Call.of_pure (o) ?_
      | refine ⟨_, o, ?_⟩
      | (refine allF_i fun b hb => ?_; replace hD := And.intro hb hD; clear hb; simp only [fresh_cons, fresh_nil, and_true, ne_eq, neF] at hD)
      | simp only [appK, appOsK]); try simp only [go_sem, ↓reduceIte, reduceCtorEq, Nat.reduceAdd, Nat.reduceMul, Nat.reduceSub, Nat.reduceLT, Nat.reduceLeDiff, Nat.reduceEqDiff, Nat.reduceBEq, Nat.reduceBneDiff, Int.reduceToNat, Int.toNat_natCast, eq_self, decide_true, decide_false, Int.reduceEq, and_true, true_and, if_false_eq, if_true_eq, List.getElem?_cons_zero, List.getElem?_cons_succ, setAll, List.length_cons, List.length_nil, List.length_set, List.getD_cons_zero, List.getD_cons_succ, Nat.le_refl, Int.le_refl, Nat.beq_refl, or_self, true_or, or_true, List.drop_zero, hD, hs, he, eb, ed, eg, eh, q1, q2, q3])
    | (refine And.intro (by omega) ?_)
    | (refine ifI (fun hc => ?_) (fun hc => ?_) <;> first | (exfalso; omega) | skip)
    | (first | (apply hK; clear hK K) | (clear hK K; apply hK; clear hK K) | (clear hK K; clear hK K; apply hK; clear hK K) | (clear hK K; clear hK K; clear hK K; apply hK; clear hK K) | (clear hK K; clear hK K; clear hK K; clear hK K; apply hK; clear hK K) | (clear hK K; clear hK K; clear hK K; clear hK K; clear hK K; apply hK; clear hK K))
    | (refine And.intro ?_ ?_)
    | fail
  all_goals
    apply ret_cell (i := 4) (n := 2); exact rfl; (simp only [go_sem, ↓reduceIte, reduceCtorEq, Nat.reduceAdd, Nat.reduceMul, Nat.reduceSub, Nat.reduceLT, Nat.reduceLeDiff, Nat.reduceEqDiff, Nat.reduceBEq, Nat.reduceBneDiff, Int.reduceToNat, Int.toNat_natCast, eq_self, decide_true, decide_false, Int.reduceEq, and_true, true_and, if_false_eq, if_true_eq, List.getElem?_cons_zero, List.getElem?_cons_succ, setAll, List.length_cons, List.length_nil, List.length_set, List.getD_cons_zero, List.getD_cons_succ, Nat.le_refl, Int.le_refl, Nat.beq_refl, or_self, true_or, or_true, List.drop_zero, hD]; try rfl); (first | exact Nat.le_refl _ | decide); simp only [resL_tmp, resL_cellE, resC_ok, resL_nil, tupOf, getN, go_sem, ↓reduceIte, reduceCtorEq, Nat.reduceAdd, Nat.reduceMul, Nat.reduceSub, Nat.reduceLT, Nat.reduceLeDiff, Nat.reduceEqDiff, Nat.reduceBEq, Nat.reduceBneDiff, Int.reduceToNat, Int.toNat_natCast, eq_self, decide_true, decide_false, Int.reduceEq, and_true, true_and, if_false_eq, if_true_eq, List.getElem?_cons_zero, List.getElem?_cons_succ, setAll, List.length_cons, List.length_nil, List.length_set, List.getD_cons_zero, List.getD_cons_succ, Nat.le_refl, Int.le_refl, Nat.beq_refl, or_self, true_or, or_true, List.drop_zero, hD]
    clear hD
    first | rw [if_pos (by omega)] | rw [if_neg (by omega), if_pos (by omega)] | rw [if_neg (by omega), if_neg (by omega)]

set_option maxHeartbeats 4000000 in
set_option maxRecDepth 20000 in
theorem add_p3 (a b c d : Int) (g h X Y T D : Nat) (v1 : PCall Tryd.prog 15 [SV.agg [I64 a, I64 b]] (SB true)) (v2 : PCall Tryd.prog 15 [SV.agg [I64 c, I64 d]] (SB true))
    (eb : IntKind.u64.wrap b = (b.natAbs : Int)) (ed : IntKind.u64.wrap d = (d.natAbs : Int)) (s1 : PCall Tryd.prog 30 [I64 a] (U64 a.natAbs)) (s3 : PCall Tryd.prog 30 [I64 c] (U64 c.natAbs))
    (g1 : PCall Tryd.prog 31 [U64 b.natAbs, U64 d.natAbs] (U64 g)) (eg : ¬ (g : Int) = 0) (eh : ¬ (h : Int) = 0)
    (q1 : IntKind.u64.wrap (Int.tdiv (d.natAbs : Int) (g : Int)) = ((d.natAbs / g : Nat) : Int)) (q2 : IntKind.u64.wrap (Int.tdiv (b.natAbs : Int) (g : Int)) = ((b.natAbs / g : Nat) : Int)) (q3 : IntKind.u64.wrap (Int.tdiv (d.natAbs : Int) (h : Int)) = ((d.natAbs / h : Nat) : Int))
    (t1 : PCall Tryd.prog 35 [U64 a.natAbs, U64 (d.natAbs / g : Nat)] (Wd X)) (t2 : PCall Tryd.prog 35 [U64 c.natAbs, U64 (b.natAbs / g : Nat)] (Wd Y))
    (o1 : PCall Tryd.prog 39 [Wd T, U64 g] (.tup [Wd (T / g), U64 (T % g : Nat)])) (g2 : PCall Tryd.prog 31 [U64 g, U64 (T % g : Nat)] (U64 h)) (o2 : PCall Tryd.prog 39 [Wd T, U64 h] (.tup [Wd (T / h), U64 (T % h : Nat)]))
    (t3 : PCall Tryd.prog 35 [U64 (b.natAbs / g : Nat), U64 (d.natAbs / h : Nat)] (Wd D))
    (e : Int) (cm : PCall Tryd.prog 37 [Wd X, Wd Y] (I64 e)) (he : ¬ 0 ≤ e) (u1 : PCall Tryd.prog 38 [Wd Y, Wd X] (Wd T)) (hs : (decide (a < 0) == decide (c < 0)) = false) (R : Int × Int × Int) (o : PCall Tryd.prog 32 [SB (!decide (a < 0)), U64 (T / h % 18446744073709551616 : Nat), U64 (D % 18446744073709551616 : Nat)] (FR R)) : PCall Tryd.prog 17 [.agg [I64 a, I64 b], .agg [I64 c, I64 d]] (FR (if T = 0 then (0, 1, 0) else if 18446744073709551616 ≤ T / h ∨ 18446744073709551616 ≤ D then (0, 0, 7) else R)) := by
  refine Call.enter' (N := 119) (rs := [.cell 4 24, .tmp 5]) Tryd.func17 rfl rfl rfl (by decide) rfl ?_; simp only [argT]; have hD : (0 : Nat) = 0 := rfl
  repeat' first
    | (refine SW.seq_k fun K hK => ?_)
    | (refine SW.block ?_)
    | ((first
      | refine SW.region ?_
      | refine SW.regionZ (id := 3) (Checked.mixed Tryd.checked) ((.one 0 [0, 1, 2, 6, 7] (.one 1 [1, 2, 6, 7] (.one 2 [2, 6, 7] (.one 3 [3, 4, 5, 7] (.one 4 [4, 5, 7] (.one 5 [5, 7] (.one 6 [6, 7] (.one 7 [7] .done)))))))) : OZ) (by kernel_rfl) ?_
      | refine SW.regionZ (id := 5) (Checked.mixed Tryd.checked) ((.one 0 [0, 1, 2, 6, 9, 13, 16, 17] (.one 1 [1, 2, 6, 9, 13, 16, 17] (.one 2 [2, 6, 9, 13, 16, 17] (.one 3 [3, 5, 6, 9, 13, 16, 17] (.one 4 [4, 5, 6, 9, 13, 16, 17] (.one 5 [5, 6, 9, 13, 16, 17] (.one 6 [6, 9, 13, 16, 17] (.one 7 [7, 8, 9, 13, 16, 17] (.one 8 [8, 9, 13, 16, 17] (.one 9 [9, 13, 16, 17] (.one 10 [10, 12, 13, 16, 17] (.one 11 [11, 12, 13, 16, 17] (.one 12 [12, 13, 16, 17] (.one 13 [13, 16, 17] (.alt 14 (.alt 15 (.alt 16 (.alt 17 .done .nil) .nil) .nil) (.alt 15 (.alt 14 (.alt 16 (.alt 17 .done .nil) .nil) .nil) .nil)))))))))))))))) : OZ) (by kernel_rfl) ?_
      | refine SW.regionZ (id := 18) (Checked.mixed Tryd.checked) ((.one 0 [0, 2, 6, 8] (.one 1 [1, 2, 6, 8] (.one 2 [2, 6, 8] (.one 3 [3, 5, 6, 8] (.one 4 [4, 5, 6, 8] (.one 5 [5, 6, 8] (.one 6 [6, 8] (.alt 7 (.alt 8 .done .nil) .nil)))))))) : OZ) (by kernel_rfl) ?_
      | refine SW.regionD (Checked.mixed Tryd.checked) (by kernel_rfl) ?_
      | refine SW.cond ?_
      | refine SW.skip ?_
      | refine SW.exit ?_
      | refine SW.ret ?_
      | refine Call.of_pure (v1) ?_
      | refine ⟨_, v1, ?_⟩
      | refine Call.of_pure (v2) ?_
      | refine ⟨_, v2, ?_⟩
      | refine Call.of_pure (s1) ?_
      | refine ⟨_, s1, ?_⟩
      | refine Call.of_pure (s3) ?_
      | refine ⟨_, s3, ?_⟩
      | refine Call.of_pure (g1) ?_
      | refine ⟨_, g1, ?_⟩
      | refine Call.of_pure (t1) ?_
      | refine ⟨_, t1, ?_⟩
      | refine Call.of_pure (t2) ?_
      | refine ⟨_, t2, ?_⟩
      | refine Call.of_pure (cm) ?_
      | refine ⟨_, cm, ?_⟩
      | refine Call.of_pure (u1) ?_
      | refine ⟨_, u1, ?_⟩
      | refine Call.of_pure (o1) ?_
      | refine ⟨_, o1, ?_⟩
      | refine Call.of_pure (g2) ?_
      | refine ⟨_, g2, ?_⟩
      | refine Call.of_pure (o2) ?_
      | refine ⟨_, o2, ?_⟩
      | refine Call.of_pure (t3) ?_
      | refine ⟨_, t3, ?_⟩
      | refine Call.of_pure (o) ?_
      | refine ⟨_, o, ?_⟩
      | (refine allF_i fun b hb => ?_; replace hD := And.intro hb hD; clear hb; simp only [fresh_cons, fresh_nil, and_true, ne_eq, neF] at hD)
      | simp only [appK, appOsK]); try simp only [go_sem, ↓reduceIte, reduceCtorEq, Nat.reduceAdd, Nat.reduceMul, Nat.reduceSub, Nat.reduceLT, Nat.reduceLeDiff, Nat.reduceEqDiff, Nat.reduceBEq, Nat.reduceBneDiff, Int.reduceToNat, Int.toNat_natCast, eq_self, decide_true, decide_false, Int.reduceEq, and_true, true_and, if_false_eq, if_true_eq, List.getElem?_cons_zero, List.getElem?_cons_succ, setAll, List.length_cons, List.length_nil, List.length_set, List.getD_cons_zero, List.getD_cons_succ, Nat.le_refl, Int.le_refl, Nat.beq_refl, or_self, true_or, or_true, List.drop_zero, hD, hs, he, eb, ed, eg, eh, q1, q2, q3])
    | (refine And.intro (by omega) ?_)
    | (refine ifI (fun hc => ?_) (fun hc => ?_) <;> first | (exfalso; omega) | skip)
    | (first | (apply hK; clear hK K) | (clear hK K; apply hK; clear hK K) | (clear hK K; clear hK K; apply hK; clear hK K) | (clear hK K; clear hK K; clear hK K; apply hK; clear hK K) | (clear hK K; clear hK K; clear hK K; clear hK K; apply hK; clear hK K) | (clear hK K; clear hK K; clear hK K; clear hK K; clear hK K; apply hK; clear hK K))
    | (refine And.intro ?_ ?_)
    | fail
  all_goals
    apply ret_cell (i := 4) (n := 2); exact rfl; (simp only [go_sem, ↓reduceIte, reduceCtorEq, Nat.reduceAdd, Nat.reduceMul, Nat.reduceSub, Nat.reduceLT, Nat.reduceLeDiff, Nat.reduceEqDiff, Nat.reduceBEq, Nat.reduceBneDiff, Int.reduceToNat, Int.toNat_natCast, eq_self, decide_true, decide_false, Int.reduceEq, and_true, true_and, if_false_eq, if_true_eq, List.getElem?_cons_zero, List.getElem?_cons_succ, setAll, List.length_cons, List.length_nil, List.length_set, List.getD_cons_zero, List.getD_cons_succ, Nat.le_refl, Int.le_refl, Nat.beq_refl, or_self, true_or, or_true, List.drop_zero, hD]; try rfl); (first | exact Nat.le_refl _ | decide); simp only [resL_tmp, resL_cellE, resC_ok, resL_nil, tupOf, getN, go_sem, ↓reduceIte, reduceCtorEq, Nat.reduceAdd, Nat.reduceMul, Nat.reduceSub, Nat.reduceLT, Nat.reduceLeDiff, Nat.reduceEqDiff, Nat.reduceBEq, Nat.reduceBneDiff, Int.reduceToNat, Int.toNat_natCast, eq_self, decide_true, decide_false, Int.reduceEq, and_true, true_and, if_false_eq, if_true_eq, List.getElem?_cons_zero, List.getElem?_cons_succ, setAll, List.length_cons, List.length_nil, List.length_set, List.getD_cons_zero, List.getD_cons_succ, Nat.le_refl, Int.le_refl, Nat.beq_refl, or_self, true_or, or_true, List.drop_zero, hD]
    clear hD
    first | rw [if_pos (by omega)] | rw [if_neg (by omega), if_pos (by omega)] | rw [if_neg (by omega), if_neg (by omega)]

set_option maxRecDepth 20000 in
theorem add_p (a b c d : Int) (ha : In64 a) (hb : In64 b) (hc : In64 c) (hd : In64 d) : PCall Tryd.prog 17 [.agg [I64 a, I64 b], .agg [I64 c, I64 d]] (FR (addP a b c d)) := by
  have v1 := valid_p a b ha.1 ha.2 hb.1 hb.2
  have v2 := valid_p c d hc.1 hc.2 hd.1 hd.2
  by_cases hv : okR a b = true ∧ okR c d = true
  · have hb0 := okR_den hv.1
    have hd0 := okR_den hv.2
    rw [addP, if_pos hv]
    rw [hv.1] at v1
    rw [hv.2] at v2
    have la := ha.abs
    have lb := hb.abs
    have lc := hc.abs
    have ld := hd.abs
    have hg : 0 < Nat.gcd b.natAbs d.natAbs := Nat.gcd_pos_of_pos_right _ (by omega)
    have hgb : Nat.gcd b.natAbs d.natAbs ≤ b.natAbs := Nat.gcd_le_left _ (by omega)
    have g1 := gcd_p b.natAbs d.natAbs (by omega) (by omega)
    generalize Nat.gcd b.natAbs d.natAbs = g at *
    have l1 := div_le63 (g := g) ld
    have l2 := div_le63 (g := g) lb
    have px := prod_le la l1
    have py := prod_le lc l2
    have t1 := times_p a.natAbs (d.natAbs / g) (by omega) (by omega)
    have t2 := times_p c.natAbs (b.natAbs / g) (by omega) (by omega)
    generalize a.natAbs * (d.natAbs / g) = X at *
    generalize c.natAbs * (b.natAbs / g) = Y at *
    have key : ∀ (T : Nat) (ng : Bool), T < 340282366920938463463374607431768211456 → (∀ (h D : Nat) (R : Int × Int × Int), ¬ (h : Int) = 0 → IntKind.u64.wrap (Int.tdiv (d.natAbs : Int) (h : Int)) = ((d.natAbs / h : Nat) : Int) →
        PCall Tryd.prog 39 [Wd T, U64 g] (.tup [Wd (T / g), U64 (T % g : Nat)]) → PCall Tryd.prog 31 [U64 g, U64 (T % g : Nat)] (U64 h) → PCall Tryd.prog 39 [Wd T, U64 h] (.tup [Wd (T / h), U64 (T % h : Nat)]) →
        PCall Tryd.prog 35 [U64 (b.natAbs / g : Nat), U64 (d.natAbs / h : Nat)] (Wd D) → PCall Tryd.prog 32 [SB ng, U64 (T / h % 18446744073709551616 : Nat), U64 (D % 18446744073709551616 : Nat)] (FR R) →
        PCall Tryd.prog 17 [.agg [I64 a, I64 b], .agg [I64 c, I64 d]] (FR (if T = 0 then (0, 1, 0) else if 18446744073709551616 ≤ T / h ∨ 18446744073709551616 ≤ D then (0, 0, 7) else R))) →
        PCall Tryd.prog 17 [.agg [I64 a, I64 b], .agg [I64 c, I64 d]] (FR (addG b.natAbs d.natAbs g T ng)) := by
      intro T ng hT w
      unfold addG
      have hr : T % g < g := Nat.mod_lt _ hg
      have hh : 0 < Nat.gcd g (T % g) := Nat.gcd_pos_of_pos_left _ hg
      have hhg : Nat.gcd g (T % g) ≤ g := Nat.gcd_le_left _ hg
      have g2 := gcd_p g (T % g) (by omega) (by omega)
      generalize Nat.gcd g (T % g) = h at *
      have l3 := div_le63 (g := h) ld
      have w2 := fun R => w h (b.natAbs / g * (d.natAbs / h)) R (by omega) (quo_u64 _ _ (by omega)) (over_p T g hT (by omega) hg) g2 (over_p T h hT (by omega) hh) (times_p _ _ (by omega) (by omega))
      clear w
      generalize b.natAbs / g * (d.natAbs / h) = D at *
      by_cases h0 : T = 0
      · rw [if_pos h0]
        have x := w2 _ (of_f _ _ _ (Nat.mod_lt _ (by omega)) (Nat.mod_lt _ (by omega)))
        rwa [if_pos h0] at x
      · rw [if_neg h0]
        by_cases ho : 18446744073709551616 ≤ T / h ∨ 18446744073709551616 ≤ D
        · rw [if_pos ho]
          have x := w2 _ (of_f _ _ _ (Nat.mod_lt _ (by omega)) (Nat.mod_lt _ (by omega)))
          rwa [if_neg h0, if_pos ho] at x
        · rw [if_neg ho]
          have o := of_f ng (T / h) D (by omega) (by omega)
          have x := w2 _ (by rw [Nat.mod_eq_of_lt (a := T / h) (by omega), Nat.mod_eq_of_lt (a := D) (by omega)]; exact o)
          rwa [if_neg h0, if_neg ho] at x
    have eb := absw_pos (n := b) (by omega) hb.2
    have ed := absw_pos (n := d) (by omega) hd.2
    have cm := cmp_p X Y (by omega) (by omega)
    cases hs : (decide (a < 0) == decide (c < 0)) with
    | true =>
      simp only [addT, hs, if_true]
      refine key (X + Y) _ (by omega) fun h D R a1 a2 a3 a4 a5 a6 a7 => ?_
      have u1 := plus_p X Y (by omega) (by omega)
      rw [Nat.mod_eq_of_lt (a := X + Y) (by omega)] at u1
      exact add_p1 a b c d g h X Y _ D v1 v2 eb ed (abs_p a ha.1 ha.2) (abs_p c hc.1 hc.2) g1 (by omega) a1 (quo_u64 _ _ (by omega)) (quo_u64 _ _ (by omega)) a2 t1 t2 a3 a4 a5 a6 u1 hs R a7
    | false =>
      by_cases hl : Y ≤ X
      · simp only [addT, hs, Bool.false_eq_true, if_false, if_pos hl]
        refine key (X - Y) _ (by omega) fun h D R a1 a2 a3 a4 a5 a6 a7 => ?_
        exact add_p2 a b c d g h X Y _ D v1 v2 eb ed (abs_p a ha.1 ha.2) (abs_p c hc.1 hc.2) g1 (by omega) a1 (quo_u64 _ _ (by omega)) (quo_u64 _ _ (by omega)) a2 t1 t2 a3 a4 a5 a6 _ cm (by split <;> (try split) <;> omega) (minus_p X Y (by omega) (by omega) hl) hs R a7
      · simp only [addT, hs, Bool.false_eq_true, if_false, if_neg hl]
        refine key (Y - X) _ (by omega) fun h D R a1 a2 a3 a4 a5 a6 a7 => ?_
        exact add_p3 a b c d g h X Y _ D v1 v2 eb ed (abs_p a ha.1 ha.2) (abs_p c hc.1 hc.2) g1 (by omega) a1 (quo_u64 _ _ (by omega)) (quo_u64 _ _ (by omega)) a2 t1 t2 a3 a4 a5 a6 _ cm (by split <;> (try split) <;> omega) (minus_p Y X (by omega) (by omega) (by omega)) hs R a7
  · rw [addP, if_neg hv]
    rcases ok_false hv with h1 | ⟨h1, h2⟩
    · rw [h1] at v1
      refine Call.enter' (N := 119) (rs := [.cell 4 24, .tmp 5]) Tryd.func17 rfl rfl rfl (by decide) rfl ?_; simp only [argT]; have hD : (0 : Nat) = 0 := rfl
      repeat' first
        | (refine SW.seq_k fun K hK => ?_)
        | (refine SW.block ?_)
        | ((first
      | refine SW.region ?_
      | refine SW.regionD (Checked.mixed Tryd.checked) (by kernel_rfl) ?_
      | refine SW.cond ?_
      | refine SW.skip ?_
      | refine SW.exit ?_
      | refine SW.ret ?_
      | refine Call.of_pure (v1) ?_
      | refine ⟨_, v1, ?_⟩
      | (refine allF_i fun b hb => ?_; replace hD := And.intro hb hD; clear hb; simp only [fresh_cons, fresh_nil, and_true, ne_eq, neF] at hD)
      | simp only [appK, appOsK]); try simp only [go_sem, ↓reduceIte, reduceCtorEq, Nat.reduceAdd, Nat.reduceMul, Nat.reduceSub, Nat.reduceLT, Nat.reduceLeDiff, Nat.reduceEqDiff, Nat.reduceBEq, Nat.reduceBneDiff, Int.reduceToNat, Int.toNat_natCast, eq_self, decide_true, decide_false, Int.reduceEq, and_true, true_and, if_false_eq, if_true_eq, List.getElem?_cons_zero, List.getElem?_cons_succ, setAll, List.length_cons, List.length_nil, List.length_set, List.getD_cons_zero, List.getD_cons_succ, Nat.le_refl, Int.le_refl, Nat.beq_refl, or_self, true_or, or_true, List.drop_zero, hD])
        | (refine And.intro (by omega) ?_)
        | (refine ifI (fun hc => ?_) (fun hc => ?_) <;> first | (exfalso; omega) | skip)
        | (first | (apply hK; clear hK K) | (clear hK K; apply hK; clear hK K) | (clear hK K; clear hK K; apply hK; clear hK K) | (clear hK K; clear hK K; clear hK K; apply hK; clear hK K) | (clear hK K; clear hK K; clear hK K; clear hK K; apply hK; clear hK K) | (clear hK K; clear hK K; clear hK K; clear hK K; clear hK K; apply hK; clear hK K))
        | fail
      apply ret_cell (i := 4) (n := 2); exact rfl; (simp only [go_sem, ↓reduceIte, reduceCtorEq, Nat.reduceAdd, Nat.reduceMul, Nat.reduceSub, Nat.reduceLT, Nat.reduceLeDiff, Nat.reduceEqDiff, Nat.reduceBEq, Nat.reduceBneDiff, Int.reduceToNat, Int.toNat_natCast, eq_self, decide_true, decide_false, Int.reduceEq, and_true, true_and, if_false_eq, if_true_eq, List.getElem?_cons_zero, List.getElem?_cons_succ, setAll, List.length_cons, List.length_nil, List.length_set, List.getD_cons_zero, List.getD_cons_succ, Nat.le_refl, Int.le_refl, Nat.beq_refl, or_self, true_or, or_true, List.drop_zero, hD]; try rfl); (first | exact Nat.le_refl _ | decide); simp only [resL_tmp, resL_cellE, resC_ok, resL_nil, tupOf, getN, go_sem, ↓reduceIte, reduceCtorEq, Nat.reduceAdd, Nat.reduceMul, Nat.reduceSub, Nat.reduceLT, Nat.reduceLeDiff, Nat.reduceEqDiff, Nat.reduceBEq, Nat.reduceBneDiff, Int.reduceToNat, Int.toNat_natCast, eq_self, decide_true, decide_false, Int.reduceEq, and_true, true_and, if_false_eq, if_true_eq, List.getElem?_cons_zero, List.getElem?_cons_succ, setAll, List.length_cons, List.length_nil, List.length_set, List.getD_cons_zero, List.getD_cons_succ, Nat.le_refl, Int.le_refl, Nat.beq_refl, or_self, true_or, or_true, List.drop_zero, hD]
    · rw [h1] at v1
      rw [h2] at v2
      refine Call.enter' (N := 119) (rs := [.cell 4 24, .tmp 5]) Tryd.func17 rfl rfl rfl (by decide) rfl ?_; simp only [argT]; have hD : (0 : Nat) = 0 := rfl
      repeat' first
        | (refine SW.seq_k fun K hK => ?_)
        | (refine SW.block ?_)
        | ((first
      | refine SW.region ?_
      | refine SW.regionD (Checked.mixed Tryd.checked) (by kernel_rfl) ?_
      | refine SW.cond ?_
      | refine SW.skip ?_
      | refine SW.exit ?_
      | refine SW.ret ?_
      | refine Call.of_pure (v1) ?_
      | refine ⟨_, v1, ?_⟩
      | refine Call.of_pure (v2) ?_
      | refine ⟨_, v2, ?_⟩
      | (refine allF_i fun b hb => ?_; replace hD := And.intro hb hD; clear hb; simp only [fresh_cons, fresh_nil, and_true, ne_eq, neF] at hD)
      | simp only [appK, appOsK]); try simp only [go_sem, ↓reduceIte, reduceCtorEq, Nat.reduceAdd, Nat.reduceMul, Nat.reduceSub, Nat.reduceLT, Nat.reduceLeDiff, Nat.reduceEqDiff, Nat.reduceBEq, Nat.reduceBneDiff, Int.reduceToNat, Int.toNat_natCast, eq_self, decide_true, decide_false, Int.reduceEq, and_true, true_and, if_false_eq, if_true_eq, List.getElem?_cons_zero, List.getElem?_cons_succ, setAll, List.length_cons, List.length_nil, List.length_set, List.getD_cons_zero, List.getD_cons_succ, Nat.le_refl, Int.le_refl, Nat.beq_refl, or_self, true_or, or_true, List.drop_zero, hD])
        | (refine And.intro (by omega) ?_)
        | (refine ifI (fun hc => ?_) (fun hc => ?_) <;> first | (exfalso; omega) | skip)
        | (first | (apply hK; clear hK K) | (clear hK K; apply hK; clear hK K) | (clear hK K; clear hK K; apply hK; clear hK K) | (clear hK K; clear hK K; clear hK K; apply hK; clear hK K) | (clear hK K; clear hK K; clear hK K; clear hK K; apply hK; clear hK K) | (clear hK K; clear hK K; clear hK K; clear hK K; clear hK K; apply hK; clear hK K))
        | fail
      apply ret_cell (i := 4) (n := 2); exact rfl; (simp only [go_sem, ↓reduceIte, reduceCtorEq, Nat.reduceAdd, Nat.reduceMul, Nat.reduceSub, Nat.reduceLT, Nat.reduceLeDiff, Nat.reduceEqDiff, Nat.reduceBEq, Nat.reduceBneDiff, Int.reduceToNat, Int.toNat_natCast, eq_self, decide_true, decide_false, Int.reduceEq, and_true, true_and, if_false_eq, if_true_eq, List.getElem?_cons_zero, List.getElem?_cons_succ, setAll, List.length_cons, List.length_nil, List.length_set, List.getD_cons_zero, List.getD_cons_succ, Nat.le_refl, Int.le_refl, Nat.beq_refl, or_self, true_or, or_true, List.drop_zero, hD]; try rfl); (first | exact Nat.le_refl _ | decide); simp only [resL_tmp, resL_cellE, resC_ok, resL_nil, tupOf, getN, go_sem, ↓reduceIte, reduceCtorEq, Nat.reduceAdd, Nat.reduceMul, Nat.reduceSub, Nat.reduceLT, Nat.reduceLeDiff, Nat.reduceEqDiff, Nat.reduceBEq, Nat.reduceBneDiff, Int.reduceToNat, Int.toNat_natCast, eq_self, decide_true, decide_false, Int.reduceEq, and_true, true_and, if_false_eq, if_true_eq, List.getElem?_cons_zero, List.getElem?_cons_succ, setAll, List.length_cons, List.length_nil, List.length_set, List.getD_cons_zero, List.getD_cons_succ, Nat.le_refl, Int.le_refl, Nat.beq_refl, or_self, true_or, or_true, List.drop_zero, hD]
end Go.Proofs.YtcbgkcjlechdnaaDoor
