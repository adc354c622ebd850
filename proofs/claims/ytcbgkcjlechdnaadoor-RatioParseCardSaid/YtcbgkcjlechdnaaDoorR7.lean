/- Contracts of the reference: Cmp, Mul, Add. -/
import Derived.Test.YtcbgkcjlechdnaaDoorR6
set_option linter.unusedSimpArgs false
set_option linter.unusedVariables false
set_option linter.unusedSectionVars false
namespace Go.Ab
open Go
/-- A number of 64 bits with a sign. -/
def In64 (n : Int) : Prop := -9223372036854775808 ≤ n ∧ n ≤ 9223372036854775807
theorem In64.abs {n : Int} (h : In64 n) : n.natAbs ≤ 9223372036854775808 := by unfold In64 at h; omega
theorem prod_le {x y : Nat} (hx : x ≤ 9223372036854775808) (hy : y ≤ 9223372036854775808) : x * y ≤ 85070591730234615865843651857942052864 := Nat.le_trans (Nat.mul_le_mul hx hy) (by decide)
/-- Mul. -/
def mulR (a b c d : Int) : Int × Int × Int := if okR a b = true ∧ okR c d = true then bldR (!(decide (a < 0) == decide (c < 0))) (a.natAbs * c.natAbs) (b.natAbs * d.natAbs) else (0, 0, 1)
/-- Cmp. -/
def cmpR (a b c d : Int) : Int := if a * d < c * b then -1 else if c * b < a * d then 1 else 0
theorem okR_den {a b : Int} (h : okR a b = true) : 0 < b := by
  simp only [okR, Bool.and_eq_true, decide_eq_true_eq] at h
  exact h.1
end Go.Ab
namespace Go.Proofs.YtcbgkcjlechdnaaDoor
open Go Go.Ab
variable [Gl]

set_option maxRecDepth 20000 in
theorem mul_r (a b c d : Int) (ha : In64 a) (hb : In64 b) (hc : In64 c) (hd : In64 d) : PCall Tryd.prog 24 [.agg [I64 a, I64 b], .agg [I64 c, I64 d]] (FR (mulR a b c d)) := by
  have v1 := valid_r a b ha.1 ha.2 hb.1 hb.2
  have v2 := valid_r c d hc.1 hc.2 hd.1 hd.2
  have s1 := size_r a ha.1 ha.2
  have s2 := size_r b hb.1 hb.2
  have s3 := size_r c hc.1 hc.2
  have s4 := size_r d hd.1 hd.2
  have t1 := times_r a.natAbs c.natAbs (by have := ha.abs; omega) (by have := hc.abs; omega)
  have t2 := times_r b.natAbs d.natAbs (by have := hb.abs; omega) (by have := hd.abs; omega)
  have p1 := prod_le ha.abs hc.abs
  have p2 := prod_le hb.abs hd.abs
  refine Call.enter' (N := 39) (rs := [.cell 4 24, .tmp 5]) Tryd.func24 rfl rfl rfl (by decide) rfl ?_; simp only [argT]; have hD : (0 : Nat) = 0 := rfl
  by_cases hv : okR a b = true ∧ okR c d = true
  · have hb0 := okR_den hv.1
    have hd0 := okR_den hv.2
    have hpos : 0 < b.natAbs * d.natAbs := Nat.mul_pos (by omega) (by omega)
    have ho := build_r (!(decide (a < 0) == decide (c < 0))) (a.natAbs * c.natAbs) (b.natAbs * d.natAbs) (by omega) hpos (by omega)
    have hm : mulR a b c d = bldR (!(decide (a < 0) == decide (c < 0))) (a.natAbs * c.natAbs) (b.natAbs * d.natAbs) := by rw [mulR, if_pos hv]
    rw [hv.1] at v1
    rw [hv.2] at v2
    repeat' first
      | (refine SW.seq_k fun K hK => ?_)
      | (refine SW.block ?_)
      | ((first
      | refine SW.region ?_
      | refine SW.regionD (Checked.mixed Tryd.checked) (by kernel_rfl) ?_
      | refine SW.cond ?_
      | refine SW.skip ?_
      | refine SW.exit ?_
      | refine SW.ret ?_
      | refine Call.of_pure (v1) ?_
      | refine ⟨_, v1, ?_⟩
      | refine Call.of_pure (v2) ?_
      | refine ⟨_, v2, ?_⟩
      | refine Call.of_pure (s1) ?_
      | refine ⟨_, s1, ?_⟩
      | refine Call.of_pure (s2) ?_
      | refine ⟨_, s2, ?_⟩
      | refine Call.of_pure (s3) ?_
      | refine ⟨_, s3, ?_⟩
      | refine Call.of_pure (s4) ?_
      | refine ⟨_, s4, ?_⟩
      | refine Call.of_pure (t1) ?_
      | refine ⟨_, t1, ?_⟩
      | refine Call.of_pure (t2) ?_
      | refine ⟨_, t2, ?_⟩
      | refine Call.of_pure (ho) ?_
      | refine ⟨_, ho, ?_⟩
      | (refine allF_i fun b hb => ?_; replace hD := And.intro hb hD; clear hb; simp only [fresh_cons, fresh_nil, and_true, ne_eq, neF] at hD)
      | simp only [appK, appOsK]); try simp only [go_sem, ↓reduceIte, reduceCtorEq, Nat.reduceAdd, Nat.reduceMul, Nat.reduceSub, Nat.reduceLT, Nat.reduceLeDiff, Nat.reduceEqDiff, Nat.reduceBEq, Nat.reduceBneDiff, Int.reduceToNat, Int.toNat_natCast, eq_self, decide_true, decide_false, Int.reduceEq, and_true, true_and, if_false_eq, if_true_eq, List.getElem?_cons_zero, List.getElem?_cons_succ, setAll, List.length_cons, List.length_nil, List.length_set, List.getD_cons_zero, List.getD_cons_succ, Nat.le_refl, Int.le_refl, Nat.beq_refl, or_self, true_or, or_true, List.drop_zero, hD])
      | (refine And.intro (by omega) ?_)
      | (refine ifI (fun hc => ?_) (fun hc => ?_) <;> first | (exfalso; omega) | skip)
      | (first | (apply hK; clear hK K) | (clear hK K; apply hK; clear hK K) | (clear hK K; clear hK K; apply hK; clear hK K) | (clear hK K; clear hK K; clear hK K; apply hK; clear hK K) | (clear hK K; clear hK K; clear hK K; clear hK K; apply hK; clear hK K) | (clear hK K; clear hK K; clear hK K; clear hK K; clear hK K; apply hK; clear hK K))
      | fail
    apply ret_cell (i := 4) (n := 2); exact rfl; (simp only [go_sem, ↓reduceIte, reduceCtorEq, Nat.reduceAdd, Nat.reduceMul, Nat.reduceSub, Nat.reduceLT, Nat.reduceLeDiff, Nat.reduceEqDiff, Nat.reduceBEq, Nat.reduceBneDiff, Int.reduceToNat, Int.toNat_natCast, eq_self, decide_true, decide_false, Int.reduceEq, and_true, true_and, if_false_eq, if_true_eq, List.getElem?_cons_zero, List.getElem?_cons_succ, setAll, List.length_cons, List.length_nil, List.length_set, List.getD_cons_zero, List.getD_cons_succ, Nat.le_refl, Int.le_refl, Nat.beq_refl, or_self, true_or, or_true, List.drop_zero, hD]; try rfl); (first | exact Nat.le_refl _ | decide); simp only [resL_tmp, resL_cellE, resC_ok, resL_nil, tupOf, getN, go_sem, ↓reduceIte, reduceCtorEq, Nat.reduceAdd, Nat.reduceMul, Nat.reduceSub, Nat.reduceLT, Nat.reduceLeDiff, Nat.reduceEqDiff, Nat.reduceBEq, Nat.reduceBneDiff, Int.reduceToNat, Int.toNat_natCast, eq_self, decide_true, decide_false, Int.reduceEq, and_true, true_and, if_false_eq, if_true_eq, List.getElem?_cons_zero, List.getElem?_cons_succ, setAll, List.length_cons, List.length_nil, List.length_set, List.getD_cons_zero, List.getD_cons_succ, Nat.le_refl, Int.le_refl, Nat.beq_refl, or_self, true_or, or_true, List.drop_zero, hD]
    rw [hm]
  · have hm : mulR a b c d = (0, 0, 1) := by rw [mulR, if_neg hv]
    repeat' first
      | (refine SW.seq_k fun K hK => ?_)
      | (refine SW.block ?_)
      | ((first
      | refine SW.region ?_
      | refine SW.regionD (Checked.mixed Tryd.checked) (by kernel_rfl) ?_
      | refine SW.cond ?_
      | refine SW.skip ?_
      | refine SW.exit ?_
      | refine SW.ret ?_
      | refine Call.of_pure (v1) ?_
      | refine ⟨_, v1, ?_⟩
      | refine Call.of_pure (v2) ?_
      | refine ⟨_, v2, ?_⟩
      | refine Call.of_pure (s1) ?_
      | refine ⟨_, s1, ?_⟩
      | refine Call.of_pure (s2) ?_
      | refine ⟨_, s2, ?_⟩
      | refine Call.of_pure (s3) ?_
      | refine ⟨_, s3, ?_⟩
      | refine Call.of_pure (s4) ?_
      | refine ⟨_, s4, ?_⟩
      | refine Call.of_pure (t1) ?_
      | refine ⟨_, t1, ?_⟩
      | refine Call.of_pure (t2) ?_
      | refine ⟨_, t2, ?_⟩
      | (refine allF_i fun b hb => ?_; replace hD := And.intro hb hD; clear hb; simp only [fresh_cons, fresh_nil, and_true, ne_eq, neF] at hD)
      | simp only [appK, appOsK]); try simp only [go_sem, ↓reduceIte, reduceCtorEq, Nat.reduceAdd, Nat.reduceMul, Nat.reduceSub, Nat.reduceLT, Nat.reduceLeDiff, Nat.reduceEqDiff, Nat.reduceBEq, Nat.reduceBneDiff, Int.reduceToNat, Int.toNat_natCast, eq_self, decide_true, decide_false, Int.reduceEq, and_true, true_and, if_false_eq, if_true_eq, List.getElem?_cons_zero, List.getElem?_cons_succ, setAll, List.length_cons, List.length_nil, List.length_set, List.getD_cons_zero, List.getD_cons_succ, Nat.le_refl, Int.le_refl, Nat.beq_refl, or_self, true_or, or_true, List.drop_zero, hD])
      | (refine And.intro (by omega) ?_)
      | (refine ifI (fun hc => ?_) (fun hc => ?_) <;> first | (exfalso; omega) | skip)
      | (first | (apply hK; clear hK K) | (clear hK K; apply hK; clear hK K) | (clear hK K; clear hK K; apply hK; clear hK K) | (clear hK K; clear hK K; clear hK K; apply hK; clear hK K) | (clear hK K; clear hK K; clear hK K; clear hK K; apply hK; clear hK K) | (clear hK K; clear hK K; clear hK K; clear hK K; clear hK K; apply hK; clear hK K))
      | fail
    · apply ret_cell (i := 4) (n := 2); exact rfl; (simp only [go_sem, ↓reduceIte, reduceCtorEq, Nat.reduceAdd, Nat.reduceMul, Nat.reduceSub, Nat.reduceLT, Nat.reduceLeDiff, Nat.reduceEqDiff, Nat.reduceBEq, Nat.reduceBneDiff, Int.reduceToNat, Int.toNat_natCast, eq_self, decide_true, decide_false, Int.reduceEq, and_true, true_and, if_false_eq, if_true_eq, List.getElem?_cons_zero, List.getElem?_cons_succ, setAll, List.length_cons, List.length_nil, List.length_set, List.getD_cons_zero, List.getD_cons_succ, Nat.le_refl, Int.le_refl, Nat.beq_refl, or_self, true_or, or_true, List.drop_zero, hD]; try rfl); (first | exact Nat.le_refl _ | decide); simp only [resL_tmp, resL_cellE, resC_ok, resL_nil, tupOf, getN, go_sem, ↓reduceIte, reduceCtorEq, Nat.reduceAdd, Nat.reduceMul, Nat.reduceSub, Nat.reduceLT, Nat.reduceLeDiff, Nat.reduceEqDiff, Nat.reduceBEq, Nat.reduceBneDiff, Int.reduceToNat, Int.toNat_natCast, eq_self, decide_true, decide_false, Int.reduceEq, and_true, true_and, if_false_eq, if_true_eq, List.getElem?_cons_zero, List.getElem?_cons_succ, setAll, List.length_cons, List.length_nil, List.length_set, List.getD_cons_zero, List.getD_cons_succ, Nat.le_refl, Int.le_refl, Nat.beq_refl, or_self, true_or, or_true, List.drop_zero, hD]
      rw [hm]
    · apply ret_cell (i := 4) (n := 2); exact rfl; (simp only [go_sem, ↓reduceIte, reduceCtorEq, Nat.reduceAdd, Nat.reduceMul, Nat.reduceSub, Nat.reduceLT, Nat.reduceLeDiff, Nat.reduceEqDiff, Nat.reduceBEq, Nat.reduceBneDiff, Int.reduceToNat, Int.toNat_natCast, eq_self, decide_true, decide_false, Int.reduceEq, and_true, true_and, if_false_eq, if_true_eq, List.getElem?_cons_zero, List.getElem?_cons_succ, setAll, List.length_cons, List.length_nil, List.length_set, List.getD_cons_zero, List.getD_cons_succ, Nat.le_refl, Int.le_refl, Nat.beq_refl, or_self, true_or, or_true, List.drop_zero, hD]; try rfl); (first | exact Nat.le_refl _ | decide); simp only [resL_tmp, resL_cellE, resC_ok, resL_nil, tupOf, getN, go_sem, ↓reduceIte, reduceCtorEq, Nat.reduceAdd, Nat.reduceMul, Nat.reduceSub, Nat.reduceLT, Nat.reduceLeDiff, Nat.reduceEqDiff, Nat.reduceBEq, Nat.reduceBneDiff, Int.reduceToNat, Int.toNat_natCast, eq_self, decide_true, decide_false, Int.reduceEq, and_true, true_and, if_false_eq, if_true_eq, List.getElem?_cons_zero, List.getElem?_cons_succ, setAll, List.length_cons, List.length_nil, List.length_set, List.getD_cons_zero, List.getD_cons_succ, Nat.le_refl, Int.le_refl, Nat.beq_refl, or_self, true_or, or_true, List.drop_zero, hD]
      rw [hm]
    · exfalso
      simp_all

/-- A product, by the sign of its first number. -/
theorem prodI (a d : Int) (hd : 0 < d) : (a < 0 ∧ 0 < a.natAbs * d.natAbs ∧ a * d = -((a.natAbs * d.natAbs : Nat) : Int)) ∨ (0 ≤ a ∧ a * d = ((a.natAbs * d.natAbs : Nat) : Int)) := by
  rcases Int.lt_or_le a 0 with h | h
  · refine .inl ⟨h, Nat.mul_pos (by omega) (by omega), ?_⟩
    have e1 : a = -(a.natAbs : Int) := by omega
    have e2 : d = (d.natAbs : Int) := by omega
    rw [Int.natCast_mul, ← e2, ← Int.neg_mul, ← e1]
  · refine .inr ⟨h, ?_⟩
    have e1 : a = (a.natAbs : Int) := by omega
    have e2 : d = (d.natAbs : Int) := by omega
    rw [Int.natCast_mul, ← e2, ← e1]

theorem cmp_eq {p q r s : Int} (hq : 0 < q) (hs : 0 < s) {e : Int} (h : (p < 0 ∧ 0 ≤ r ∧ e = -1) ∨ (0 ≤ p ∧ r < 0 ∧ e = 1) ∨ (((p < 0 ∧ r < 0) ∨ (0 ≤ p ∧ 0 ≤ r)) ∧
    ((p < 0 ∧ r.natAbs * q.natAbs < p.natAbs * s.natAbs ∧ e = -1) ∨ (p < 0 ∧ p.natAbs * s.natAbs < r.natAbs * q.natAbs ∧ e = 1) ∨ (0 ≤ p ∧ p.natAbs * s.natAbs < r.natAbs * q.natAbs ∧ e = -1) ∨ (0 ≤ p ∧ r.natAbs * q.natAbs < p.natAbs * s.natAbs ∧ e = 1) ∨ (p.natAbs * s.natAbs = r.natAbs * q.natAbs ∧ e = 0)))) : cmpR p q r s = e := by
  unfold cmpR
  have e1 := prodI p s hs
  have e2 := prodI r q hq
  generalize p * s = x at *
  generalize r * q = y at *
  generalize p.natAbs * s.natAbs = X at *
  generalize r.natAbs * q.natAbs = Y at *
  split
  · omega
  · split <;> omega

set_option maxRecDepth 20000 in
theorem cmp_r (p q r s : Int) (hp : In64 p) (hq : In64 q) (hr : In64 r) (hs : In64 s) (hq0 : 0 < q) (hs0 : 0 < s) : PCall Tryd.prog 22 [.agg [I64 p, I64 q], .agg [I64 r, I64 s]] (I64 (cmpR p q r s)) := by
  have s1 := size_r p hp.1 hp.2
  have s2 := size_r q hq.1 hq.2
  have s3 := size_r r hr.1 hr.2
  have s4 := size_r s hs.1 hs.2
  have t1 := times_r p.natAbs s.natAbs (by have := hp.abs; omega) (by have := hs.abs; omega)
  have t2 := times_r r.natAbs q.natAbs (by have := hr.abs; omega) (by have := hq.abs; omega)
  have p1 := prod_le hp.abs hs.abs
  have p2 := prod_le hr.abs hq.abs
  have l1 := less_r (p.natAbs * s.natAbs) (r.natAbs * q.natAbs) (by omega) (by omega)
  have l2 := less_r (r.natAbs * q.natAbs) (p.natAbs * s.natAbs) (by omega) (by omega)
  refine Call.enter' (N := 42) (rs := [.tmp 4]) Tryd.func22 rfl rfl rfl (by decide) rfl ?_; simp only [argT]; have hD : (0 : Nat) = 0 := rfl
  repeat' first
    | (refine SW.seq_k fun K hK => ?_)
    | (refine SW.block ?_)
    | ((first
      | refine SW.region ?_
      | refine SW.cond ?_
      | refine SW.skip ?_
      | refine SW.exit ?_
      | refine SW.ret ?_
      | refine Call.of_pure (s1) ?_
      | refine ⟨_, s1, ?_⟩
      | refine Call.of_pure (s2) ?_
      | refine ⟨_, s2, ?_⟩
      | refine Call.of_pure (s3) ?_
      | refine ⟨_, s3, ?_⟩
      | refine Call.of_pure (s4) ?_
      | refine ⟨_, s4, ?_⟩
      | refine Call.of_pure (t1) ?_
      | refine ⟨_, t1, ?_⟩
      | refine Call.of_pure (t2) ?_
      | refine ⟨_, t2, ?_⟩
      | refine Call.of_pure (l1) ?_
      | refine ⟨_, l1, ?_⟩
      | refine Call.of_pure (l2) ?_
      | refine ⟨_, l2, ?_⟩
      | (refine allF_i fun b hb => ?_; replace hD := And.intro hb hD; clear hb; simp only [fresh_cons, fresh_nil, and_true, ne_eq, neF] at hD)
      | simp only [appK, appOsK]); try simp only [go_sem, ↓reduceIte, reduceCtorEq, Nat.reduceAdd, Nat.reduceMul, Nat.reduceSub, Nat.reduceLT, Nat.reduceLeDiff, Nat.reduceEqDiff, Nat.reduceBEq, Nat.reduceBneDiff, Int.reduceToNat, Int.toNat_natCast, eq_self, decide_true, decide_false, Int.reduceEq, and_true, true_and, if_false_eq, if_true_eq, List.getElem?_cons_zero, List.getElem?_cons_succ, setAll, List.length_cons, List.length_nil, List.length_set, List.getD_cons_zero, List.getD_cons_succ, Nat.le_refl, Int.le_refl, Nat.beq_refl, or_self, true_or, or_true, List.drop_zero, hD])
    | (refine And.intro (by omega) ?_)
    | (refine ifI (fun hc => ?_) (fun hc => ?_) <;> first | (exfalso; omega) | skip)
    | (first | (apply hK; clear hK K) | (clear hK K; apply hK; clear hK K) | (clear hK K; clear hK K; apply hK; clear hK K) | (clear hK K; clear hK K; clear hK K; apply hK; clear hK K) | (clear hK K; clear hK K; clear hK K; clear hK K; apply hK; clear hK K) | (clear hK K; clear hK K; clear hK K; clear hK K; clear hK K; apply hK; clear hK K))
    | fail
  all_goals try (refine SW.regionZ (Checked.mixed Tryd.checked) ((.one 0 [0, 1, 2, 5, 6, 9, 12, 13, 16, 17] (.one 1 [1, 2, 5, 6, 9, 12, 13, 16, 17] (.one 2 [2, 5, 6, 9, 12, 13, 16, 17] (.one 3 [3, 4, 5, 6, 9, 12, 13, 16, 17] (.one 4 [4, 5, 6, 9, 12, 13, 16, 17] (.one 5 [5, 6, 9, 12, 13, 16, 17] (.one 6 [6, 9, 12, 13, 16, 17] (.one 7 [7, 8, 9, 12, 13, 16, 17] (.one 8 [8, 9, 12, 13, 16, 17] (.one 9 [9, 12, 13, 16, 17] (.one 10 [10, 11, 12, 13, 16, 17] (.one 11 [11, 12, 13, 16, 17] (.one 12 [12, 13, 16, 17] (.one 13 [13, 16, 17] (.alt 14 (.alt 15 (.alt 16 (.alt 17 .done .nil) .nil) .nil) (.alt 15 (.alt 14 (.alt 16 (.alt 17 .done .nil) .nil) .nil) .nil)))))))))))))))) : OZ) (by kernel_rfl) ?_; simp only [go_sem, ↓reduceIte, reduceCtorEq, Nat.reduceAdd, Nat.reduceMul, Nat.reduceSub, Nat.reduceLT, Nat.reduceLeDiff, Nat.reduceEqDiff, Nat.reduceBEq, Nat.reduceBneDiff, Int.reduceToNat, Int.toNat_natCast, eq_self, decide_true, decide_false, Int.reduceEq, and_true, true_and, if_false_eq, if_true_eq, List.getElem?_cons_zero, List.getElem?_cons_succ, setAll, List.length_cons, List.length_nil, List.length_set, List.getD_cons_zero, List.getD_cons_succ, Nat.le_refl, Int.le_refl, Nat.beq_refl, or_self, true_or, or_true, List.drop_zero, hD])
  repeat' first
    | (refine SW.seq_k fun K hK => ?_)
    | (refine SW.block ?_)
    | ((first
      | refine SW.region ?_
      | refine SW.regionD (Checked.mixed Tryd.checked) (by kernel_rfl) ?_
      | refine SW.cond ?_
      | refine SW.skip ?_
      | refine SW.exit ?_
      | refine SW.ret ?_
      | refine Call.of_pure (s1) ?_
      | refine ⟨_, s1, ?_⟩
      | refine Call.of_pure (s2) ?_
      | refine ⟨_, s2, ?_⟩
      | refine Call.of_pure (s3) ?_
      | refine ⟨_, s3, ?_⟩
      | refine Call.of_pure (s4) ?_
      | refine ⟨_, s4, ?_⟩
      | refine Call.of_pure (t1) ?_
      | refine ⟨_, t1, ?_⟩
      | refine Call.of_pure (t2) ?_
      | refine ⟨_, t2, ?_⟩
      | refine Call.of_pure (l1) ?_
      | refine ⟨_, l1, ?_⟩
      | refine Call.of_pure (l2) ?_
      | refine ⟨_, l2, ?_⟩
      | (refine allF_i fun b hb => ?_; replace hD := And.intro hb hD; clear hb; simp only [fresh_cons, fresh_nil, and_true, ne_eq, neF] at hD)
      | simp only [appK, appOsK]); try simp only [go_sem, ↓reduceIte, reduceCtorEq, Nat.reduceAdd, Nat.reduceMul, Nat.reduceSub, Nat.reduceLT, Nat.reduceLeDiff, Nat.reduceEqDiff, Nat.reduceBEq, Nat.reduceBneDiff, Int.reduceToNat, Int.toNat_natCast, eq_self, decide_true, decide_false, Int.reduceEq, and_true, true_and, if_false_eq, if_true_eq, List.getElem?_cons_zero, List.getElem?_cons_succ, setAll, List.length_cons, List.length_nil, List.length_set, List.getD_cons_zero, List.getD_cons_succ, Nat.le_refl, Int.le_refl, Nat.beq_refl, or_self, true_or, or_true, List.drop_zero, hD])
    | (refine And.intro (by omega) ?_)
    | (refine ifI (fun hc => ?_) (fun hc => ?_) <;> first | (exfalso; omega) | skip)
    | (first | (apply hK; clear hK K) | (clear hK K; apply hK; clear hK K) | (clear hK K; clear hK K; apply hK; clear hK K) | (clear hK K; clear hK K; clear hK K; apply hK; clear hK K) | (clear hK K; clear hK K; clear hK K; clear hK K; apply hK; clear hK K) | (clear hK K; clear hK K; clear hK K; clear hK K; clear hK K; apply hK; clear hK K))
    | (refine And.intro ?_ ?_)
    | fail
  all_goals
    clear s1 s2 s3 s4 t1 t2 l1 l2
    refine ret_pure ?_; simp only [resL_tmp, resL_nil, tupOf, go_sem, ↓reduceIte, reduceCtorEq, Nat.reduceAdd, Nat.reduceMul, Nat.reduceSub, Nat.reduceLT, Nat.reduceLeDiff, Nat.reduceEqDiff, Nat.reduceBEq, Nat.reduceBneDiff, Int.reduceToNat, Int.toNat_natCast, eq_self, decide_true, decide_false, Int.reduceEq, and_true, true_and, if_false_eq, if_true_eq, List.getElem?_cons_zero, List.getElem?_cons_succ, setAll, List.length_cons, List.length_nil, List.length_set, List.getD_cons_zero, List.getD_cons_succ, Nat.le_refl, Int.le_refl, Nat.beq_refl, or_self, true_or, or_true, List.drop_zero, hD]
    refine int_eq (cmp_eq hq0 hs0 ?_).symm
    generalize p.natAbs * s.natAbs = X at *
    generalize r.natAbs * q.natAbs = Y at *
    clear hD
    simp only [Bool.not_eq_false, beq_eq_false_iff_ne, beq_iff_eq, ne_eq, decide_eq_decide, and_true, and_false, or_false, false_or, Int.reduceNeg, Int.reduceEq, reduceCtorEq] at *
    omega
end Go.Proofs.YtcbgkcjlechdnaaDoor
