/- Contracts of the program: Cmp and Mul. -/
import Derived.Test.YtcbgkcjlechdnaaDoorR8
set_option linter.unusedSimpArgs false
set_option linter.unusedVariables false
set_option linter.unusedSectionVars false
namespace Go.Ab
open Go
end Go.Ab
namespace Go.Proofs.YtcbgkcjlechdnaaDoor
open Go Go.Ab
variable [Gl]

theorem cmp_eq' {p q r s : Int} (hq : 0 < q) (hs : 0 < s) {e : Int} (h : (p < 0 ∧ 0 ≤ r ∧ e = -1) ∨ (0 ≤ p ∧ r < 0 ∧ e = 1) ∨ (((p < 0 ∧ r < 0) ∨ (0 ≤ p ∧ 0 ≤ r)) ∧
    e = if p < 0 then IntKind.i64.wrap (0 - (if p.natAbs * s.natAbs = r.natAbs * q.natAbs then 0 else if p.natAbs * s.natAbs < r.natAbs * q.natAbs then -1 else 1)) else (if p.natAbs * s.natAbs = r.natAbs * q.natAbs then 0 else if p.natAbs * s.natAbs < r.natAbs * q.natAbs then -1 else 1))) : e = cmpR p q r s := by
  refine (cmp_eq hq hs ?_).symm
  rcases h with h | h | ⟨h1, h2⟩
  · exact .inl h
  · exact .inr (.inl h)
  · refine .inr (.inr ⟨h1, ?_⟩)
    generalize p.natAbs * s.natAbs = X at *
    generalize r.natAbs * q.natAbs = Y at *
    by_cases hp : p < 0
    · rw [if_pos hp] at h2
      by_cases e1 : X = Y
      · rw [if_pos e1] at h2
        have : e = 0 := h2
        omega
      · rw [if_neg e1] at h2
        by_cases e2 : X < Y
        · rw [if_pos e2] at h2
          have : e = 1 := h2
          omega
        · rw [if_neg e2] at h2
          have : e = -1 := h2
          omega
    · rw [if_neg hp] at h2
      split at h2
      · omega
      · split at h2 <;> omega

set_option maxRecDepth 20000 in
theorem cmp2_p (p q r s : Int) (hp : In64 p) (hq : In64 q) (hr : In64 r) (hs : In64 s) (hq0 : 0 < q) (hs0 : 0 < s) : PCall Tryd.prog 21 [.agg [I64 p, I64 q], .agg [I64 r, I64 s]] (I64 (cmpR p q r s)) := by
  have s1 := abs_p p hp.1 hp.2
  have s2 := abs_p q hq.1 hq.2
  have s3 := abs_p r hr.1 hr.2
  have s4 := abs_p s hs.1 hs.2
  have t1 := times_p p.natAbs s.natAbs (by have := hp.abs; omega) (by have := hs.abs; omega)
  have t2 := times_p r.natAbs q.natAbs (by have := hr.abs; omega) (by have := hq.abs; omega)
  have p1 := prod_le hp.abs hs.abs
  have p2 := prod_le hr.abs hq.abs
  have l1 := cmp_p (p.natAbs * s.natAbs) (r.natAbs * q.natAbs) (by omega) (by omega)
  refine Call.enter' (N := 37) (rs := [.tmp 4]) Tryd.func21 rfl rfl rfl (by decide) rfl ?_; simp only [argT]; have hD : (0 : Nat) = 0 := rfl
  repeat' first
    | (refine SW.seq_k fun K hK => ?_)
    | (refine SW.block ?_)
    | ((first
      | refine SW.region ?_
      | refine SW.regionZ (id := 5) (Checked.mixed Tryd.checked) ((.one 0 [0, 1, 2, 5, 6, 9, 12, 13, 14, 15] (.one 1 [1, 2, 5, 6, 9, 12, 13, 14, 15] (.one 2 [2, 5, 6, 9, 12, 13, 14, 15] (.one 3 [3, 4, 5, 6, 9, 12, 13, 14, 15] (.one 4 [4, 5, 6, 9, 12, 13, 14, 15] (.one 5 [5, 6, 9, 12, 13, 14, 15] (.one 6 [6, 9, 12, 13, 14, 15] (.one 7 [7, 8, 9, 12, 13, 14, 15] (.one 8 [8, 9, 12, 13, 14, 15] (.one 9 [9, 12, 13, 14, 15] (.one 10 [10, 11, 12, 13, 14, 15] (.one 11 [11, 12, 13, 14, 15] (.one 12 [12, 13, 14, 15] (.one 13 [13, 14, 15] (.one 14 [14, 15] (.one 15 [15] .done)))))))))))))))) : OZ) (by kernel_rfl) ?_
      | refine SW.regionD (Checked.mixed Tryd.checked) (by kernel_rfl) ?_
      | refine SW.cond ?_
      | refine SW.skip ?_
      | refine SW.exit ?_
      | refine SW.ret ?_
      | refine Call.of_pure (s1) ?_
      | refine ⟨_, s1, ?_⟩
      | refine Call.of_pure (s2) ?_
      | refine ⟨_, s2, ?_⟩
      | refine Call.of_pure (s3) ?_
      | refine ⟨_, s3, ?_⟩
      | refine Call.of_pure (s4) ?_
      | refine ⟨_, s4, ?_⟩
      | refine Call.of_pure (t1) ?_
      | refine ⟨_, t1, ?_⟩
      | refine Call.of_pure (t2) ?_
      | refine ⟨_, t2, ?_⟩
      | refine Call.of_pure (l1) ?_
      | refine ⟨_, l1, ?_⟩
      | (refine allF_i fun b hb => ?_; replace hD := And.intro hb hD; clear hb; simp only [fresh_cons, fresh_nil, and_true, ne_eq, neF] at hD)
      | simp only [appK, appOsK]); try simp only [go_sem, ↓reduceIte, reduceCtorEq, Nat.reduceAdd, Nat.reduceMul, Nat.reduceSub, Nat.reduceLT, Nat.reduceLeDiff, Nat.reduceEqDiff, Nat.reduceBEq, Nat.reduceBneDiff, Int.reduceToNat, Int.toNat_natCast, eq_self, decide_true, decide_false, Int.reduceEq, and_true, true_and, if_false_eq, if_true_eq, List.getElem?_cons_zero, List.getElem?_cons_succ, setAll, List.length_cons, List.length_nil, List.length_set, List.getD_cons_zero, List.getD_cons_succ, Nat.le_refl, Int.le_refl, Nat.beq_refl, or_self, true_or, or_true, List.drop_zero, hD])
    | (refine And.intro (by omega) ?_)
    | (refine ifI (fun hc => ?_) (fun hc => ?_) <;> first | (exfalso; omega) | skip)
    | (first | (apply hK; clear hK K) | (clear hK K; apply hK; clear hK K) | (clear hK K; clear hK K; apply hK; clear hK K) | (clear hK K; clear hK K; clear hK K; apply hK; clear hK K) | (clear hK K; clear hK K; clear hK K; clear hK K; apply hK; clear hK K) | (clear hK K; clear hK K; clear hK K; clear hK K; clear hK K; apply hK; clear hK K))
    | (refine And.intro ?_ ?_)
    | fail
  all_goals
    clear s1 s2 s3 s4 t1 t2 l1
    refine ret_pure ?_; simp only [resL_tmp, resL_nil, tupOf, go_sem, ↓reduceIte, reduceCtorEq, Nat.reduceAdd, Nat.reduceMul, Nat.reduceSub, Nat.reduceLT, Nat.reduceLeDiff, Nat.reduceEqDiff, Nat.reduceBEq, Nat.reduceBneDiff, Int.reduceToNat, Int.toNat_natCast, eq_self, decide_true, decide_false, Int.reduceEq, and_true, true_and, if_false_eq, if_true_eq, List.getElem?_cons_zero, List.getElem?_cons_succ, setAll, List.length_cons, List.length_nil, List.length_set, List.getD_cons_zero, List.getD_cons_succ, Nat.le_refl, Int.le_refl, Nat.beq_refl, or_self, true_or, or_true, List.drop_zero, hD]
    refine int_eq (cmp_eq' hq0 hs0 ?_)
    generalize p.natAbs * s.natAbs = X at *
    generalize r.natAbs * q.natAbs = Y at *
    clear hD
    simp only [Bool.not_eq_false, beq_eq_false_iff_ne, beq_iff_eq, ne_eq, decide_eq_decide, and_true, and_false, or_false, false_or, Int.reduceNeg, Int.reduceEq, reduceCtorEq] at *
    try simp only [if_pos (show p < 0 by assumption), if_neg (show ¬ p < 0 by assumption)]
  · omega
  · omega
  · refine .inr (.inr ⟨by omega, ?_⟩)
    have h0 : p < 0 := by assumption
    simp only [if_pos h0]
  · refine .inr (.inr ⟨by omega, ?_⟩)
    have h0 : ¬ p < 0 := by assumption
    simp only [if_neg h0]

set_option maxRecDepth 20000 in
theorem mul_p1 (a b c d : Int) (g h : Nat) (X Y : Nat) (v1 : PCall Tryd.prog 15 [SV.agg [I64 a, I64 b]] (SB true)) (v2 : PCall Tryd.prog 15 [SV.agg [I64 c, I64 d]] (SB true))
    (s1 : PCall Tryd.prog 30 [I64 a] (U64 a.natAbs)) (s3 : PCall Tryd.prog 30 [I64 c] (U64 c.natAbs)) (ea : ¬ a = 0) (ec : ¬ c = 0) (eb : IntKind.u64.wrap b = (b.natAbs : Int)) (ed : IntKind.u64.wrap d = (d.natAbs : Int))
    (g1 : PCall Tryd.prog 31 [U64 a.natAbs, U64 d.natAbs] (U64 g)) (g2 : PCall Tryd.prog 31 [U64 c.natAbs, U64 b.natAbs] (U64 h)) (eg : ¬ (g : Int) = 0) (eh : ¬ (h : Int) = 0)
    (q1 : IntKind.u64.wrap (Int.tdiv (a.natAbs : Int) (g : Int)) = ((a.natAbs / g : Nat) : Int)) (q2 : IntKind.u64.wrap (Int.tdiv (c.natAbs : Int) (h : Int)) = ((c.natAbs / h : Nat) : Int))
    (q3 : IntKind.u64.wrap (Int.tdiv (b.natAbs : Int) (h : Int)) = ((b.natAbs / h : Nat) : Int)) (q4 : IntKind.u64.wrap (Int.tdiv (d.natAbs : Int) (g : Int)) = ((d.natAbs / g : Nat) : Int))
    (t1 : PCall Tryd.prog 35 [U64 (a.natAbs / g : Nat), U64 (c.natAbs / h : Nat)] (Wd X)) (t2 : PCall Tryd.prog 35 [U64 (b.natAbs / h : Nat), U64 (d.natAbs / g : Nat)] (Wd Y))
    (R : Int × Int × Int) (o : PCall Tryd.prog 32 [SB (!(decide (a < 0) == decide (c < 0))), U64 (X % 18446744073709551616 : Nat), U64 (Y % 18446744073709551616 : Nat)] (FR R)) :
    PCall Tryd.prog 23 [.agg [I64 a, I64 b], .agg [I64 c, I64 d]] (FR (if 18446744073709551616 ≤ X ∨ 18446744073709551616 ≤ Y then (0, 0, 7) else R)) := by
  refine Call.enter' (N := 87) (rs := [.cell 4 24, .tmp 5]) Tryd.func23 rfl rfl rfl (by decide) rfl ?_; simp only [argT]; have hD : (0 : Nat) = 0 := rfl
  repeat' first
    | (refine SW.seq_k fun K hK => ?_)
    | (refine SW.block ?_)
    | ((first
      | refine SW.region ?_
      | refine SW.regionZ (id := 5) (Checked.mixed Tryd.checked) ((.one 0 [0, 1, 2, 6, 9, 13, 14, 15] (.one 1 [1, 2, 6, 9, 13, 14, 15] (.one 2 [2, 6, 9, 13, 14, 15] (.one 3 [3, 4, 5, 6, 9, 13, 14, 15] (.one 4 [4, 5, 6, 9, 13, 14, 15] (.one 5 [5, 6, 9, 13, 14, 15] (.one 6 [6, 9, 13, 14, 15] (.one 7 [7, 8, 9, 13, 14, 15] (.one 8 [8, 9, 13, 14, 15] (.one 9 [9, 13, 14, 15] (.one 10 [10, 11, 12, 13, 14, 15] (.one 11 [11, 12, 13, 14, 15] (.one 12 [12, 13, 14, 15] (.one 13 [13, 14, 15] (.one 14 [14, 15] (.one 15 [15] .done)))))))))))))))) : OZ) (by kernel_rfl) ?_
      | refine SW.regionZ (id := 6) (Checked.mixed Tryd.checked) ((.one 0 [0, 1, 2, 4, 7, 9, 10, 12] (.one 1 [1, 2, 4, 7, 9, 10, 12] (.one 2 [2, 4, 7, 9, 10, 12] (.one 3 [3, 4, 10, 12] (.one 4 [4, 10, 12] (.one 5 [5, 6, 7, 9, 10, 12] (.one 6 [6, 7, 9, 10, 12] (.one 7 [7, 9, 10, 12] (.one 8 [8, 9, 10, 12] (.one 9 [9, 10, 12] (.one 10 [10, 12] (.alt 11 (.alt 12 .done .nil) .nil)))))))))))) : OZ) (by kernel_rfl) ?_
      | refine SW.regionZ (id := 7) (Checked.mixed Tryd.checked) ((.one 0 [0, 1, 2, 4, 10, 12] (.one 1 [1, 2, 4, 10, 12] (.one 2 [2, 4, 10, 12] (.one 3 [3, 4, 10, 12] (.one 4 [4, 10, 12] (.one 5 [5, 6, 7, 9, 10, 12] (.one 6 [6, 7, 9, 10, 12] (.one 7 [7, 9, 10, 12] (.one 8 [8, 9, 10, 12] (.one 9 [9, 10, 12] (.one 10 [10, 12] (.alt 11 (.alt 12 .done .nil) .nil)))))))))))) : OZ) (by kernel_rfl) ?_
      | refine SW.regionD (Checked.mixed Tryd.checked) (by kernel_rfl) ?_
      | refine SW.cond ?_
      | refine SW.skip ?_
      | refine SW.exit ?_
      | refine SW.ret ?_
      | refine Call.of_pure (v1) ?_
      | refine ⟨_, v1, ?_⟩
      | refine Call.of_pure (v2) ?_
      | refine ⟨_, v2, ?_⟩
      | refine Call.of_pure (s1) ?_
      | refine ⟨_, s1, ?_⟩
      | refine Call.of_pure (s3) ?_
      | refine ⟨_, s3, ?_⟩
      | refine Call.of_pure (g1) ?_
      | refine ⟨_, g1, ?_⟩
      | refine Call.of_pure (g2) ?_
      | refine ⟨_, g2, ?_⟩
      | refine Call.of_pure (t1) ?_
      | refine ⟨_, t1, ?_⟩
      | refine Call.of_pure (t2) ?_
      | refine ⟨_, t2, ?_⟩
      | refine Call.of_pure (o) ?_
      | refine ⟨_, o, ?_⟩
      | (refine allF_i fun b hb => ?_; replace hD := And.intro hb hD; clear hb; simp only [fresh_cons, fresh_nil, and_true, ne_eq, neF] at hD)
      | simp only [appK, appOsK]); try simp only [go_sem, ↓reduceIte, reduceCtorEq, Nat.reduceAdd, Nat.reduceMul, Nat.reduceSub, Nat.reduceLT, Nat.reduceLeDiff, Nat.reduceEqDiff, Nat.reduceBEq, Nat.reduceBneDiff, Int.reduceToNat, Int.toNat_natCast, eq_self, decide_true, decide_false, Int.reduceEq, and_true, true_and, if_false_eq, if_true_eq, List.getElem?_cons_zero, List.getElem?_cons_succ, setAll, List.length_cons, List.length_nil, List.length_set, List.getD_cons_zero, List.getD_cons_succ, Nat.le_refl, Int.le_refl, Nat.beq_refl, or_self, true_or, or_true, List.drop_zero, hD, ea, ec, eb, ed, eg, eh, q1, q2, q3, q4])
    | (refine And.intro (by omega) ?_)
    | (refine ifI (fun hc => ?_) (fun hc => ?_) <;> first | (exfalso; omega) | skip)
    | (first | (apply hK; clear hK K) | (clear hK K; apply hK; clear hK K) | (clear hK K; clear hK K; apply hK; clear hK K) | (clear hK K; clear hK K; clear hK K; apply hK; clear hK K) | (clear hK K; clear hK K; clear hK K; clear hK K; apply hK; clear hK K) | (clear hK K; clear hK K; clear hK K; clear hK K; clear hK K; apply hK; clear hK K))
    | (refine And.intro ?_ ?_)
    | fail
  · apply ret_cell (i := 4) (n := 2); exact rfl; (simp only [go_sem, ↓reduceIte, reduceCtorEq, Nat.reduceAdd, Nat.reduceMul, Nat.reduceSub, Nat.reduceLT, Nat.reduceLeDiff, Nat.reduceEqDiff, Nat.reduceBEq, Nat.reduceBneDiff, Int.reduceToNat, Int.toNat_natCast, eq_self, decide_true, decide_false, Int.reduceEq, and_true, true_and, if_false_eq, if_true_eq, List.getElem?_cons_zero, List.getElem?_cons_succ, setAll, List.length_cons, List.length_nil, List.length_set, List.getD_cons_zero, List.getD_cons_succ, Nat.le_refl, Int.le_refl, Nat.beq_refl, or_self, true_or, or_true, List.drop_zero, hD]; try rfl); (first | exact Nat.le_refl _ | decide); simp only [resL_tmp, resL_cellE, resC_ok, resL_nil, tupOf, getN, go_sem, ↓reduceIte, reduceCtorEq, Nat.reduceAdd, Nat.reduceMul, Nat.reduceSub, Nat.reduceLT, Nat.reduceLeDiff, Nat.reduceEqDiff, Nat.reduceBEq, Nat.reduceBneDiff, Int.reduceToNat, Int.toNat_natCast, eq_self, decide_true, decide_false, Int.reduceEq, and_true, true_and, if_false_eq, if_true_eq, List.getElem?_cons_zero, List.getElem?_cons_succ, setAll, List.length_cons, List.length_nil, List.length_set, List.getD_cons_zero, List.getD_cons_succ, Nat.le_refl, Int.le_refl, Nat.beq_refl, or_self, true_or, or_true, List.drop_zero, hD]
    rw [if_pos (by omega)]
  · apply ret_cell (i := 4) (n := 2); exact rfl; (simp only [go_sem, ↓reduceIte, reduceCtorEq, Nat.reduceAdd, Nat.reduceMul, Nat.reduceSub, Nat.reduceLT, Nat.reduceLeDiff, Nat.reduceEqDiff, Nat.reduceBEq, Nat.reduceBneDiff, Int.reduceToNat, Int.toNat_natCast, eq_self, decide_true, decide_false, Int.reduceEq, and_true, true_and, if_false_eq, if_true_eq, List.getElem?_cons_zero, List.getElem?_cons_succ, setAll, List.length_cons, List.length_nil, List.length_set, List.getD_cons_zero, List.getD_cons_succ, Nat.le_refl, Int.le_refl, Nat.beq_refl, or_self, true_or, or_true, List.drop_zero, hD]; try rfl); (first | exact Nat.le_refl _ | decide); simp only [resL_tmp, resL_cellE, resC_ok, resL_nil, tupOf, getN, go_sem, ↓reduceIte, reduceCtorEq, Nat.reduceAdd, Nat.reduceMul, Nat.reduceSub, Nat.reduceLT, Nat.reduceLeDiff, Nat.reduceEqDiff, Nat.reduceBEq, Nat.reduceBneDiff, Int.reduceToNat, Int.toNat_natCast, eq_self, decide_true, decide_false, Int.reduceEq, and_true, true_and, if_false_eq, if_true_eq, List.getElem?_cons_zero, List.getElem?_cons_succ, setAll, List.length_cons, List.length_nil, List.length_set, List.getD_cons_zero, List.getD_cons_succ, Nat.le_refl, Int.le_refl, Nat.beq_refl, or_self, true_or, or_true, List.drop_zero, hD]
    rw [if_pos (by omega)]
  · apply ret_cell (i := 4) (n := 2); exact rfl; (simp only [go_sem, ↓reduceIte, reduceCtorEq, Nat.reduceAdd, Nat.reduceMul, Nat.reduceSub, Nat.reduceLT, Nat.reduceLeDiff, Nat.reduceEqDiff, Nat.reduceBEq, Nat.reduceBneDiff, Int.reduceToNat, Int.toNat_natCast, eq_self, decide_true, decide_false, Int.reduceEq, and_true, true_and, if_false_eq, if_true_eq, List.getElem?_cons_zero, List.getElem?_cons_succ, setAll, List.length_cons, List.length_nil, List.length_set, List.getD_cons_zero, List.getD_cons_succ, Nat.le_refl, Int.le_refl, Nat.beq_refl, or_self, true_or, or_true, List.drop_zero, hD]; try rfl); (first | exact Nat.le_refl _ | decide); simp only [resL_tmp, resL_cellE, resC_ok, resL_nil, tupOf, getN, go_sem, ↓reduceIte, reduceCtorEq, Nat.reduceAdd, Nat.reduceMul, Nat.reduceSub, Nat.reduceLT, Nat.reduceLeDiff, Nat.reduceEqDiff, Nat.reduceBEq, Nat.reduceBneDiff, Int.reduceToNat, Int.toNat_natCast, eq_self, decide_true, decide_false, Int.reduceEq, and_true, true_and, if_false_eq, if_true_eq, List.getElem?_cons_zero, List.getElem?_cons_succ, setAll, List.length_cons, List.length_nil, List.length_set, List.getD_cons_zero, List.getD_cons_succ, Nat.le_refl, Int.le_refl, Nat.beq_refl, or_self, true_or, or_true, List.drop_zero, hD]
    rw [if_neg (by omega)]

theorem ok_false {a b c d : Int} (hv : ¬ (okR a b = true ∧ okR c d = true)) : okR a b = false ∨ (okR a b = true ∧ okR c d = false) := by
  cases h1 : okR a b with
  | false => exact .inl rfl
  | true =>
    cases h2 : okR c d with
    | false => exact .inr ⟨rfl, rfl⟩
    | true => exact absurd ⟨h1, h2⟩ hv

set_option maxRecDepth 20000 in
theorem mul2_p (a b c d : Int) (ha : In64 a) (hb : In64 b) (hc : In64 c) (hd : In64 d) : PCall Tryd.prog 23 [.agg [I64 a, I64 b], .agg [I64 c, I64 d]] (FR (mulP a b c d)) := by
  have v1 := valid_p a b ha.1 ha.2 hb.1 hb.2
  have v2 := valid_p c d hc.1 hc.2 hd.1 hd.2
  by_cases hv : okR a b = true ∧ okR c d = true
  · have hb0 := okR_den hv.1
    have hd0 := okR_den hv.2
    rw [mulP, if_pos hv]
    rw [hv.1] at v1
    rw [hv.2] at v2
    have la := ha.abs
    have lb := hb.abs
    have lc := hc.abs
    have ld := hd.abs
    by_cases ea : a = 0
    · rw [if_pos (.inl ea)]
      subst ea
      refine Call.enter' (N := 87) (rs := [.cell 4 24, .tmp 5]) Tryd.func23 rfl rfl rfl (by decide) rfl ?_; simp only [argT]; have hD : (0 : Nat) = 0 := rfl
      repeat' first
        | (refine SW.seq_k fun K hK => ?_)
        | (refine SW.block ?_)
        | ((first
      | refine SW.region ?_
      | refine SW.regionD (Checked.mixed Tryd.checked) (by kernel_rfl) ?_
      | refine SW.cond ?_
      | refine SW.skip ?_
      | refine SW.exit ?_
      | refine SW.ret ?_
      | refine Call.of_pure (v1) ?_
      | refine ⟨_, v1, ?_⟩
      | refine Call.of_pure (v2) ?_
      | refine ⟨_, v2, ?_⟩
      | (refine allF_i fun b hb => ?_; replace hD := And.intro hb hD; clear hb; simp only [fresh_cons, fresh_nil, and_true, ne_eq, neF] at hD)
      | simp only [appK, appOsK]); try simp only [go_sem, ↓reduceIte, reduceCtorEq, Nat.reduceAdd, Nat.reduceMul, Nat.reduceSub, Nat.reduceLT, Nat.reduceLeDiff, Nat.reduceEqDiff, Nat.reduceBEq, Nat.reduceBneDiff, Int.reduceToNat, Int.toNat_natCast, eq_self, decide_true, decide_false, Int.reduceEq, and_true, true_and, if_false_eq, if_true_eq, List.getElem?_cons_zero, List.getElem?_cons_succ, setAll, List.length_cons, List.length_nil, List.length_set, List.getD_cons_zero, List.getD_cons_succ, Nat.le_refl, Int.le_refl, Nat.beq_refl, or_self, true_or, or_true, List.drop_zero, hD])
        | (refine And.intro (by omega) ?_)
        | (refine ifI (fun hc => ?_) (fun hc => ?_) <;> first | (exfalso; omega) | skip)
        | (first | (apply hK; clear hK K) | (clear hK K; apply hK; clear hK K) | (clear hK K; clear hK K; apply hK; clear hK K) | (clear hK K; clear hK K; clear hK K; apply hK; clear hK K) | (clear hK K; clear hK K; clear hK K; clear hK K; apply hK; clear hK K) | (clear hK K; clear hK K; clear hK K; clear hK K; clear hK K; apply hK; clear hK K))
        | fail
      apply ret_cell (i := 4) (n := 2); exact rfl; (simp only [go_sem, ↓reduceIte, reduceCtorEq, Nat.reduceAdd, Nat.reduceMul, Nat.reduceSub, Nat.reduceLT, Nat.reduceLeDiff, Nat.reduceEqDiff, Nat.reduceBEq, Nat.reduceBneDiff, Int.reduceToNat, Int.toNat_natCast, eq_self, decide_true, decide_false, Int.reduceEq, and_true, true_and, if_false_eq, if_true_eq, List.getElem?_cons_zero, List.getElem?_cons_succ, setAll, List.length_cons, List.length_nil, List.length_set, List.getD_cons_zero, List.getD_cons_succ, Nat.le_refl, Int.le_refl, Nat.beq_refl, or_self, true_or, or_true, List.drop_zero, hD]; try rfl); (first | exact Nat.le_refl _ | decide); simp only [resL_tmp, resL_cellE, resC_ok, resL_nil, tupOf, getN, go_sem, ↓reduceIte, reduceCtorEq, Nat.reduceAdd, Nat.reduceMul, Nat.reduceSub, Nat.reduceLT, Nat.reduceLeDiff, Nat.reduceEqDiff, Nat.reduceBEq, Nat.reduceBneDiff, Int.reduceToNat, Int.toNat_natCast, eq_self, decide_true, decide_false, Int.reduceEq, and_true, true_and, if_false_eq, if_true_eq, List.getElem?_cons_zero, List.getElem?_cons_succ, setAll, List.length_cons, List.length_nil, List.length_set, List.getD_cons_zero, List.getD_cons_succ, Nat.le_refl, Int.le_refl, Nat.beq_refl, or_self, true_or, or_true, List.drop_zero, hD]
    · by_cases ec : c = 0
      · rw [if_pos (.inr ec)]
        subst ec
        refine Call.enter' (N := 87) (rs := [.cell 4 24, .tmp 5]) Tryd.func23 rfl rfl rfl (by decide) rfl ?_; simp only [argT]; have hD : (0 : Nat) = 0 := rfl
        repeat' first
          | (refine SW.seq_k fun K hK => ?_)
          | (refine SW.block ?_)
          | ((first
      | refine SW.region ?_
      | refine SW.regionD (Checked.mixed Tryd.checked) (by kernel_rfl) ?_
      | refine SW.cond ?_
      | refine SW.skip ?_
      | refine SW.exit ?_
      | refine SW.ret ?_
      | refine Call.of_pure (v1) ?_
      | refine ⟨_, v1, ?_⟩
      | refine Call.of_pure (v2) ?_
      | refine ⟨_, v2, ?_⟩
      | (refine allF_i fun b hb => ?_; replace hD := And.intro hb hD; clear hb; simp only [fresh_cons, fresh_nil, and_true, ne_eq, neF] at hD)
      | simp only [appK, appOsK]); try simp only [go_sem, ↓reduceIte, reduceCtorEq, Nat.reduceAdd, Nat.reduceMul, Nat.reduceSub, Nat.reduceLT, Nat.reduceLeDiff, Nat.reduceEqDiff, Nat.reduceBEq, Nat.reduceBneDiff, Int.reduceToNat, Int.toNat_natCast, eq_self, decide_true, decide_false, Int.reduceEq, and_true, true_and, if_false_eq, if_true_eq, List.getElem?_cons_zero, List.getElem?_cons_succ, setAll, List.length_cons, List.length_nil, List.length_set, List.getD_cons_zero, List.getD_cons_succ, Nat.le_refl, Int.le_refl, Nat.beq_refl, or_self, true_or, or_true, List.drop_zero, hD, ea])
          | (refine And.intro (by omega) ?_)
          | (refine ifI (fun hc => ?_) (fun hc => ?_) <;> first | (exfalso; omega) | skip)
          | (first | (apply hK; clear hK K) | (clear hK K; apply hK; clear hK K) | (clear hK K; clear hK K; apply hK; clear hK K) | (clear hK K; clear hK K; clear hK K; apply hK; clear hK K) | (clear hK K; clear hK K; clear hK K; clear hK K; apply hK; clear hK K) | (clear hK K; clear hK K; clear hK K; clear hK K; clear hK K; apply hK; clear hK K))
          | fail
        apply ret_cell (i := 4) (n := 2); exact rfl; (simp only [go_sem, ↓reduceIte, reduceCtorEq, Nat.reduceAdd, Nat.reduceMul, Nat.reduceSub, Nat.reduceLT, Nat.reduceLeDiff, Nat.reduceEqDiff, Nat.reduceBEq, Nat.reduceBneDiff, Int.reduceToNat, Int.toNat_natCast, eq_self, decide_true, decide_false, Int.reduceEq, and_true, true_and, if_false_eq, if_true_eq, List.getElem?_cons_zero, List.getElem?_cons_succ, setAll, List.length_cons, List.length_nil, List.length_set, List.getD_cons_zero, List.getD_cons_succ, Nat.le_refl, Int.le_refl, Nat.beq_refl, or_self, true_or, or_true, List.drop_zero, hD]; try rfl); (first | exact Nat.le_refl _ | decide); simp only [resL_tmp, resL_cellE, resC_ok, resL_nil, tupOf, getN, go_sem, ↓reduceIte, reduceCtorEq, Nat.reduceAdd, Nat.reduceMul, Nat.reduceSub, Nat.reduceLT, Nat.reduceLeDiff, Nat.reduceEqDiff, Nat.reduceBEq, Nat.reduceBneDiff, Int.reduceToNat, Int.toNat_natCast, eq_self, decide_true, decide_false, Int.reduceEq, and_true, true_and, if_false_eq, if_true_eq, List.getElem?_cons_zero, List.getElem?_cons_succ, setAll, List.length_cons, List.length_nil, List.length_set, List.getD_cons_zero, List.getD_cons_succ, Nat.le_refl, Int.le_refl, Nat.beq_refl, or_self, true_or, or_true, List.drop_zero, hD]
      · rw [if_neg (by omega)]
        have hg : 0 < Nat.gcd a.natAbs d.natAbs := Nat.gcd_pos_of_pos_right _ (by omega)
        have hh : 0 < Nat.gcd c.natAbs b.natAbs := Nat.gcd_pos_of_pos_right _ (by omega)
        have g1 := gcd_p a.natAbs d.natAbs (by omega) (by omega)
        have g2 := gcd_p c.natAbs b.natAbs (by omega) (by omega)
        simp only
        generalize Nat.gcd a.natAbs d.natAbs = g at *
        generalize Nat.gcd c.natAbs b.natAbs = h at *
        have l1 := div_le63 (g := g) la
        have l2 := div_le63 (g := h) lb
        have l3 := div_le63 (g := h) lc
        have l4 := div_le63 (g := g) ld
        have key := mul_p1 a b c d g h _ _ v1 v2 (abs_p a ha.1 ha.2) (abs_p c hc.1 hc.2) ea ec (absw_pos (by omega) hb.2) (absw_pos (by omega) hd.2) g1 g2 (by omega) (by omega)
          (quo_u64 _ _ (by omega)) (quo_u64 _ _ (by omega)) (quo_u64 _ _ (by omega)) (quo_u64 _ _ (by omega)) (times_p _ _ (by omega) (by omega)) (times_p _ _ (by omega) (by omega))
        generalize a.natAbs / g * (c.natAbs / h) = X at *
        generalize b.natAbs / h * (d.natAbs / g) = Y at *
        by_cases ho : 18446744073709551616 ≤ X ∨ 18446744073709551616 ≤ Y
        · rw [if_pos ho]
          have h := key _ (of_f _ _ _ (Nat.mod_lt _ (by omega)) (Nat.mod_lt _ (by omega)))
          rwa [if_pos ho] at h
        · rw [if_neg ho]
          have o := of_f (!(decide (a < 0) == decide (c < 0))) X Y (by omega) (by omega)
          have h := key _ (by rw [Nat.mod_eq_of_lt (a := X) (by omega), Nat.mod_eq_of_lt (a := Y) (by omega)]; exact o)
          rwa [if_neg ho] at h
  · rw [mulP, if_neg hv]
    rcases ok_false hv with h1 | ⟨h1, h2⟩
    · rw [h1] at v1
      refine Call.enter' (N := 87) (rs := [.cell 4 24, .tmp 5]) Tryd.func23 rfl rfl rfl (by decide) rfl ?_; simp only [argT]; have hD : (0 : Nat) = 0 := rfl
      repeat' first
        | (refine SW.seq_k fun K hK => ?_)
        | (refine SW.block ?_)
        | ((first
      | refine SW.region ?_
      | refine SW.regionD (Checked.mixed Tryd.checked) (by kernel_rfl) ?_
      | refine SW.cond ?_
      | refine SW.skip ?_
      | refine SW.exit ?_
      | refine SW.ret ?_
      | refine Call.of_pure (v1) ?_
      | refine ⟨_, v1, ?_⟩
      | (refine allF_i fun b hb => ?_; replace hD := And.intro hb hD; clear hb; simp only [fresh_cons, fresh_nil, and_true, ne_eq, neF] at hD)
      | simp only [appK, appOsK]); try simp only [go_sem, ↓reduceIte, reduceCtorEq, Nat.reduceAdd, Nat.reduceMul, Nat.reduceSub, Nat.reduceLT, Nat.reduceLeDiff, Nat.reduceEqDiff, Nat.reduceBEq, Nat.reduceBneDiff, Int.reduceToNat, Int.toNat_natCast, eq_self, decide_true, decide_false, Int.reduceEq, and_true, true_and, if_false_eq, if_true_eq, List.getElem?_cons_zero, List.getElem?_cons_succ, setAll, List.length_cons, List.length_nil, List.length_set, List.getD_cons_zero, List.getD_cons_succ, Nat.le_refl, Int.le_refl, Nat.beq_refl, or_self, true_or, or_true, List.drop_zero, hD])
        | (refine And.intro (by omega) ?_)
        | (refine ifI (fun hc => ?_) (fun hc => ?_) <;> first | (exfalso; omega) | skip)
        | (first | (apply hK; clear hK K) | (clear hK K; apply hK; clear hK K) | (clear hK K; clear hK K; apply hK; clear hK K) | (clear hK K; clear hK K; clear hK K; apply hK; clear hK K) | (clear hK K; clear hK K; clear hK K; clear hK K; apply hK; clear hK K) | (clear hK K; clear hK K; clear hK K; clear hK K; clear hK K; apply hK; clear hK K))
        | fail
      apply ret_cell (i := 4) (n := 2); exact rfl; (simp only [go_sem, ↓reduceIte, reduceCtorEq, Nat.reduceAdd, Nat.reduceMul, Nat.reduceSub, Nat.reduceLT, Nat.reduceLeDiff, Nat.reduceEqDiff, Nat.reduceBEq, Nat.reduceBneDiff, Int.reduceToNat, Int.toNat_natCast, eq_self, decide_true, decide_false, Int.reduceEq, and_true, true_and, if_false_eq, if_true_eq, List.getElem?_cons_zero, List.getElem?_cons_succ, setAll, List.length_cons, List.length_nil, List.length_set, List.getD_cons_zero, List.getD_cons_succ, Nat.le_refl, Int.le_refl, Nat.beq_refl, or_self, true_or, or_true, List.drop_zero, hD]; try rfl); (first | exact Nat.le_refl _ | decide); simp only [resL_tmp, resL_cellE, resC_ok, resL_nil, tupOf, getN, go_sem, ↓reduceIte, reduceCtorEq, Nat.reduceAdd, Nat.reduceMul, Nat.reduceSub, Nat.reduceLT, Nat.reduceLeDiff, Nat.reduceEqDiff, Nat.reduceBEq, Nat.reduceBneDiff, Int.reduceToNat, Int.toNat_natCast, eq_self, decide_true, decide_false, Int.reduceEq, and_true, true_and, if_false_eq, if_true_eq, List.getElem?_cons_zero, List.getElem?_cons_succ, setAll, List.length_cons, List.length_nil, List.length_set, List.getD_cons_zero, List.getD_cons_succ, Nat.le_refl, Int.le_refl, Nat.beq_refl, or_self, true_or, or_true, List.drop_zero, hD]
    · rw [h1] at v1
      rw [h2] at v2
      refine Call.enter' (N := 87) (rs := [.cell 4 24, .tmp 5]) Tryd.func23 rfl rfl rfl (by decide) rfl ?_; simp only [argT]; have hD : (0 : Nat) = 0 := rfl
      repeat' first
        | (refine SW.seq_k fun K hK => ?_)
        | (refine SW.block ?_)
        | ((first
      | refine SW.region ?_
      | refine SW.regionD (Checked.mixed Tryd.checked) (by kernel_rfl) ?_
      | refine SW.cond ?_
      | refine SW.skip ?_
      | refine SW.exit ?_
      | refine SW.ret ?_
      | refine Call.of_pure (v1) ?_
      | refine ⟨_, v1, ?_⟩
      | refine Call.of_pure (v2) ?_
      | refine ⟨_, v2, ?_⟩
      | (refine allF_i fun b hb => ?_; replace hD := And.intro hb hD; clear hb; simp only [fresh_cons, fresh_nil, and_true, ne_eq, neF] at hD)
      | simp only [appK, appOsK]); try simp only [go_sem, ↓reduceIte, reduceCtorEq, Nat.reduceAdd, Nat.reduceMul, Nat.reduceSub, Nat.reduceLT, Nat.reduceLeDiff, Nat.reduceEqDiff, Nat.reduceBEq, Nat.reduceBneDiff, Int.reduceToNat, Int.toNat_natCast, eq_self, decide_true, decide_false, Int.reduceEq, and_true, true_and, if_false_eq, if_true_eq, List.getElem?_cons_zero, List.getElem?_cons_succ, setAll, List.length_cons, List.length_nil, List.length_set, List.getD_cons_zero, List.getD_cons_succ, Nat.le_refl, Int.le_refl, Nat.beq_refl, or_self, true_or, or_true, List.drop_zero, hD])
        | (refine And.intro (by omega) ?_)
        | (refine ifI (fun hc => ?_) (fun hc => ?_) <;> first | (exfalso; omega) | skip)
        | (first | (apply hK; clear hK K) | (clear hK K; apply hK; clear hK K) | (clear hK K; clear hK K; apply hK; clear hK K) | (clear hK K; clear hK K; clear hK K; apply hK; clear hK K) | (clear hK K; clear hK K; clear hK K; clear hK K; apply hK; clear hK K) | (clear hK K; clear hK K; clear hK K; clear hK K; clear hK K; apply hK; clear hK K))
        | fail
      apply ret_cell (i := 4) (n := 2); exact rfl; (simp only [go_sem, ↓reduceIte, reduceCtorEq, Nat.reduceAdd, Nat.reduceMul, Nat.reduceSub, Nat.reduceLT, Nat.reduceLeDiff, Nat.reduceEqDiff, Nat.reduceBEq, Nat.reduceBneDiff, Int.reduceToNat, Int.toNat_natCast, eq_self, decide_true, decide_false, Int.reduceEq, and_true, true_and, if_false_eq, if_true_eq, List.getElem?_cons_zero, List.getElem?_cons_succ, setAll, List.length_cons, List.length_nil, List.length_set, List.getD_cons_zero, List.getD_cons_succ, Nat.le_refl, Int.le_refl, Nat.beq_refl, or_self, true_or, or_true, List.drop_zero, hD]; try rfl); (first | exact Nat.le_refl _ | decide); simp only [resL_tmp, resL_cellE, resC_ok, resL_nil, tupOf, getN, go_sem, ↓reduceIte, reduceCtorEq, Nat.reduceAdd, Nat.reduceMul, Nat.reduceSub, Nat.reduceLT, Nat.reduceLeDiff, Nat.reduceEqDiff, Nat.reduceBEq, Nat.reduceBneDiff, Int.reduceToNat, Int.toNat_natCast, eq_self, decide_true, decide_false, Int.reduceEq, and_true, true_and, if_false_eq, if_true_eq, List.getElem?_cons_zero, List.getElem?_cons_succ, setAll, List.length_cons, List.length_nil, List.length_set, List.getD_cons_zero, List.getD_cons_succ, Nat.le_refl, Int.le_refl, Nat.beq_refl, or_self, true_or, or_true, List.drop_zero, hD]
end Go.Proofs.YtcbgkcjlechdnaaDoor
