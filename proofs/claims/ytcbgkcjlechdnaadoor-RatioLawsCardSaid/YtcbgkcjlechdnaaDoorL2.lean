/- The law of sums and products of small fractions: true at every input. -/
import Derived.Test.YtcbgkcjlechdnaaDoorL1
import Derived.Test.YtcbgkcjlechdnaaDoorP2
set_option linter.unusedSimpArgs false
set_option linter.unusedVariables false
set_option linter.unusedSectionVars false
namespace Go.Ab
open Go
abbrev I16 (n : Int) : SV := .sc (.int .i16 n)
end Go.Ab
namespace Go.Proofs.YtcbgkcjlechdnaaDoor
open Go Go.Ab
variable [Gl] [Tabs]

set_option maxHeartbeats 4000000 in
set_option maxRecDepth 20000 in
theorem law_laws1 (n0 n1 n2 n3 n4 n5 a1 a2 b1 b2 c1 c2 d1 d2 e1 e2 x1 x2 p1 p2 q1 q2 r1 r2 : Int) (aw : PCall Tryd.prog 12 [] (SB true))
    (w0 : IntKind.i64.wrap n0 = n0) (w1 : IntKind.i64.wrap n1 = n1) (w2 : IntKind.i64.wrap n2 = n2) (w3 : IntKind.i64.wrap n3 = n3) (w4 : IntKind.i64.wrap n4 = n4) (w5 : IntKind.i64.wrap n5 = n5)
    (o1 : PCall Tryd.prog 25 [I64 n0, I64 n1] (.agg [I64 a1, I64 a2])) (o2 : PCall Tryd.prog 25 [I64 n2, I64 n3] (.agg [I64 b1, I64 b2])) (o3 : PCall Tryd.prog 25 [I64 n4, I64 n5] (.agg [I64 c1, I64 c2]))
    (h1 : PCall Tryd.prog 17 [.agg [I64 a1, I64 a2], .agg [I64 b1, I64 b2]] (FR (d1, d2, 0))) (h2 : PCall Tryd.prog 17 [.agg [I64 b1, I64 b2], .agg [I64 c1, I64 c2]] (FR (e1, e2, 0)))
    (h3 : PCall Tryd.prog 17 [.agg [I64 d1, I64 d2], .agg [I64 c1, I64 c2]] (FR (x1, x2, 0))) (h4 : PCall Tryd.prog 17 [.agg [I64 a1, I64 a2], .agg [I64 e1, I64 e2]] (FR (x1, x2, 0)))
    (h5 : PCall Tryd.prog 23 [.agg [I64 a1, I64 a2], .agg [I64 e1, I64 e2]] (FR (p1, p2, 0))) (h6 : PCall Tryd.prog 23 [.agg [I64 a1, I64 a2], .agg [I64 b1, I64 b2]] (FR (q1, q2, 0)))
    (h7 : PCall Tryd.prog 23 [.agg [I64 a1, I64 a2], .agg [I64 c1, I64 c2]] (FR (r1, r2, 0))) (h8 : PCall Tryd.prog 17 [.agg [I64 q1, I64 q2], .agg [I64 r1, I64 r2]] (FR (p1, p2, 0))) :
    PCall Tryd.prog 9 [.agg [I16 n0, I16 n1, I16 n2, I16 n3, I16 n4, I16 n5]] (SB true) := by
  refine Call.enter' (N := 131) (rs := [.tmp 2]) Tryd.func9 rfl rfl rfl (by decide) rfl ?_; simp only [argT]; have hD : (0 : Nat) = 0 := rfl
  repeat' first
    | (refine SW.seq_k fun K hK => ?_)
    | (refine SW.block ?_)
    | ((first
      | refine SW.region ?_
      | refine SW.regionZ (id := 1) (Checked.mixed Tryd.checked) ((.one 0 [0, 1, 2, 6, 13, 20, 24, 25, 26] (.one 1 [1, 2, 6, 13, 20, 24, 25, 26] (.one 2 [2, 6, 13, 20, 24, 25, 26] (.one 3 [3, 4, 5, 6, 13, 20, 24, 25, 26] (.one 4 [4, 5, 6, 13, 20, 24, 25, 26] (.one 5 [5, 6, 13, 20, 24, 25, 26] (.one 6 [6, 13, 20, 24, 25, 26] (.one 7 [7, 8, 9, 13, 20, 24, 25, 26] (.one 8 [8, 9, 13, 20, 24, 25, 26] (.one 9 [9, 13, 20, 24, 25, 26] (.one 10 [10, 11, 12, 13, 20, 24, 25, 26] (.one 11 [11, 12, 13, 20, 24, 25, 26] (.one 12 [12, 13, 20, 24, 25, 26] (.one 13 [13, 20, 24, 25, 26] (.one 14 [14, 15, 16, 20, 24, 25, 26] (.one 15 [15, 16, 20, 24, 25, 26] (.one 16 [16, 20, 24, 25, 26] (.one 17 [17, 18, 19, 20, 24, 25, 26] (.one 18 [18, 19, 20, 24, 25, 26] (.one 19 [19, 20, 24, 25, 26] (.one 20 [20, 24, 25, 26] (.alt 21 (.alt 22 (.alt 23 (.alt 24 (.alt 25 (.alt 26 .done .nil) .nil) .nil) .nil) (.alt 23 (.alt 22 (.alt 24 (.alt 25 (.alt 26 .done .nil) .nil) .nil) .nil) .nil)) (.alt 22 (.alt 21 (.alt 23 (.alt 24 (.alt 25 (.alt 26 .done .nil) .nil) .nil) .nil) (.alt 23 (.alt 21 (.alt 24 (.alt 25 (.alt 26 .done .nil) .nil) .nil) .nil) .nil)) (.alt 23 (.alt 21 (.alt 22 (.alt 24 (.alt 25 (.alt 26 .done .nil) .nil) .nil) .nil) (.alt 22 (.alt 21 (.alt 24 (.alt 25 (.alt 26 .done .nil) .nil) .nil) .nil) .nil)) .nil)))))))))))))))))))))))) : OZ) (by kernel_rfl) ?_
      | refine SW.regionD (Checked.mixed Tryd.checked) (by kernel_rfl) ?_
      | refine SW.cond ?_
      | refine SW.skip ?_
      | refine SW.exit ?_
      | refine SW.ret ?_
      | refine Call.of_pure (aw) ?_
      | refine ⟨_, aw, ?_⟩
      | refine Call.of_pure (o1) ?_
      | refine ⟨_, o1, ?_⟩
      | refine Call.of_pure (o2) ?_
      | refine ⟨_, o2, ?_⟩
      | refine Call.of_pure (o3) ?_
      | refine ⟨_, o3, ?_⟩
      | refine Call.of_pure (h1) ?_
      | refine ⟨_, h1, ?_⟩
      | refine Call.of_pure (h2) ?_
      | refine ⟨_, h2, ?_⟩
      | refine Call.of_pure (h3) ?_
      | refine ⟨_, h3, ?_⟩
      | refine Call.of_pure (h4) ?_
      | refine ⟨_, h4, ?_⟩
      | refine Call.of_pure (h5) ?_
      | refine ⟨_, h5, ?_⟩
      | refine Call.of_pure (h6) ?_
      | refine ⟨_, h6, ?_⟩
      | refine Call.of_pure (h7) ?_
      | refine ⟨_, h7, ?_⟩
      | refine Call.of_pure (h8) ?_
      | refine ⟨_, h8, ?_⟩
      | (refine allF_i fun b hb => ?_; replace hD := And.intro hb hD; clear hb; simp only [fresh_cons, fresh_nil, and_true, ne_eq, neF] at hD)
      | simp only [appK, appOsK]); try simp only [go_sem, ↓reduceIte, reduceCtorEq, Nat.reduceAdd, Nat.reduceMul, Nat.reduceSub, Nat.reduceLT, Nat.reduceLeDiff, Nat.reduceEqDiff, Nat.reduceBEq, Nat.reduceBneDiff, Int.reduceToNat, Int.toNat_natCast, eq_self, decide_true, decide_false, Int.reduceEq, and_true, true_and, if_false_eq, if_true_eq, List.getElem?_cons_zero, List.getElem?_cons_succ, setAll, List.length_cons, List.length_nil, List.length_set, List.getD_cons_zero, List.getD_cons_succ, Nat.le_refl, Int.le_refl, Nat.beq_refl, or_self, true_or, or_true, List.drop_zero, hD, w0, w1, w2, w3, w4, w5])
    | (refine And.intro (by omega) ?_)
    | (refine ifI (fun hc => ?_) (fun hc => ?_) <;> first | (exfalso; omega) | skip)
    | (first | (apply hK; clear hK K) | (clear hK K; apply hK; clear hK K) | (clear hK K; clear hK K; apply hK; clear hK K) | (clear hK K; clear hK K; clear hK K; apply hK; clear hK K) | (clear hK K; clear hK K; clear hK K; clear hK K; apply hK; clear hK K) | (clear hK K; clear hK K; clear hK K; clear hK K; clear hK K; apply hK; clear hK K))
    | (refine And.intro ?_ ?_)
    | fail
  all_goals (refine ret_pure ?_; simp only [resL_tmp, resL_nil, tupOf, go_sem, ↓reduceIte, reduceCtorEq, Nat.reduceAdd, Nat.reduceMul, Nat.reduceSub, Nat.reduceLT, Nat.reduceLeDiff, Nat.reduceEqDiff, Nat.reduceBEq, Nat.reduceBneDiff, Int.reduceToNat, Int.toNat_natCast, eq_self, decide_true, decide_false, Int.reduceEq, and_true, true_and, if_false_eq, if_true_eq, List.getElem?_cons_zero, List.getElem?_cons_succ, setAll, List.length_cons, List.length_nil, List.length_set, List.getD_cons_zero, List.getD_cons_succ, Nat.le_refl, Int.le_refl, Nat.beq_refl, or_self, true_or, or_true, List.drop_zero, hD])

set_option maxRecDepth 20000 in
theorem law_laws (n0 n1 n2 n3 n4 n5 : Int) (k0 : fits .i16 n0) (k1 : fits .i16 n1) (k2 : fits .i16 n2) (k3 : fits .i16 n3) (k4 : fits .i16 n4) (k5 : fits .i16 n5) : PCall Tryd.prog 9 [.agg [I16 n0, I16 n1, I16 n2, I16 n3, I16 n4, I16 n5]] (SB true) := by
  have aw := awake_t
  have f16 : ∀ n : Int, fits .i16 n → -32768 ≤ n ∧ n ≤ 32767 := fun n h => by
    unfold fits Lit.wf at h
    simp only [Bool.and_eq_true, decide_eq_true_eq] at h
    exact ⟨h.1, h.2⟩
  obtain ⟨l0, u0⟩ := f16 n0 k0
  obtain ⟨l1, u1⟩ := f16 n1 k1
  obtain ⟨l2, u2⟩ := f16 n2 k2
  obtain ⟨l3, u3⟩ := f16 n3 k3
  obtain ⟨l4, u4⟩ := f16 n4 k4
  obtain ⟨l5, u5⟩ := f16 n5 k5
  have o1 := of_r n0 n1 (by omega) (by omega) (by omega) (by omega)
  have o2 := of_r n2 n3 (by omega) (by omega) (by omega) (by omega)
  have o3 := of_r n4 n5 (by omega) (by omega) (by omega) (by omega)
  obtain ⟨va, la1, la2⟩ := of_small (n := n0) (d := n1) (by omega) (by omega)
  obtain ⟨vb, lb1, lb2⟩ := of_small (n := n2) (d := n3) (by omega) (by omega)
  obtain ⟨vc, lc1, lc2⟩ := of_small (n := n4) (d := n5) (by omega) (by omega)
  generalize ofQ n0 n1 = a at *
  generalize ofQ n2 n3 = b at *
  generalize ofQ n4 n5 = c at *
  obtain ⟨d1, d2, e1, e2, x1, x2, p1, p2, q1, q2, r1, r2, g1, g2, g3, g4, g5, g6, g7, g8, b1, b2, b3, b4, b5, b6, b7, b8⟩ := laws_val va vb vc la1 la2 lb1 lb2 lc1 lc2
  have sm : ∀ x : Int, x.natAbs ≤ 2147483648 → In64 x := fun x h => by unfold In64; omega
  have ia1 := sm a.1 (by omega)
  have ia2 := sm a.2 (by omega)
  have ib1 := sm b.1 (by omega)
  have ib2 := sm b.2 (by omega)
  have ic1 := sm c.1 (by omega)
  have ic2 := sm c.2 (by omega)
  have h1 := add_p a.1 a.2 b.1 b.2 ia1 ia2 ib1 ib2
  have h2 := add_p b.1 b.2 c.1 c.2 ib1 ib2 ic1 ic2
  have h3 := add_p d1 d2 c.1 c.2 (sm _ b1) (sm _ b2) ic1 ic2
  have h4 := add_p a.1 a.2 e1 e2 ia1 ia2 (sm _ b3) (sm _ b4)
  have h5 := mul2_p a.1 a.2 e1 e2 ia1 ia2 (sm _ b3) (sm _ b4)
  have h6 := mul2_p a.1 a.2 b.1 b.2 ia1 ia2 ib1 ib2
  have h7 := mul2_p a.1 a.2 c.1 c.2 ia1 ia2 ic1 ic2
  have h8 := add_p q1 q2 r1 r2 (sm _ b5) (sm _ b6) (sm _ b7) (sm _ b8)
  rw [add_law, g1] at h1
  rw [add_law, g2] at h2
  rw [add_law, g3] at h3
  rw [add_law, g4] at h4
  rw [mul_law, g5] at h5
  rw [mul_law, g6] at h6
  rw [mul_law, g7] at h7
  rw [add_law, g8] at h8
  exact law_laws1 n0 n1 n2 n3 n4 n5 a.1 a.2 b.1 b.2 c.1 c.2 d1 d2 e1 e2 x1 x2 p1 p2 q1 q2 r1 r2 aw (i64_wrap (by omega) (by omega)) (i64_wrap (by omega) (by omega)) (i64_wrap (by omega) (by omega)) (i64_wrap (by omega) (by omega)) (i64_wrap (by omega) (by omega)) (i64_wrap (by omega) (by omega)) o1 o2 o3 h1 h2 h3 h4 h5 h6 h7 h8
end Go.Proofs.YtcbgkcjlechdnaaDoor
