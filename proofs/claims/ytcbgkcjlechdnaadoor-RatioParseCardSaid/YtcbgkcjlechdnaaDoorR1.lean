/- Contracts: absolute values, the greatest common divisor, fractions out of a sign and two numbers. -/
import Derived.Test.YtcbgkcjlechdnaaDoorB1
set_option linter.unusedSimpArgs false
set_option linter.unusedVariables false
set_option linter.unusedSectionVars false
namespace Go.Ab
open Go
theorem u64w (n : Int) : IntKind.u64.wrap n = n % 18446744073709551616 := by
  have e : (2 : Int) ^ 64 = 18446744073709551616 := by decide
  show (if (false && decide (n % (2 : Int) ^ 64 ≥ (2 : Int) ^ 63)) = true then n % (2 : Int) ^ 64 - (2 : Int) ^ 64 else n % (2 : Int) ^ 64) = n % 18446744073709551616
  rw [e]; simp
theorem u64n {n : Int} (h0 : 0 ≤ n) (h1 : n < 18446744073709551616) : IntKind.u64.wrap n = n := by rw [u64w]; omega
theorem absw_neg {n : Int} (h0 : -9223372036854775808 ≤ n) (h1 : n < 0) : IntKind.u64.wrap (0 - IntKind.u64.wrap n) = (n.natAbs : Int) := by rw [u64w, u64w]; omega
theorem absw_pos {n : Int} (h0 : 0 ≤ n) (h1 : n ≤ 9223372036854775807) : IntKind.u64.wrap n = (n.natAbs : Int) := by rw [u64w]; omega
end Go.Ab
namespace Go.Proofs.YtcbgkcjlechdnaaDoor
open Go Go.Ab
variable [Gl]

theorem abs_p (n : Int) (h0 : -9223372036854775808 ≤ n) (h1 : n ≤ 9223372036854775807) : PCall Tryd.prog 30 [I64 n] (U64 n.natAbs) := by
  refine Call.enter' (N := 10) (rs := [.tmp 2]) Tryd.func30 rfl rfl rfl (by decide) rfl ?_; simp only [argT]; have hD : (0 : Nat) = 0 := rfl
  repeat' first
    | (refine SW.seq_k fun K hK => ?_)
    | (refine SW.block ?_)
    | ((first
      | refine SW.region ?_
      | refine SW.regionD (Checked.mixed Tryd.checked) (by kernel_rfl) ?_
      | refine SW.cond ?_
      | refine SW.skip ?_
      | refine SW.exit ?_
      | refine SW.ret ?_
      | (refine allF_i fun b hb => ?_; replace hD := And.intro hb hD; clear hb; simp only [fresh_cons, fresh_nil, and_true, ne_eq, neF] at hD)
      | simp only [appK, appOsK]); try simp only [go_sem, ↓reduceIte, reduceCtorEq, Nat.reduceAdd, Nat.reduceMul, Nat.reduceSub, Nat.reduceLT, Nat.reduceLeDiff, Nat.reduceEqDiff, Nat.reduceBEq, Nat.reduceBneDiff, Int.reduceToNat, Int.toNat_natCast, eq_self, decide_true, decide_false, Int.reduceEq, and_true, true_and, if_false_eq, if_true_eq, List.getElem?_cons_zero, List.getElem?_cons_succ, setAll, List.length_cons, List.length_nil, List.length_set, List.getD_cons_zero, List.getD_cons_succ, Nat.le_refl, Int.le_refl, Nat.beq_refl, or_self, true_or, or_true, List.drop_zero, hD])
    | (refine And.intro (by omega) ?_)
    | (refine ifI (fun hc => ?_) (fun hc => ?_) <;> first | (exfalso; omega) | skip)
    | (first | (apply hK; clear hK K) | (clear hK K; apply hK; clear hK K) | (clear hK K; clear hK K; apply hK; clear hK K) | (clear hK K; clear hK K; clear hK K; apply hK; clear hK K) | (clear hK K; clear hK K; clear hK K; clear hK K; apply hK; clear hK K) | (clear hK K; clear hK K; clear hK K; clear hK K; clear hK K; apply hK; clear hK K))
    | fail
  · refine ret_pure ?_; simp only [resL_tmp, resL_nil, tupOf, go_sem, ↓reduceIte, reduceCtorEq, Nat.reduceAdd, Nat.reduceMul, Nat.reduceSub, Nat.reduceLT, Nat.reduceLeDiff, Nat.reduceEqDiff, Nat.reduceBEq, Nat.reduceBneDiff, Int.reduceToNat, Int.toNat_natCast, eq_self, decide_true, decide_false, Int.reduceEq, and_true, true_and, if_false_eq, if_true_eq, List.getElem?_cons_zero, List.getElem?_cons_succ, setAll, List.length_cons, List.length_nil, List.length_set, List.getD_cons_zero, List.getD_cons_succ, Nat.le_refl, Int.le_refl, Nat.beq_refl, or_self, true_or, or_true, List.drop_zero, hD]
    rw [absw_neg h0 (by omega)]
  · refine ret_pure ?_; simp only [resL_tmp, resL_nil, tupOf, go_sem, ↓reduceIte, reduceCtorEq, Nat.reduceAdd, Nat.reduceMul, Nat.reduceSub, Nat.reduceLT, Nat.reduceLeDiff, Nat.reduceEqDiff, Nat.reduceBEq, Nat.reduceBneDiff, Int.reduceToNat, Int.toNat_natCast, eq_self, decide_true, decide_false, Int.reduceEq, and_true, true_and, if_false_eq, if_true_eq, List.getElem?_cons_zero, List.getElem?_cons_succ, setAll, List.length_cons, List.length_nil, List.length_set, List.getD_cons_zero, List.getD_cons_succ, Nat.le_refl, Int.le_refl, Nat.beq_refl, or_self, true_or, or_true, List.drop_zero, hD]
    rw [absw_pos (by omega) h1]

theorem gcd_p (a b : Nat) (ha : a < 18446744073709551616) (hb : b < 18446744073709551616) : PCall Tryd.prog 31 [U64 a, U64 b] (U64 (Nat.gcd a b)) := by
  refine Call.enter' (N := 12) (rs := [.tmp 4]) Tryd.func31 rfl rfl rfl (by decide) rfl ?_; simp only [argT]; have hD : (0 : Nat) = 0 := rfl
  repeat' first
    | (refine SW.seq_k fun K hK => ?_)
    | (refine SW.block ?_)
    | ((first
      | refine SW.region ?_
      | refine SW.regionD (Checked.mixed Tryd.checked) (by kernel_rfl) ?_
      | refine SW.cond ?_
      | refine SW.skip ?_
      | refine SW.exit ?_
      | refine SW.ret ?_
      | (refine allF_i fun b hb => ?_; replace hD := And.intro hb hD; clear hb; simp only [fresh_cons, fresh_nil, and_true, ne_eq, neF] at hD)
      | simp only [appK, appOsK]); try simp only [go_sem, ↓reduceIte, reduceCtorEq, Nat.reduceAdd, Nat.reduceMul, Nat.reduceSub, Nat.reduceLT, Nat.reduceLeDiff, Nat.reduceEqDiff, Nat.reduceBEq, Nat.reduceBneDiff, Int.reduceToNat, Int.toNat_natCast, eq_self, decide_true, decide_false, Int.reduceEq, and_true, true_and, if_false_eq, if_true_eq, List.getElem?_cons_zero, List.getElem?_cons_succ, setAll, List.length_cons, List.length_nil, List.length_set, List.getD_cons_zero, List.getD_cons_succ, Nat.le_refl, Int.le_refl, Nat.beq_refl, or_self, true_or, or_true, List.drop_zero, hD])
    | (refine And.intro (by omega) ?_)
    | (refine ifI (fun hc => ?_) (fun hc => ?_) <;> first | (exfalso; omega) | skip)
    | (first | (apply hK; clear hK K) | (clear hK K; apply hK; clear hK K) | (clear hK K; clear hK K; apply hK; clear hK K) | (clear hK K; clear hK K; clear hK K; apply hK; clear hK K) | (clear hK K; clear hK K; clear hK K; clear hK K; apply hK; clear hK K) | (clear hK K; clear hK K; clear hK K; clear hK K; clear hK K; apply hK; clear hK K))
    | fail
  obtain ⟨I, hI⟩ : ∃ I : Nat → St → Prop, ∀ n S, I n S ↔ (∃ (x : Nat), x < 18446744073709551616 ∧ n < 18446744073709551616 ∧ Nat.gcd x n = Nat.gcd a b ∧ S = ⟨[(0, U64 x), (1, U64 n)], []⟩) := ⟨fun n S => _, fun _ _ => Iff.rfl⟩
  refine SW.loop' I b ((hI _ _).2 ⟨a, ha, hb, rfl, rfl⟩) (by repeat' (first | exact rfl | exact trivial | exact int_eq (by omega) | exact int_eq (by (rw [i64_wrap] <;> omega)) | constructor)) ?_
  intro n S hIn
  obtain ⟨x, hx, hn, hg, rfl⟩ := (hI _ _).1 hIn
  clear hIn
  repeat' first
    | (refine SW.seq_k fun K hK => ?_)
    | (refine SW.block ?_)
    | ((first
      | refine SW.region ?_
      | refine SW.regionD (Checked.mixed Tryd.checked) (by kernel_rfl) ?_
      | refine SW.cond ?_
      | refine SW.skip ?_
      | refine SW.exit ?_
      | refine SW.ret ?_
      | (refine allF_i fun b hb => ?_; replace hD := And.intro hb hD; clear hb; simp only [fresh_cons, fresh_nil, and_true, ne_eq, neF] at hD)
      | simp only [appK, appOsK]); try simp only [go_sem, ↓reduceIte, reduceCtorEq, Nat.reduceAdd, Nat.reduceMul, Nat.reduceSub, Nat.reduceLT, Nat.reduceLeDiff, Nat.reduceEqDiff, Nat.reduceBEq, Nat.reduceBneDiff, Int.reduceToNat, Int.toNat_natCast, eq_self, decide_true, decide_false, Int.reduceEq, and_true, true_and, if_false_eq, if_true_eq, List.getElem?_cons_zero, List.getElem?_cons_succ, setAll, List.length_cons, List.length_nil, List.length_set, List.getD_cons_zero, List.getD_cons_succ, Nat.le_refl, Int.le_refl, Nat.beq_refl, or_self, true_or, or_true, List.drop_zero, hD])
    | (refine And.intro (by omega) ?_)
    | (first | (apply hK; clear hK K) | (clear hK K; apply hK; clear hK K) | (clear hK K; clear hK K; apply hK; clear hK K) | (clear hK K; clear hK K; clear hK K; apply hK; clear hK K) | (clear hK K; clear hK K; clear hK K; clear hK K; apply hK; clear hK K) | (clear hK K; clear hK K; clear hK K; clear hK K; clear hK K; apply hK; clear hK K))
    | fail
  refine ifI (fun hc => ?_) (fun hc => ?_)
  · have e : Int.tmod (x : Int) (n : Int) = ((x % n : Nat) : Int) := (Int.ofNat_tmod x n).symm
    repeat' first
      | (refine SW.seq_k fun K hK => ?_)
      | (refine SW.block ?_)
      | ((first
      | refine SW.region ?_
      | refine SW.regionD (Checked.mixed Tryd.checked) (by kernel_rfl) ?_
      | refine SW.cond ?_
      | refine SW.skip ?_
      | refine SW.exit ?_
      | refine SW.ret ?_
      | (refine allF_i fun b hb => ?_; replace hD := And.intro hb hD; clear hb; simp only [fresh_cons, fresh_nil, and_true, ne_eq, neF] at hD)
      | simp only [appK, appOsK]); try simp only [go_sem, ↓reduceIte, reduceCtorEq, Nat.reduceAdd, Nat.reduceMul, Nat.reduceSub, Nat.reduceLT, Nat.reduceLeDiff, Nat.reduceEqDiff, Nat.reduceBEq, Nat.reduceBneDiff, Int.reduceToNat, Int.toNat_natCast, eq_self, decide_true, decide_false, Int.reduceEq, and_true, true_and, if_false_eq, if_true_eq, List.getElem?_cons_zero, List.getElem?_cons_succ, setAll, List.length_cons, List.length_nil, List.length_set, List.getD_cons_zero, List.getD_cons_succ, Nat.le_refl, Int.le_refl, Nat.beq_refl, or_self, true_or, or_true, List.drop_zero, hD, e])
      | (refine And.intro (by omega) ?_)
      | (refine ifI (fun hc => ?_) (fun hc => ?_) <;> first | (exfalso; omega) | skip)
      | (first | (apply hK; clear hK K) | (clear hK K; apply hK; clear hK K) | (clear hK K; clear hK K; apply hK; clear hK K) | (clear hK K; clear hK K; clear hK K; apply hK; clear hK K) | (clear hK K; clear hK K; clear hK K; clear hK K; apply hK; clear hK K) | (clear hK K; clear hK K; clear hK K; clear hK K; clear hK K; apply hK; clear hK K))
      | fail
    refine Rnd.sub (x % n) (Nat.mod_lt _ (by omega)) ((hI _ _).2 ⟨n, hn, Nat.lt_of_lt_of_le (Nat.mod_lt _ (by omega)) (by omega), ?_, rfl⟩) (by repeat' (first | exact rfl | exact trivial | exact int_eq (by omega) | exact int_eq (by (rw [i64_wrap] <;> omega)) | constructor))
    rw [← hg, Nat.gcd_comm, ← Nat.gcd_rec, Nat.gcd_comm]
  · repeat' first
      | (refine SW.seq_k fun K hK => ?_)
      | (refine SW.block ?_)
      | ((first
      | refine SW.region ?_
      | refine SW.regionD (Checked.mixed Tryd.checked) (by kernel_rfl) ?_
      | refine SW.cond ?_
      | refine SW.skip ?_
      | refine SW.exit ?_
      | refine SW.ret ?_
      | (refine allF_i fun b hb => ?_; replace hD := And.intro hb hD; clear hb; simp only [fresh_cons, fresh_nil, and_true, ne_eq, neF] at hD)
      | simp only [appK, appOsK]); try simp only [go_sem, ↓reduceIte, reduceCtorEq, Nat.reduceAdd, Nat.reduceMul, Nat.reduceSub, Nat.reduceLT, Nat.reduceLeDiff, Nat.reduceEqDiff, Nat.reduceBEq, Nat.reduceBneDiff, Int.reduceToNat, Int.toNat_natCast, eq_self, decide_true, decide_false, Int.reduceEq, and_true, true_and, if_false_eq, if_true_eq, List.getElem?_cons_zero, List.getElem?_cons_succ, setAll, List.length_cons, List.length_nil, List.length_set, List.getD_cons_zero, List.getD_cons_succ, Nat.le_refl, Int.le_refl, Nat.beq_refl, or_self, true_or, or_true, List.drop_zero, hD])
      | (refine And.intro (by omega) ?_)
      | (refine ifI (fun hc => ?_) (fun hc => ?_) <;> first | (exfalso; omega) | skip)
      | (first | (apply hK; clear hK K) | (clear hK K; apply hK; clear hK K) | (clear hK K; clear hK K; apply hK; clear hK K) | (clear hK K; clear hK K; clear hK K; apply hK; clear hK K) | (clear hK K; clear hK K; clear hK K; clear hK K; apply hK; clear hK K) | (clear hK K; clear hK K; clear hK K; clear hK K; clear hK K; apply hK; clear hK K))
      | fail
    refine ret_pure ?_; simp only [resL_tmp, resL_nil, tupOf, go_sem, ↓reduceIte, reduceCtorEq, Nat.reduceAdd, Nat.reduceMul, Nat.reduceSub, Nat.reduceLT, Nat.reduceLeDiff, Nat.reduceEqDiff, Nat.reduceBEq, Nat.reduceBneDiff, Int.reduceToNat, Int.toNat_natCast, eq_self, decide_true, decide_false, Int.reduceEq, and_true, true_and, if_false_eq, if_true_eq, List.getElem?_cons_zero, List.getElem?_cons_succ, setAll, List.length_cons, List.length_nil, List.length_set, List.getD_cons_zero, List.getD_cons_succ, Nat.le_refl, Int.le_refl, Nat.beq_refl, or_self, true_or, or_true, List.drop_zero, hD]
    obtain rfl : n = 0 := by omega
    rw [← hg, Nat.gcd_zero_right]

set_option maxRecDepth 20000 in
theorem of_p (neg : Bool) (n d : Nat) (hn : n < 18446744073709551616) (hd : d < 18446744073709551616) : PCall Tryd.prog 32 [SB neg, U64 n, U64 d]
    (if n ≤ 9223372036854775807 ∧ d ≤ 9223372036854775807 then .tup [.agg [I64 (if neg then -(n : Int) else n), I64 d], I64 0] else .tup [.agg [I64 0, I64 0], I64 7]) := by
  refine Call.enter' (N := 27) (rs := [.cell 6 24, .tmp 7]) Tryd.func32 rfl rfl rfl (by decide) rfl ?_; simp only [argT]; have hD : (0 : Nat) = 0 := rfl
  repeat' first
    | (refine SW.seq_k fun K hK => ?_)
    | (refine SW.block ?_)
    | ((first
      | refine SW.region ?_
      | refine SW.regionD (Checked.mixed Tryd.checked) (by kernel_rfl) ?_
      | refine SW.cond ?_
      | refine SW.skip ?_
      | refine SW.exit ?_
      | refine SW.ret ?_
      | (refine allF_i fun b hb => ?_; replace hD := And.intro hb hD; clear hb; simp only [fresh_cons, fresh_nil, and_true, ne_eq, neF] at hD)
      | simp only [appK, appOsK]); try simp only [go_sem, ↓reduceIte, reduceCtorEq, Nat.reduceAdd, Nat.reduceMul, Nat.reduceSub, Nat.reduceLT, Nat.reduceLeDiff, Nat.reduceEqDiff, Nat.reduceBEq, Nat.reduceBneDiff, Int.reduceToNat, Int.toNat_natCast, eq_self, decide_true, decide_false, Int.reduceEq, and_true, true_and, if_false_eq, if_true_eq, List.getElem?_cons_zero, List.getElem?_cons_succ, setAll, List.length_cons, List.length_nil, List.length_set, List.getD_cons_zero, List.getD_cons_succ, Nat.le_refl, Int.le_refl, Nat.beq_refl, or_self, true_or, or_true, List.drop_zero, hD])
    | (refine And.intro (by omega) ?_)
    | (refine ifI (fun hc => ?_) (fun hc => ?_) <;> first | (exfalso; omega) | skip)
    | (first | (apply hK; clear hK K) | (clear hK K; apply hK; clear hK K) | (clear hK K; clear hK K; apply hK; clear hK K) | (clear hK K; clear hK K; clear hK K; apply hK; clear hK K) | (clear hK K; clear hK K; clear hK K; clear hK K; apply hK; clear hK K) | (clear hK K; clear hK K; clear hK K; clear hK K; clear hK K; apply hK; clear hK K))
    | fail
  · apply ret_cell (i := 6) (n := 2); exact rfl; (simp only [go_sem, ↓reduceIte, reduceCtorEq, Nat.reduceAdd, Nat.reduceMul, Nat.reduceSub, Nat.reduceLT, Nat.reduceLeDiff, Nat.reduceEqDiff, Nat.reduceBEq, Nat.reduceBneDiff, Int.reduceToNat, Int.toNat_natCast, eq_self, decide_true, decide_false, Int.reduceEq, and_true, true_and, if_false_eq, if_true_eq, List.getElem?_cons_zero, List.getElem?_cons_succ, setAll, List.length_cons, List.length_nil, List.length_set, List.getD_cons_zero, List.getD_cons_succ, Nat.le_refl, Int.le_refl, Nat.beq_refl, or_self, true_or, or_true, List.drop_zero, hD]; try rfl); (first | exact Nat.le_refl _ | decide); simp only [resL_tmp, resL_cellE, resC_ok, resL_nil, tupOf, getN, go_sem, ↓reduceIte, reduceCtorEq, Nat.reduceAdd, Nat.reduceMul, Nat.reduceSub, Nat.reduceLT, Nat.reduceLeDiff, Nat.reduceEqDiff, Nat.reduceBEq, Nat.reduceBneDiff, Int.reduceToNat, Int.toNat_natCast, eq_self, decide_true, decide_false, Int.reduceEq, and_true, true_and, if_false_eq, if_true_eq, List.getElem?_cons_zero, List.getElem?_cons_succ, setAll, List.length_cons, List.length_nil, List.length_set, List.getD_cons_zero, List.getD_cons_succ, Nat.le_refl, Int.le_refl, Nat.beq_refl, or_self, true_or, or_true, List.drop_zero, hD]
    rw [if_neg (by omega)]
  · apply ret_cell (i := 6) (n := 2); exact rfl; (simp only [go_sem, ↓reduceIte, reduceCtorEq, Nat.reduceAdd, Nat.reduceMul, Nat.reduceSub, Nat.reduceLT, Nat.reduceLeDiff, Nat.reduceEqDiff, Nat.reduceBEq, Nat.reduceBneDiff, Int.reduceToNat, Int.toNat_natCast, eq_self, decide_true, decide_false, Int.reduceEq, and_true, true_and, if_false_eq, if_true_eq, List.getElem?_cons_zero, List.getElem?_cons_succ, setAll, List.length_cons, List.length_nil, List.length_set, List.getD_cons_zero, List.getD_cons_succ, Nat.le_refl, Int.le_refl, Nat.beq_refl, or_self, true_or, or_true, List.drop_zero, hD]; try rfl); (first | exact Nat.le_refl _ | decide); simp only [resL_tmp, resL_cellE, resC_ok, resL_nil, tupOf, getN, go_sem, ↓reduceIte, reduceCtorEq, Nat.reduceAdd, Nat.reduceMul, Nat.reduceSub, Nat.reduceLT, Nat.reduceLeDiff, Nat.reduceEqDiff, Nat.reduceBEq, Nat.reduceBneDiff, Int.reduceToNat, Int.toNat_natCast, eq_self, decide_true, decide_false, Int.reduceEq, and_true, true_and, if_false_eq, if_true_eq, List.getElem?_cons_zero, List.getElem?_cons_succ, setAll, List.length_cons, List.length_nil, List.length_set, List.getD_cons_zero, List.getD_cons_succ, Nat.le_refl, Int.le_refl, Nat.beq_refl, or_self, true_or, or_true, List.drop_zero, hD]
    rw [if_neg (by omega)]
  · apply ret_cell (i := 6) (n := 2); exact rfl; (simp only [go_sem, ↓reduceIte, reduceCtorEq, Nat.reduceAdd, Nat.reduceMul, Nat.reduceSub, Nat.reduceLT, Nat.reduceLeDiff, Nat.reduceEqDiff, Nat.reduceBEq, Nat.reduceBneDiff, Int.reduceToNat, Int.toNat_natCast, eq_self, decide_true, decide_false, Int.reduceEq, and_true, true_and, if_false_eq, if_true_eq, List.getElem?_cons_zero, List.getElem?_cons_succ, setAll, List.length_cons, List.length_nil, List.length_set, List.getD_cons_zero, List.getD_cons_succ, Nat.le_refl, Int.le_refl, Nat.beq_refl, or_self, true_or, or_true, List.drop_zero, hD]; try rfl); (first | exact Nat.le_refl _ | decide); simp only [resL_tmp, resL_cellE, resC_ok, resL_nil, tupOf, getN, go_sem, ↓reduceIte, reduceCtorEq, Nat.reduceAdd, Nat.reduceMul, Nat.reduceSub, Nat.reduceLT, Nat.reduceLeDiff, Nat.reduceEqDiff, Nat.reduceBEq, Nat.reduceBneDiff, Int.reduceToNat, Int.toNat_natCast, eq_self, decide_true, decide_false, Int.reduceEq, and_true, true_and, if_false_eq, if_true_eq, List.getElem?_cons_zero, List.getElem?_cons_succ, setAll, List.length_cons, List.length_nil, List.length_set, List.getD_cons_zero, List.getD_cons_succ, Nat.le_refl, Int.le_refl, Nat.beq_refl, or_self, true_or, or_true, List.drop_zero, hD]
    rw [if_pos (by omega), if_pos (by assumption)]
    have e : IntKind.i64.wrap (n : Int) = n := i64_wrap (by omega) (by omega)
    rw [e, i64_wrap (n := (d : Int)) (by omega) (by omega), i64_wrap (by omega) (by omega), Int.zero_sub]
  · apply ret_cell (i := 6) (n := 2); exact rfl; (simp only [go_sem, ↓reduceIte, reduceCtorEq, Nat.reduceAdd, Nat.reduceMul, Nat.reduceSub, Nat.reduceLT, Nat.reduceLeDiff, Nat.reduceEqDiff, Nat.reduceBEq, Nat.reduceBneDiff, Int.reduceToNat, Int.toNat_natCast, eq_self, decide_true, decide_false, Int.reduceEq, and_true, true_and, if_false_eq, if_true_eq, List.getElem?_cons_zero, List.getElem?_cons_succ, setAll, List.length_cons, List.length_nil, List.length_set, List.getD_cons_zero, List.getD_cons_succ, Nat.le_refl, Int.le_refl, Nat.beq_refl, or_self, true_or, or_true, List.drop_zero, hD]; try rfl); (first | exact Nat.le_refl _ | decide); simp only [resL_tmp, resL_cellE, resC_ok, resL_nil, tupOf, getN, go_sem, ↓reduceIte, reduceCtorEq, Nat.reduceAdd, Nat.reduceMul, Nat.reduceSub, Nat.reduceLT, Nat.reduceLeDiff, Nat.reduceEqDiff, Nat.reduceBEq, Nat.reduceBneDiff, Int.reduceToNat, Int.toNat_natCast, eq_self, decide_true, decide_false, Int.reduceEq, and_true, true_and, if_false_eq, if_true_eq, List.getElem?_cons_zero, List.getElem?_cons_succ, setAll, List.length_cons, List.length_nil, List.length_set, List.getD_cons_zero, List.getD_cons_succ, Nat.le_refl, Int.le_refl, Nat.beq_refl, or_self, true_or, or_true, List.drop_zero, hD]
    rw [if_pos (by omega), if_neg (by assumption), i64_wrap (by omega) (by omega), i64_wrap (by omega) (by omega)]
end Go.Proofs.YtcbgkcjlechdnaaDoor
