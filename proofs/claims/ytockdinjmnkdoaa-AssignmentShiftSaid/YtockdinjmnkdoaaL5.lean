/- AssignmentCheck returns true. -/
import Derived.Test.YtockdinjmnkdoaaK3
import Derived.Test.YtockdinjmnkdoaaAw0
set_option linter.unusedSimpArgs false
set_option linter.unusedVariables false
namespace Go.Proofs.Ytockdinjmnkdoaa
open Go Go.Ab Go.Ab.A40

theorem law5 (m : List (List Int)) (cols u v : List Int) (hm : m.length ≤ 9223372036854775807) (hr : ∀ i, (m.getD i []).length ≤ 9223372036854775807) (hl : cols.length ≤ 9223372036854775807) (hu : u.length ≤ 9223372036854775807) (hv : v.length ≤ 9223372036854775807) :
    PCall Try.prog 5 [mat .i64 m, ints .i64 cols, .agg [ints .i64 u, ints .i64 v]] (SB true) := by
  refine Call.enter' (N := 47) (rs := [.tmp 6]) Try.func5 rfl rfl rfl (by decide) rfl ?_; simp only [argT]
  repeat' first
    | (refine SW.seq_k fun K hK => ?_)
    | (refine SW.block ?_)
    | (refine SW.region ?_; simp only [go_sem, ↓reduceIte, reduceCtorEq, Nat.reduceAdd, Nat.reduceMul, Nat.reduceSub, Nat.reduceLT, Nat.reduceLeDiff, Nat.reduceEqDiff, Nat.reduceBEq, Nat.reduceBneDiff, Int.reduceToNat, Int.toNat_natCast])
    | (refine SW.regionD (Checked.mixed Try.checked) (by kernel_rfl) ?_; simp only [go_sem, ↓reduceIte, reduceCtorEq, Nat.reduceAdd, Nat.reduceMul, Nat.reduceSub, Nat.reduceLT, Nat.reduceLeDiff, Nat.reduceEqDiff, Nat.reduceBEq, Nat.reduceBneDiff, Int.reduceToNat, Int.toNat_natCast])
    | (refine SW.cond ?_; simp only [go_sem, ↓reduceIte, reduceCtorEq, Nat.reduceAdd, Nat.reduceMul, Nat.reduceSub, Nat.reduceLT, Nat.reduceLeDiff, Nat.reduceEqDiff, Nat.reduceBEq, Nat.reduceBneDiff, Int.reduceToNat, Int.toNat_natCast])
    | (refine SW.skip ?_; try simp only [go_sem, ↓reduceIte, reduceCtorEq, Nat.reduceAdd, Nat.reduceMul, Nat.reduceSub, Nat.reduceLT, Nat.reduceLeDiff, Nat.reduceEqDiff, Nat.reduceBEq, Nat.reduceBneDiff, Int.reduceToNat, Int.toNat_natCast])
    | (refine SW.exit ?_; try simp only [go_sem, ↓reduceIte, reduceCtorEq, Nat.reduceAdd, Nat.reduceMul, Nat.reduceSub, Nat.reduceLT, Nat.reduceLeDiff, Nat.reduceEqDiff, Nat.reduceBEq, Nat.reduceBneDiff, Int.reduceToNat, Int.toNat_natCast])
    | (refine SW.ret ?_; try simp only [go_sem, ↓reduceIte, reduceCtorEq, Nat.reduceAdd, Nat.reduceMul, Nat.reduceSub, Nat.reduceLT, Nat.reduceLeDiff, Nat.reduceEqDiff, Nat.reduceBEq, Nat.reduceBneDiff, Int.reduceToNat, Int.toNat_natCast])
    | (refine And.intro (by omega) ?_)
    | (refine ifI (fun hc => ?_) (fun hc => ?_) <;> first | (exfalso; omega) | skip)
    | (first | (apply hK; clear hK K) | (clear hK K; apply hK; clear hK K) | (clear hK K; clear hK K; apply hK; clear hK K) | (clear hK K; clear hK K; clear hK K; apply hK; clear hK K) | (clear hK K; clear hK K; clear hK K; clear hK K; apply hK; clear hK K) | (clear hK K; clear hK K; clear hK K; clear hK K; clear hK K; apply hK; clear hK K))
    | (refine Call.of_pure (awake) ?_; try simp only [go_sem, ↓reduceIte, reduceCtorEq, Nat.reduceAdd, Nat.reduceMul, Nat.reduceSub, Nat.reduceLT, Nat.reduceLeDiff, Nat.reduceEqDiff, Nat.reduceBEq, Nat.reduceBneDiff, Int.reduceToNat, Int.toNat_natCast])
    | (refine ⟨_, awake, ?_⟩; try simp only [go_sem, ↓reduceIte, reduceCtorEq, Nat.reduceAdd, Nat.reduceMul, Nat.reduceSub, Nat.reduceLT, Nat.reduceLeDiff, Nat.reduceEqDiff, Nat.reduceBEq, Nat.reduceBneDiff, Int.reduceToNat, Int.toNat_natCast])
    | (refine Call.of_pure (check_asg m cols u v hm hr hl) ?_; try simp only [go_sem, ↓reduceIte, reduceCtorEq, Nat.reduceAdd, Nat.reduceMul, Nat.reduceSub, Nat.reduceLT, Nat.reduceLeDiff, Nat.reduceEqDiff, Nat.reduceBEq, Nat.reduceBneDiff, Int.reduceToNat, Int.toNat_natCast])
    | (refine ⟨_, check_asg m cols u v hm hr hl, ?_⟩; try simp only [go_sem, ↓reduceIte, reduceCtorEq, Nat.reduceAdd, Nat.reduceMul, Nat.reduceSub, Nat.reduceLT, Nat.reduceLeDiff, Nat.reduceEqDiff, Nat.reduceBEq, Nat.reduceBneDiff, Int.reduceToNat, Int.toNat_natCast])
    | (refine Call.of_pure (check_ref m cols u v hm hr hl hu hv) ?_; try simp only [go_sem, ↓reduceIte, reduceCtorEq, Nat.reduceAdd, Nat.reduceMul, Nat.reduceSub, Nat.reduceLT, Nat.reduceLeDiff, Nat.reduceEqDiff, Nat.reduceBEq, Nat.reduceBneDiff, Int.reduceToNat, Int.toNat_natCast])
    | (refine ⟨_, check_ref m cols u v hm hr hl hu hv, ?_⟩; try simp only [go_sem, ↓reduceIte, reduceCtorEq, Nat.reduceAdd, Nat.reduceMul, Nat.reduceSub, Nat.reduceLT, Nat.reduceLeDiff, Nat.reduceEqDiff, Nat.reduceBEq, Nat.reduceBneDiff, Int.reduceToNat, Int.toNat_natCast])
    | fail
  intro b hb
  first | (apply hK; clear hK K) | (clear hK K; apply hK; clear hK K) | (clear hK K; clear hK K; apply hK; clear hK K) | (clear hK K; clear hK K; clear hK K; apply hK; clear hK K) | (clear hK K; clear hK K; clear hK K; clear hK K; apply hK; clear hK K) | (clear hK K; clear hK K; clear hK K; clear hK K; clear hK K; apply hK; clear hK K)
  refine SW.le (St.le_freezeP (i := 5) (b := b) (off := 0) (n := 2) rfl (by rw [find_cons, if_pos rfl]) (by simp [Blk.len])) ?_
  have e2 : getN (.svs [ints .i64 u, ints .i64 v]) 0 2 = [ints .i64 u, ints .i64 v] := rfl
  rw [del_head, e2]
  repeat' first
    | (refine SW.seq_k fun K hK => ?_)
    | (refine SW.block ?_)
    | (refine SW.region ?_; simp only [go_sem, ↓reduceIte, reduceCtorEq, Nat.reduceAdd, Nat.reduceMul, Nat.reduceSub, Nat.reduceLT, Nat.reduceLeDiff, Nat.reduceEqDiff, Nat.reduceBEq, Nat.reduceBneDiff, Int.reduceToNat, Int.toNat_natCast, List.drop_zero, List.take_succ_cons, List.take_zero, List.drop_succ_cons, List.getD_cons_zero, List.getD_cons_succ, List.length_cons, List.length_nil])
    | (refine SW.regionD (Checked.mixed Try.checked) (by kernel_rfl) ?_; simp only [go_sem, ↓reduceIte, reduceCtorEq, Nat.reduceAdd, Nat.reduceMul, Nat.reduceSub, Nat.reduceLT, Nat.reduceLeDiff, Nat.reduceEqDiff, Nat.reduceBEq, Nat.reduceBneDiff, Int.reduceToNat, Int.toNat_natCast, List.drop_zero, List.take_succ_cons, List.take_zero, List.drop_succ_cons, List.getD_cons_zero, List.getD_cons_succ, List.length_cons, List.length_nil])
    | (refine SW.cond ?_; simp only [go_sem, ↓reduceIte, reduceCtorEq, Nat.reduceAdd, Nat.reduceMul, Nat.reduceSub, Nat.reduceLT, Nat.reduceLeDiff, Nat.reduceEqDiff, Nat.reduceBEq, Nat.reduceBneDiff, Int.reduceToNat, Int.toNat_natCast, List.drop_zero, List.take_succ_cons, List.take_zero, List.drop_succ_cons, List.getD_cons_zero, List.getD_cons_succ, List.length_cons, List.length_nil])
    | (refine SW.skip ?_; try simp only [go_sem, ↓reduceIte, reduceCtorEq, Nat.reduceAdd, Nat.reduceMul, Nat.reduceSub, Nat.reduceLT, Nat.reduceLeDiff, Nat.reduceEqDiff, Nat.reduceBEq, Nat.reduceBneDiff, Int.reduceToNat, Int.toNat_natCast, List.drop_zero, List.take_succ_cons, List.take_zero, List.drop_succ_cons, List.getD_cons_zero, List.getD_cons_succ, List.length_cons, List.length_nil])
    | (refine SW.exit ?_; try simp only [go_sem, ↓reduceIte, reduceCtorEq, Nat.reduceAdd, Nat.reduceMul, Nat.reduceSub, Nat.reduceLT, Nat.reduceLeDiff, Nat.reduceEqDiff, Nat.reduceBEq, Nat.reduceBneDiff, Int.reduceToNat, Int.toNat_natCast, List.drop_zero, List.take_succ_cons, List.take_zero, List.drop_succ_cons, List.getD_cons_zero, List.getD_cons_succ, List.length_cons, List.length_nil])
    | (refine SW.ret ?_; try simp only [go_sem, ↓reduceIte, reduceCtorEq, Nat.reduceAdd, Nat.reduceMul, Nat.reduceSub, Nat.reduceLT, Nat.reduceLeDiff, Nat.reduceEqDiff, Nat.reduceBEq, Nat.reduceBneDiff, Int.reduceToNat, Int.toNat_natCast, List.drop_zero, List.take_succ_cons, List.take_zero, List.drop_succ_cons, List.getD_cons_zero, List.getD_cons_succ, List.length_cons, List.length_nil])
    | (refine And.intro (by omega) ?_)
    | (refine ifI (fun hc => ?_) (fun hc => ?_) <;> first | (exfalso; omega) | skip)
    | (first | (apply hK; clear hK K) | (clear hK K; apply hK; clear hK K) | (clear hK K; clear hK K; apply hK; clear hK K) | (clear hK K; clear hK K; clear hK K; apply hK; clear hK K) | (clear hK K; clear hK K; clear hK K; clear hK K; apply hK; clear hK K) | (clear hK K; clear hK K; clear hK K; clear hK K; clear hK K; apply hK; clear hK K))
    | (refine Call.of_pure (awake) ?_; try simp only [go_sem, ↓reduceIte, reduceCtorEq, Nat.reduceAdd, Nat.reduceMul, Nat.reduceSub, Nat.reduceLT, Nat.reduceLeDiff, Nat.reduceEqDiff, Nat.reduceBEq, Nat.reduceBneDiff, Int.reduceToNat, Int.toNat_natCast, List.drop_zero, List.take_succ_cons, List.take_zero, List.drop_succ_cons, List.getD_cons_zero, List.getD_cons_succ, List.length_cons, List.length_nil])
    | (refine ⟨_, awake, ?_⟩; try simp only [go_sem, ↓reduceIte, reduceCtorEq, Nat.reduceAdd, Nat.reduceMul, Nat.reduceSub, Nat.reduceLT, Nat.reduceLeDiff, Nat.reduceEqDiff, Nat.reduceBEq, Nat.reduceBneDiff, Int.reduceToNat, Int.toNat_natCast, List.drop_zero, List.take_succ_cons, List.take_zero, List.drop_succ_cons, List.getD_cons_zero, List.getD_cons_succ, List.length_cons, List.length_nil])
    | (refine Call.of_pure (check_asg m cols u v hm hr hl) ?_; try simp only [go_sem, ↓reduceIte, reduceCtorEq, Nat.reduceAdd, Nat.reduceMul, Nat.reduceSub, Nat.reduceLT, Nat.reduceLeDiff, Nat.reduceEqDiff, Nat.reduceBEq, Nat.reduceBneDiff, Int.reduceToNat, Int.toNat_natCast, List.drop_zero, List.take_succ_cons, List.take_zero, List.drop_succ_cons, List.getD_cons_zero, List.getD_cons_succ, List.length_cons, List.length_nil])
    | (refine ⟨_, check_asg m cols u v hm hr hl, ?_⟩; try simp only [go_sem, ↓reduceIte, reduceCtorEq, Nat.reduceAdd, Nat.reduceMul, Nat.reduceSub, Nat.reduceLT, Nat.reduceLeDiff, Nat.reduceEqDiff, Nat.reduceBEq, Nat.reduceBneDiff, Int.reduceToNat, Int.toNat_natCast, List.drop_zero, List.take_succ_cons, List.take_zero, List.drop_succ_cons, List.getD_cons_zero, List.getD_cons_succ, List.length_cons, List.length_nil])
    | (refine Call.of_pure (check_ref m cols u v hm hr hl hu hv) ?_; try simp only [go_sem, ↓reduceIte, reduceCtorEq, Nat.reduceAdd, Nat.reduceMul, Nat.reduceSub, Nat.reduceLT, Nat.reduceLeDiff, Nat.reduceEqDiff, Nat.reduceBEq, Nat.reduceBneDiff, Int.reduceToNat, Int.toNat_natCast, List.drop_zero, List.take_succ_cons, List.take_zero, List.drop_succ_cons, List.getD_cons_zero, List.getD_cons_succ, List.length_cons, List.length_nil])
    | (refine ⟨_, check_ref m cols u v hm hr hl hu hv, ?_⟩; try simp only [go_sem, ↓reduceIte, reduceCtorEq, Nat.reduceAdd, Nat.reduceMul, Nat.reduceSub, Nat.reduceLT, Nat.reduceLeDiff, Nat.reduceEqDiff, Nat.reduceBEq, Nat.reduceBneDiff, Int.reduceToNat, Int.toNat_natCast, List.drop_zero, List.take_succ_cons, List.take_zero, List.drop_succ_cons, List.getD_cons_zero, List.getD_cons_succ, List.length_cons, List.length_nil])
    | fail
  all_goals
    refine ret_pure ?_; simp only [resL_tmp, resL_nil, tupOf, go_sem, ↓reduceIte, reduceCtorEq, Nat.reduceAdd, Nat.reduceMul, Nat.reduceSub, Nat.reduceLT, Nat.reduceLeDiff, Nat.reduceEqDiff, Nat.reduceBEq, Nat.reduceBneDiff, Int.reduceToNat, Int.toNat_natCast]
    try simp
end Go.Proofs.Ytockdinjmnkdoaa
