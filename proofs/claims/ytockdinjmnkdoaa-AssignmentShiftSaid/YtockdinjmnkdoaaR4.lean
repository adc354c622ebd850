/- Contracts of the reference's functions: the search over all assignments. -/
import Derived.Test.YtockdinjmnkdoaaR3
import Derived.Test.YtockdinjmnkdoaaAz
set_option linter.unusedSimpArgs false
set_option linter.unusedVariables false
namespace Go.Proofs.Ytockdinjmnkdoaa
open Go Go.Ab Go.Ab.A40

theorem negated_ref (m : List (List Int)) (hv : VMat m) : PCall Try.prog 38 [mat .i64 m] (mat .i64 (neg m)) := by
  obtain ⟨hm, hr⟩ := rows_big hv
  have hrows := hv.rows
  have hw60 := hv.w60
  refine Call.enter' (N := 38) (rs := [.tmp 2]) Try.func38 rfl rfl rfl (by decide) rfl ?_; simp only [argT]
  repeat' first
    | (refine SW.seq_k fun K hK => ?_)
    | (refine SW.block ?_)
    | (refine SW.region ?_; simp only [go_sem, ↓reduceIte, reduceCtorEq, Nat.reduceAdd, Nat.reduceMul, Nat.reduceSub, Nat.reduceLT, Nat.reduceLeDiff, Nat.reduceEqDiff, Nat.reduceBEq, Nat.reduceBneDiff, Int.reduceToNat, Int.toNat_natCast])
    | (refine SW.regionD (Checked.mixed Try.checked) (by kernel_rfl) ?_; simp only [go_sem, ↓reduceIte, reduceCtorEq, Nat.reduceAdd, Nat.reduceMul, Nat.reduceSub, Nat.reduceLT, Nat.reduceLeDiff, Nat.reduceEqDiff, Nat.reduceBEq, Nat.reduceBneDiff, Int.reduceToNat, Int.toNat_natCast])
    | (refine SW.cond ?_; simp only [go_sem, ↓reduceIte, reduceCtorEq, Nat.reduceAdd, Nat.reduceMul, Nat.reduceSub, Nat.reduceLT, Nat.reduceLeDiff, Nat.reduceEqDiff, Nat.reduceBEq, Nat.reduceBneDiff, Int.reduceToNat, Int.toNat_natCast])
    | (refine SW.skip ?_; try simp only [go_sem, ↓reduceIte, reduceCtorEq, Nat.reduceAdd, Nat.reduceMul, Nat.reduceSub, Nat.reduceLT, Nat.reduceLeDiff, Nat.reduceEqDiff, Nat.reduceBEq, Nat.reduceBneDiff, Int.reduceToNat, Int.toNat_natCast])
    | (refine SW.exit ?_; try simp only [go_sem, ↓reduceIte, reduceCtorEq, Nat.reduceAdd, Nat.reduceMul, Nat.reduceSub, Nat.reduceLT, Nat.reduceLeDiff, Nat.reduceEqDiff, Nat.reduceBEq, Nat.reduceBneDiff, Int.reduceToNat, Int.toNat_natCast])
    | (refine SW.ret ?_; try simp only [go_sem, ↓reduceIte, reduceCtorEq, Nat.reduceAdd, Nat.reduceMul, Nat.reduceSub, Nat.reduceLT, Nat.reduceLeDiff, Nat.reduceEqDiff, Nat.reduceBEq, Nat.reduceBneDiff, Int.reduceToNat, Int.toNat_natCast])
    | (refine And.intro (by omega) ?_)
    | (refine ifI (fun hc => ?_) (fun hc => ?_) <;> first | (exfalso; omega) | skip)
    | (first | (apply hK; clear hK K) | (clear hK K; apply hK; clear hK K) | (clear hK K; clear hK K; apply hK; clear hK K) | (clear hK K; clear hK K; clear hK K; apply hK; clear hK K) | (clear hK K; clear hK K; clear hK K; clear hK K; apply hK; clear hK K) | (clear hK K; clear hK K; clear hK K; clear hK K; clear hK K; apply hK; clear hK K))
  obtain ⟨I, hI⟩ : ∃ I : Nat → St → Prop, ∀ n S, I n S ↔ (∃ (j : Nat) (x : SV) (h : Heap), n = m.length - j ∧ j ≤ m.length ∧ Acc 1 x h [] j ((m.take j).map fun r => ints .i64 (r.map fun x => -x)) ∧ S = ⟨[(3, x), (4, I64 j), (0, mat .i64 m)], h⟩) := ⟨fun n S => _, fun _ _ => Iff.rfl⟩
  refine SW.loop' I m.length ((hI _ _).2 ⟨0, _, _, rfl, Nat.zero_le _, Acc.nil _ _, rfl⟩) (by repeat' (first | exact rfl | exact trivial | exact int_eq (by omega) | exact int_eq (by (rw [i64_wrap] <;> omega)) | constructor)) ?_
  intro n S hIn
  obtain ⟨j, x, h, rfl, hj, hA, rfl⟩ := (hI _ _).1 hIn
  clear hIn
  have hw := hv.w j
  repeat' first
    | (refine SW.seq_k fun K hK => ?_)
    | (refine SW.block ?_)
    | (refine SW.region ?_; simp only [go_sem, ↓reduceIte, reduceCtorEq, Nat.reduceAdd, Nat.reduceMul, Nat.reduceSub, Nat.reduceLT, Nat.reduceLeDiff, Nat.reduceEqDiff, Nat.reduceBEq, Nat.reduceBneDiff, Int.reduceToNat, Int.toNat_natCast])
    | (refine SW.regionD (Checked.mixed Try.checked) (by kernel_rfl) ?_; simp only [go_sem, ↓reduceIte, reduceCtorEq, Nat.reduceAdd, Nat.reduceMul, Nat.reduceSub, Nat.reduceLT, Nat.reduceLeDiff, Nat.reduceEqDiff, Nat.reduceBEq, Nat.reduceBneDiff, Int.reduceToNat, Int.toNat_natCast])
    | (refine SW.cond ?_; simp only [go_sem, ↓reduceIte, reduceCtorEq, Nat.reduceAdd, Nat.reduceMul, Nat.reduceSub, Nat.reduceLT, Nat.reduceLeDiff, Nat.reduceEqDiff, Nat.reduceBEq, Nat.reduceBneDiff, Int.reduceToNat, Int.toNat_natCast])
    | (refine SW.skip ?_; try simp only [go_sem, ↓reduceIte, reduceCtorEq, Nat.reduceAdd, Nat.reduceMul, Nat.reduceSub, Nat.reduceLT, Nat.reduceLeDiff, Nat.reduceEqDiff, Nat.reduceBEq, Nat.reduceBneDiff, Int.reduceToNat, Int.toNat_natCast])
    | (refine SW.exit ?_; try simp only [go_sem, ↓reduceIte, reduceCtorEq, Nat.reduceAdd, Nat.reduceMul, Nat.reduceSub, Nat.reduceLT, Nat.reduceLeDiff, Nat.reduceEqDiff, Nat.reduceBEq, Nat.reduceBneDiff, Int.reduceToNat, Int.toNat_natCast])
    | (refine SW.ret ?_; try simp only [go_sem, ↓reduceIte, reduceCtorEq, Nat.reduceAdd, Nat.reduceMul, Nat.reduceSub, Nat.reduceLT, Nat.reduceLeDiff, Nat.reduceEqDiff, Nat.reduceBEq, Nat.reduceBneDiff, Int.reduceToNat, Int.toNat_natCast])
    | (refine And.intro (by omega) ?_)
    | (refine ifI (fun hc => ?_) (fun hc => ?_) <;> first | (exfalso; omega) | skip)
    | (first | (apply hK; clear hK K) | (clear hK K; apply hK; clear hK K) | (clear hK K; clear hK K; apply hK; clear hK K) | (clear hK K; clear hK K; clear hK K; apply hK; clear hK K) | (clear hK K; clear hK K; clear hK K; clear hK K; apply hK; clear hK K) | (clear hK K; clear hK K; clear hK K; clear hK K; clear hK K; apply hK; clear hK K))
  · obtain ⟨J, hJ⟩ : ∃ I : Nat → St → Prop, ∀ n S, I n S ↔ (∃ (k : Nat) (y : SV) (h' : Heap), n = (m.getD j []).length - k ∧ k ≤ (m.getD j []).length ∧ Acc 1 y h' h k (((m.getD j []).take k).map fun x => I64 (-x)) ∧ S = ⟨[(5, y), (6, I64 k), (3, x), (4, I64 j), (0, mat .i64 m)], h'⟩) := ⟨fun n S => _, fun _ _ => Iff.rfl⟩
    refine SW.loop' J (m.getD j []).length ((hJ _ _).2 ⟨0, _, _, rfl, Nat.zero_le _, Acc.nil _ _, rfl⟩) (by repeat' (first | exact rfl | exact trivial | exact int_eq (by omega) | exact int_eq (by (rw [i64_wrap] <;> omega)) | constructor)) ?_
    intro n S hIn
    obtain ⟨k, y, h', rfl, hk, hB, rfl⟩ := (hJ _ _).1 hIn
    clear hIn
    have he := hv.small j k
    repeat' first
      | (refine SW.seq_k fun K hK => ?_)
      | (refine SW.block ?_)
      | (refine SW.region ?_; simp only [go_sem, ↓reduceIte, reduceCtorEq, Nat.reduceAdd, Nat.reduceMul, Nat.reduceSub, Nat.reduceLT, Nat.reduceLeDiff, Nat.reduceEqDiff, Nat.reduceBEq, Nat.reduceBneDiff, Int.reduceToNat, Int.toNat_natCast])
      | (refine SW.regionD (Checked.mixed Try.checked) (by kernel_rfl) ?_; simp only [go_sem, ↓reduceIte, reduceCtorEq, Nat.reduceAdd, Nat.reduceMul, Nat.reduceSub, Nat.reduceLT, Nat.reduceLeDiff, Nat.reduceEqDiff, Nat.reduceBEq, Nat.reduceBneDiff, Int.reduceToNat, Int.toNat_natCast])
      | (refine SW.cond ?_; simp only [go_sem, ↓reduceIte, reduceCtorEq, Nat.reduceAdd, Nat.reduceMul, Nat.reduceSub, Nat.reduceLT, Nat.reduceLeDiff, Nat.reduceEqDiff, Nat.reduceBEq, Nat.reduceBneDiff, Int.reduceToNat, Int.toNat_natCast])
      | (refine SW.skip ?_; try simp only [go_sem, ↓reduceIte, reduceCtorEq, Nat.reduceAdd, Nat.reduceMul, Nat.reduceSub, Nat.reduceLT, Nat.reduceLeDiff, Nat.reduceEqDiff, Nat.reduceBEq, Nat.reduceBneDiff, Int.reduceToNat, Int.toNat_natCast])
      | (refine SW.exit ?_; try simp only [go_sem, ↓reduceIte, reduceCtorEq, Nat.reduceAdd, Nat.reduceMul, Nat.reduceSub, Nat.reduceLT, Nat.reduceLeDiff, Nat.reduceEqDiff, Nat.reduceBEq, Nat.reduceBneDiff, Int.reduceToNat, Int.toNat_natCast])
      | (refine SW.ret ?_; try simp only [go_sem, ↓reduceIte, reduceCtorEq, Nat.reduceAdd, Nat.reduceMul, Nat.reduceSub, Nat.reduceLT, Nat.reduceLeDiff, Nat.reduceEqDiff, Nat.reduceBEq, Nat.reduceBneDiff, Int.reduceToNat, Int.toNat_natCast])
      | (refine And.intro (by omega) ?_)
      | (first | (apply hK; clear hK K) | (clear hK K; apply hK; clear hK K) | (clear hK K; clear hK K; apply hK; clear hK K) | (clear hK K; clear hK K; clear hK K; apply hK; clear hK K) | (clear hK K; clear hK K; clear hK K; clear hK K; apply hK; clear hK K) | (clear hK K; clear hK K; clear hK K; clear hK K; clear hK K; apply hK; clear hK K))
    refine ifI (fun hc => ?_) (fun hc => ?_) <;> first | (exfalso; omega) | skip
    · repeat' first
        | (refine SW.seq_k fun K hK => ?_)
        | (refine SW.block ?_)
        | (refine SW.region ?_; simp only [go_sem, ↓reduceIte, reduceCtorEq, Nat.reduceAdd, Nat.reduceMul, Nat.reduceSub, Nat.reduceLT, Nat.reduceLeDiff, Nat.reduceEqDiff, Nat.reduceBEq, Nat.reduceBneDiff, Int.reduceToNat, Int.toNat_natCast])
        | (refine SW.regionD (Checked.mixed Try.checked) (by kernel_rfl) ?_; simp only [go_sem, ↓reduceIte, reduceCtorEq, Nat.reduceAdd, Nat.reduceMul, Nat.reduceSub, Nat.reduceLT, Nat.reduceLeDiff, Nat.reduceEqDiff, Nat.reduceBEq, Nat.reduceBneDiff, Int.reduceToNat, Int.toNat_natCast])
        | (refine SW.cond ?_; simp only [go_sem, ↓reduceIte, reduceCtorEq, Nat.reduceAdd, Nat.reduceMul, Nat.reduceSub, Nat.reduceLT, Nat.reduceLeDiff, Nat.reduceEqDiff, Nat.reduceBEq, Nat.reduceBneDiff, Int.reduceToNat, Int.toNat_natCast])
        | (refine SW.skip ?_; try simp only [go_sem, ↓reduceIte, reduceCtorEq, Nat.reduceAdd, Nat.reduceMul, Nat.reduceSub, Nat.reduceLT, Nat.reduceLeDiff, Nat.reduceEqDiff, Nat.reduceBEq, Nat.reduceBneDiff, Int.reduceToNat, Int.toNat_natCast])
        | (refine SW.exit ?_; try simp only [go_sem, ↓reduceIte, reduceCtorEq, Nat.reduceAdd, Nat.reduceMul, Nat.reduceSub, Nat.reduceLT, Nat.reduceLeDiff, Nat.reduceEqDiff, Nat.reduceBEq, Nat.reduceBneDiff, Int.reduceToNat, Int.toNat_natCast])
        | (refine SW.ret ?_; try simp only [go_sem, ↓reduceIte, reduceCtorEq, Nat.reduceAdd, Nat.reduceMul, Nat.reduceSub, Nat.reduceLT, Nat.reduceLeDiff, Nat.reduceEqDiff, Nat.reduceBEq, Nat.reduceBneDiff, Int.reduceToNat, Int.toNat_natCast])
        | (refine And.intro (by omega) ?_)
        | (refine ifI (fun hc => ?_) (fun hc => ?_) <;> first | (exfalso; omega) | skip)
        | (first | (apply hK; clear hK K) | (clear hK K; apply hK; clear hK K) | (clear hK K; clear hK K; apply hK; clear hK K) | (clear hK K; clear hK K; clear hK K; apply hK; clear hK K) | (clear hK K; clear hK K; clear hK K; clear hK K; apply hK; clear hK K) | (clear hK K; clear hK K; clear hK K; clear hK K; clear hK K; apply hK; clear hK K))
      intro b2 hb2
      refine appK_acc hB hb2 rfl rfl rfl (by decide) rfl (by omega) (by omega) fun x' b blk f1 f2 f3 f4 f5 f6 h'' hh => ?_
      obtain ⟨h3, hB', hle⟩ := Acc.after f1 f4 f5 f6 hh
      clear f1 f2 f3 f4 f5 f6 hh
      simp only [go_sem, ↓reduceIte, reduceCtorEq, Nat.reduceAdd, Nat.reduceMul, Nat.reduceSub, Nat.reduceLT, Nat.reduceLeDiff, Nat.reduceEqDiff, Nat.reduceBEq, Nat.reduceBneDiff, Int.reduceToNat, Int.toNat_natCast]
      first | (apply hK; clear hK K) | (clear hK K; apply hK; clear hK K) | (clear hK K; clear hK K; apply hK; clear hK K) | (clear hK K; clear hK K; clear hK K; apply hK; clear hK K) | (clear hK K; clear hK K; clear hK K; clear hK K; apply hK; clear hK K) | (clear hK K; clear hK K; clear hK K; clear hK K; clear hK K; apply hK; clear hK K)
      refine SW.le (hle _) ?_
      clear hle
      repeat' first
        | (refine SW.seq_k fun K hK => ?_)
        | (refine SW.block ?_)
        | (refine SW.region ?_; simp only [go_sem, ↓reduceIte, reduceCtorEq, Nat.reduceAdd, Nat.reduceMul, Nat.reduceSub, Nat.reduceLT, Nat.reduceLeDiff, Nat.reduceEqDiff, Nat.reduceBEq, Nat.reduceBneDiff, Int.reduceToNat, Int.toNat_natCast])
        | (refine SW.regionD (Checked.mixed Try.checked) (by kernel_rfl) ?_; simp only [go_sem, ↓reduceIte, reduceCtorEq, Nat.reduceAdd, Nat.reduceMul, Nat.reduceSub, Nat.reduceLT, Nat.reduceLeDiff, Nat.reduceEqDiff, Nat.reduceBEq, Nat.reduceBneDiff, Int.reduceToNat, Int.toNat_natCast])
        | (refine SW.cond ?_; simp only [go_sem, ↓reduceIte, reduceCtorEq, Nat.reduceAdd, Nat.reduceMul, Nat.reduceSub, Nat.reduceLT, Nat.reduceLeDiff, Nat.reduceEqDiff, Nat.reduceBEq, Nat.reduceBneDiff, Int.reduceToNat, Int.toNat_natCast])
        | (refine SW.skip ?_; try simp only [go_sem, ↓reduceIte, reduceCtorEq, Nat.reduceAdd, Nat.reduceMul, Nat.reduceSub, Nat.reduceLT, Nat.reduceLeDiff, Nat.reduceEqDiff, Nat.reduceBEq, Nat.reduceBneDiff, Int.reduceToNat, Int.toNat_natCast])
        | (refine SW.exit ?_; try simp only [go_sem, ↓reduceIte, reduceCtorEq, Nat.reduceAdd, Nat.reduceMul, Nat.reduceSub, Nat.reduceLT, Nat.reduceLeDiff, Nat.reduceEqDiff, Nat.reduceBEq, Nat.reduceBneDiff, Int.reduceToNat, Int.toNat_natCast])
        | (refine SW.ret ?_; try simp only [go_sem, ↓reduceIte, reduceCtorEq, Nat.reduceAdd, Nat.reduceMul, Nat.reduceSub, Nat.reduceLT, Nat.reduceLeDiff, Nat.reduceEqDiff, Nat.reduceBEq, Nat.reduceBneDiff, Int.reduceToNat, Int.toNat_natCast])
        | (refine And.intro (by omega) ?_)
        | (refine ifI (fun hc => ?_) (fun hc => ?_) <;> first | (exfalso; omega) | skip)
        | (first | (apply hK; clear hK K) | (clear hK K; apply hK; clear hK K) | (clear hK K; clear hK K; apply hK; clear hK K) | (clear hK K; clear hK K; clear hK K; apply hK; clear hK K) | (clear hK K; clear hK K; clear hK K; clear hK K; apply hK; clear hK K) | (clear hK K; clear hK K; clear hK K; clear hK K; clear hK K; apply hK; clear hK K))
      refine Rnd.sub ((m.getD j []).length - (k + 1)) (by omega) ((hJ _ _).2 ⟨k + 1, x', h3, rfl, by omega, ?_, rfl⟩) (by repeat' (first | exact rfl | exact trivial | exact int_eq (by omega) | exact int_eq (by (rw [i64_wrap] <;> omega)) | constructor))
      rw [take_map_succ _ _ _ 0 (by omega)]
      rw [i64_wrap (by omega) (by omega), Int.zero_sub] at hB'
      exact hB'
    · refine SW.exit ?_; try simp only [go_sem, ↓reduceIte, reduceCtorEq, Nat.reduceAdd, Nat.reduceMul, Nat.reduceSub, Nat.reduceLT, Nat.reduceLeDiff, Nat.reduceEqDiff, Nat.reduceBEq, Nat.reduceBneDiff, Int.reduceToNat, Int.toNat_natCast]
      first | (apply hK; clear hK K) | (clear hK K; apply hK; clear hK K) | (clear hK K; clear hK K; apply hK; clear hK K) | (clear hK K; clear hK K; clear hK K; apply hK; clear hK K) | (clear hK K; clear hK K; clear hK K; clear hK K; apply hK; clear hK K) | (clear hK K; clear hK K; clear hK K; clear hK K; clear hK K; apply hK; clear hK K)
      obtain rfl : k = (m.getD j []).length := by omega
      refine SW.le (St.le_acc_ints (x := y) (i := 5) (k := .i64) (l := (m.getD j []).map fun x => -x) rfl (by rw [map_take_all] at hB; simpa [Function.comp_def] using hB)) ?_
      repeat' first
        | (refine SW.seq_k fun K hK => ?_)
        | (refine SW.block ?_)
        | (refine SW.region ?_; simp only [go_sem, ↓reduceIte, reduceCtorEq, Nat.reduceAdd, Nat.reduceMul, Nat.reduceSub, Nat.reduceLT, Nat.reduceLeDiff, Nat.reduceEqDiff, Nat.reduceBEq, Nat.reduceBneDiff, Int.reduceToNat, Int.toNat_natCast])
        | (refine SW.regionD (Checked.mixed Try.checked) (by kernel_rfl) ?_; simp only [go_sem, ↓reduceIte, reduceCtorEq, Nat.reduceAdd, Nat.reduceMul, Nat.reduceSub, Nat.reduceLT, Nat.reduceLeDiff, Nat.reduceEqDiff, Nat.reduceBEq, Nat.reduceBneDiff, Int.reduceToNat, Int.toNat_natCast])
        | (refine SW.cond ?_; simp only [go_sem, ↓reduceIte, reduceCtorEq, Nat.reduceAdd, Nat.reduceMul, Nat.reduceSub, Nat.reduceLT, Nat.reduceLeDiff, Nat.reduceEqDiff, Nat.reduceBEq, Nat.reduceBneDiff, Int.reduceToNat, Int.toNat_natCast])
        | (refine SW.skip ?_; try simp only [go_sem, ↓reduceIte, reduceCtorEq, Nat.reduceAdd, Nat.reduceMul, Nat.reduceSub, Nat.reduceLT, Nat.reduceLeDiff, Nat.reduceEqDiff, Nat.reduceBEq, Nat.reduceBneDiff, Int.reduceToNat, Int.toNat_natCast])
        | (refine SW.exit ?_; try simp only [go_sem, ↓reduceIte, reduceCtorEq, Nat.reduceAdd, Nat.reduceMul, Nat.reduceSub, Nat.reduceLT, Nat.reduceLeDiff, Nat.reduceEqDiff, Nat.reduceBEq, Nat.reduceBneDiff, Int.reduceToNat, Int.toNat_natCast])
        | (refine SW.ret ?_; try simp only [go_sem, ↓reduceIte, reduceCtorEq, Nat.reduceAdd, Nat.reduceMul, Nat.reduceSub, Nat.reduceLT, Nat.reduceLeDiff, Nat.reduceEqDiff, Nat.reduceBEq, Nat.reduceBneDiff, Int.reduceToNat, Int.toNat_natCast])
        | (refine And.intro (by omega) ?_)
        | (refine ifI (fun hc => ?_) (fun hc => ?_) <;> first | (exfalso; omega) | skip)
        | (first | (apply hK; clear hK K) | (clear hK K; apply hK; clear hK K) | (clear hK K; clear hK K; apply hK; clear hK K) | (clear hK K; clear hK K; clear hK K; apply hK; clear hK K) | (clear hK K; clear hK K; clear hK K; clear hK K; apply hK; clear hK K) | (clear hK K; clear hK K; clear hK K; clear hK K; clear hK K; apply hK; clear hK K))
      intro b2 hb2
      refine appK_acc hA hb2 rfl rfl rfl (by decide) rfl (by omega) (by omega) fun x' b blk f1 f2 f3 f4 f5 f6 h'' hh => ?_
      obtain ⟨h3, hA', hle⟩ := Acc.after f1 f4 f5 f6 hh
      clear f1 f2 f3 f4 f5 f6 hh
      simp only [go_sem, ↓reduceIte, reduceCtorEq, Nat.reduceAdd, Nat.reduceMul, Nat.reduceSub, Nat.reduceLT, Nat.reduceLeDiff, Nat.reduceEqDiff, Nat.reduceBEq, Nat.reduceBneDiff, Int.reduceToNat, Int.toNat_natCast]
      first | (apply hK; clear hK K) | (clear hK K; apply hK; clear hK K) | (clear hK K; clear hK K; apply hK; clear hK K) | (clear hK K; clear hK K; clear hK K; apply hK; clear hK K) | (clear hK K; clear hK K; clear hK K; clear hK K; apply hK; clear hK K) | (clear hK K; clear hK K; clear hK K; clear hK K; clear hK K; apply hK; clear hK K)
      refine SW.le (hle _) ?_
      clear hle
      repeat' first
        | (refine SW.seq_k fun K hK => ?_)
        | (refine SW.block ?_)
        | (refine SW.region ?_; simp only [go_sem, ↓reduceIte, reduceCtorEq, Nat.reduceAdd, Nat.reduceMul, Nat.reduceSub, Nat.reduceLT, Nat.reduceLeDiff, Nat.reduceEqDiff, Nat.reduceBEq, Nat.reduceBneDiff, Int.reduceToNat, Int.toNat_natCast])
        | (refine SW.regionD (Checked.mixed Try.checked) (by kernel_rfl) ?_; simp only [go_sem, ↓reduceIte, reduceCtorEq, Nat.reduceAdd, Nat.reduceMul, Nat.reduceSub, Nat.reduceLT, Nat.reduceLeDiff, Nat.reduceEqDiff, Nat.reduceBEq, Nat.reduceBneDiff, Int.reduceToNat, Int.toNat_natCast])
        | (refine SW.cond ?_; simp only [go_sem, ↓reduceIte, reduceCtorEq, Nat.reduceAdd, Nat.reduceMul, Nat.reduceSub, Nat.reduceLT, Nat.reduceLeDiff, Nat.reduceEqDiff, Nat.reduceBEq, Nat.reduceBneDiff, Int.reduceToNat, Int.toNat_natCast])
        | (refine SW.skip ?_; try simp only [go_sem, ↓reduceIte, reduceCtorEq, Nat.reduceAdd, Nat.reduceMul, Nat.reduceSub, Nat.reduceLT, Nat.reduceLeDiff, Nat.reduceEqDiff, Nat.reduceBEq, Nat.reduceBneDiff, Int.reduceToNat, Int.toNat_natCast])
        | (refine SW.exit ?_; try simp only [go_sem, ↓reduceIte, reduceCtorEq, Nat.reduceAdd, Nat.reduceMul, Nat.reduceSub, Nat.reduceLT, Nat.reduceLeDiff, Nat.reduceEqDiff, Nat.reduceBEq, Nat.reduceBneDiff, Int.reduceToNat, Int.toNat_natCast])
        | (refine SW.ret ?_; try simp only [go_sem, ↓reduceIte, reduceCtorEq, Nat.reduceAdd, Nat.reduceMul, Nat.reduceSub, Nat.reduceLT, Nat.reduceLeDiff, Nat.reduceEqDiff, Nat.reduceBEq, Nat.reduceBneDiff, Int.reduceToNat, Int.toNat_natCast])
        | (refine And.intro (by omega) ?_)
        | (refine ifI (fun hc => ?_) (fun hc => ?_) <;> first | (exfalso; omega) | skip)
        | (first | (apply hK; clear hK K) | (clear hK K; apply hK; clear hK K) | (clear hK K; clear hK K; apply hK; clear hK K) | (clear hK K; clear hK K; clear hK K; apply hK; clear hK K) | (clear hK K; clear hK K; clear hK K; clear hK K; apply hK; clear hK K) | (clear hK K; clear hK K; clear hK K; clear hK K; clear hK K; apply hK; clear hK K))
      refine Rnd.sub (m.length - (j + 1)) (by omega) ((hI _ _).2 ⟨j + 1, x', h3, rfl, by omega, ?_, rfl⟩) (by repeat' (first | exact rfl | exact trivial | exact int_eq (by omega) | exact int_eq (by (rw [i64_wrap] <;> omega)) | constructor))
      rw [take_map_succ _ _ _ [] (by omega)]
      exact hA'
  · refine retQ_le (St.le_acc_mat (x := x) (i := 2) rfl (l := neg m) (by
      obtain rfl : j = m.length := by omega
      rw [map_take_all] at hA
      simpa [neg, Function.comp_def] using hA)) ?_
    simp only [resL_tmp, resL_nil, tupOf, go_sem, ↓reduceIte, reduceCtorEq, Nat.reduceAdd, Nat.reduceMul, Nat.reduceSub, Nat.reduceLT, Nat.reduceLeDiff, Nat.reduceEqDiff, Nat.reduceBEq, Nat.reduceBneDiff, Int.reduceToNat, Int.toNat_natCast]

theorem used_spec (l : List Int) (k : Int) (hl : l.length ≤ 9223372036854775807) : PCall Try.prog 52 [ints .i64 l, I64 k] (SB (decide (k ∈ l))) := by
  refine Call.enter' (N := 18) (rs := [.tmp 4]) Try.func52 rfl rfl rfl (by decide) rfl ?_; simp only [argT]
  repeat' first
    | (refine SW.seq_k fun K hK => ?_)
    | (refine SW.block ?_)
    | (refine SW.region ?_; simp only [go_sem, ↓reduceIte, reduceCtorEq, Nat.reduceAdd, Nat.reduceMul, Nat.reduceSub, Nat.reduceLT, Nat.reduceLeDiff, Nat.reduceEqDiff, Nat.reduceBEq, Nat.reduceBneDiff, Int.reduceToNat, Int.toNat_natCast])
    | (refine SW.regionD (Checked.mixed Try.checked) (by kernel_rfl) ?_; simp only [go_sem, ↓reduceIte, reduceCtorEq, Nat.reduceAdd, Nat.reduceMul, Nat.reduceSub, Nat.reduceLT, Nat.reduceLeDiff, Nat.reduceEqDiff, Nat.reduceBEq, Nat.reduceBneDiff, Int.reduceToNat, Int.toNat_natCast])
    | (refine SW.cond ?_; simp only [go_sem, ↓reduceIte, reduceCtorEq, Nat.reduceAdd, Nat.reduceMul, Nat.reduceSub, Nat.reduceLT, Nat.reduceLeDiff, Nat.reduceEqDiff, Nat.reduceBEq, Nat.reduceBneDiff, Int.reduceToNat, Int.toNat_natCast])
    | (refine SW.skip ?_; try simp only [go_sem, ↓reduceIte, reduceCtorEq, Nat.reduceAdd, Nat.reduceMul, Nat.reduceSub, Nat.reduceLT, Nat.reduceLeDiff, Nat.reduceEqDiff, Nat.reduceBEq, Nat.reduceBneDiff, Int.reduceToNat, Int.toNat_natCast])
    | (refine SW.exit ?_; try simp only [go_sem, ↓reduceIte, reduceCtorEq, Nat.reduceAdd, Nat.reduceMul, Nat.reduceSub, Nat.reduceLT, Nat.reduceLeDiff, Nat.reduceEqDiff, Nat.reduceBEq, Nat.reduceBneDiff, Int.reduceToNat, Int.toNat_natCast])
    | (refine SW.ret ?_; try simp only [go_sem, ↓reduceIte, reduceCtorEq, Nat.reduceAdd, Nat.reduceMul, Nat.reduceSub, Nat.reduceLT, Nat.reduceLeDiff, Nat.reduceEqDiff, Nat.reduceBEq, Nat.reduceBneDiff, Int.reduceToNat, Int.toNat_natCast])
    | (refine And.intro (by omega) ?_)
    | (refine ifI (fun hc => ?_) (fun hc => ?_) <;> first | (exfalso; omega) | skip)
    | (first | (apply hK; clear hK K) | (clear hK K; apply hK; clear hK K) | (clear hK K; clear hK K; apply hK; clear hK K) | (clear hK K; clear hK K; clear hK K; apply hK; clear hK K) | (clear hK K; clear hK K; clear hK K; clear hK K; apply hK; clear hK K) | (clear hK K; clear hK K; clear hK K; clear hK K; clear hK K; apply hK; clear hK K))
  refine SW.loop' (fun n S => ∃ j : Nat, n = l.length - j ∧ j ≤ l.length ∧ (∀ i, i < j → l.getD i 0 ≠ k) ∧ S = ⟨[(5, I64 j), (0, ints .i64 l), (1, I64 k)], []⟩) l.length
    ⟨0, rfl, Nat.zero_le _, fun i hi => absurd hi (by omega), rfl⟩ (by repeat' (first | exact rfl | exact trivial | exact int_eq (by omega) | exact int_eq (by (rw [i64_wrap] <;> omega)) | constructor)) ?_
  rintro n S ⟨j, rfl, hj, hno, rfl⟩
  repeat' first
    | (refine SW.seq_k fun K hK => ?_)
    | (refine SW.block ?_)
    | (refine SW.region ?_; simp only [go_sem, ↓reduceIte, reduceCtorEq, Nat.reduceAdd, Nat.reduceMul, Nat.reduceSub, Nat.reduceLT, Nat.reduceLeDiff, Nat.reduceEqDiff, Nat.reduceBEq, Nat.reduceBneDiff, Int.reduceToNat, Int.toNat_natCast])
    | (refine SW.regionD (Checked.mixed Try.checked) (by kernel_rfl) ?_; simp only [go_sem, ↓reduceIte, reduceCtorEq, Nat.reduceAdd, Nat.reduceMul, Nat.reduceSub, Nat.reduceLT, Nat.reduceLeDiff, Nat.reduceEqDiff, Nat.reduceBEq, Nat.reduceBneDiff, Int.reduceToNat, Int.toNat_natCast])
    | (refine SW.cond ?_; simp only [go_sem, ↓reduceIte, reduceCtorEq, Nat.reduceAdd, Nat.reduceMul, Nat.reduceSub, Nat.reduceLT, Nat.reduceLeDiff, Nat.reduceEqDiff, Nat.reduceBEq, Nat.reduceBneDiff, Int.reduceToNat, Int.toNat_natCast])
    | (refine SW.skip ?_; try simp only [go_sem, ↓reduceIte, reduceCtorEq, Nat.reduceAdd, Nat.reduceMul, Nat.reduceSub, Nat.reduceLT, Nat.reduceLeDiff, Nat.reduceEqDiff, Nat.reduceBEq, Nat.reduceBneDiff, Int.reduceToNat, Int.toNat_natCast])
    | (refine SW.exit ?_; try simp only [go_sem, ↓reduceIte, reduceCtorEq, Nat.reduceAdd, Nat.reduceMul, Nat.reduceSub, Nat.reduceLT, Nat.reduceLeDiff, Nat.reduceEqDiff, Nat.reduceBEq, Nat.reduceBneDiff, Int.reduceToNat, Int.toNat_natCast])
    | (refine SW.ret ?_; try simp only [go_sem, ↓reduceIte, reduceCtorEq, Nat.reduceAdd, Nat.reduceMul, Nat.reduceSub, Nat.reduceLT, Nat.reduceLeDiff, Nat.reduceEqDiff, Nat.reduceBEq, Nat.reduceBneDiff, Int.reduceToNat, Int.toNat_natCast])
    | (refine And.intro (by omega) ?_)
    | (refine ifI (fun hc => ?_) (fun hc => ?_) <;> first | (exfalso; omega) | skip)
    | (first | (apply hK; clear hK K) | (clear hK K; apply hK; clear hK K) | (clear hK K; clear hK K; apply hK; clear hK K) | (clear hK K; clear hK K; clear hK K; apply hK; clear hK K) | (clear hK K; clear hK K; clear hK K; clear hK K; apply hK; clear hK K) | (clear hK K; clear hK K; clear hK K; clear hK K; clear hK K; apply hK; clear hK K))
  · refine ret_pure ?_; simp only [resL_tmp, resL_nil, tupOf, go_sem, ↓reduceIte, reduceCtorEq, Nat.reduceAdd, Nat.reduceMul, Nat.reduceSub, Nat.reduceLT, Nat.reduceLeDiff, Nat.reduceEqDiff, Nat.reduceBEq, Nat.reduceBneDiff, Int.reduceToNat, Int.toNat_natCast]
    refine bool_eq (decide_eq_true ?_).symm
    rw [← hc, getD_list _ _ _ (by omega)]
    exact List.getElem_mem _
  · refine Rnd.sub (l.length - (j + 1)) (by omega) ⟨j + 1, rfl, by omega, fun i hi => ?_, rfl⟩ (by repeat' (first | exact rfl | exact trivial | exact int_eq (by omega) | exact int_eq (by (rw [i64_wrap] <;> omega)) | constructor))
    by_cases h : i = j
    · rw [h]; exact hc
    · exact hno i (by omega)
  · refine ret_pure ?_; simp only [resL_tmp, resL_nil, tupOf, go_sem, ↓reduceIte, reduceCtorEq, Nat.reduceAdd, Nat.reduceMul, Nat.reduceSub, Nat.reduceLT, Nat.reduceLeDiff, Nat.reduceEqDiff, Nat.reduceBEq, Nat.reduceBneDiff, Int.reduceToNat, Int.toNat_natCast]
    refine bool_eq (decide_eq_false fun hm => ?_).symm
    obtain ⟨i, hi, he⟩ := List.getElem_of_mem hm
    exact hno i (by omega) (by rw [getD_list _ _ _ hi]; exact he)

theorem search_ref (m : List (List Int)) (none : Bool) (hv : VMat m) : ∀ (r : Nat) (cols : List Int), cols.length + r = m.length → (∀ i, i < cols.length → cols.getD i 0 < wid m) →
    PCall Try.prog 43 [mat .i64 m, ints .i64 cols, SB none] (.tup [I64 ((searchF m none r cols).getD 0), SB (searchF m none r cols).isSome]) := by
  obtain ⟨hm, hr⟩ := rows_big hv
  have hrows := hv.rows
  have hw60 := hv.w60
  intro r
  induction r with
  | zero =>
    intro cols hlen hcol
    refine Call.enter' (N := 69) (rs := [.tmp 6, .tmp 7]) Try.func43 rfl rfl rfl (by decide) rfl ?_; simp only [argT]
    repeat' first
      | (refine SW.seq_k fun K hK => ?_)
      | (refine SW.block ?_)
      | (refine SW.region ?_; simp only [go_sem, ↓reduceIte, reduceCtorEq, Nat.reduceAdd, Nat.reduceMul, Nat.reduceSub, Nat.reduceLT, Nat.reduceLeDiff, Nat.reduceEqDiff, Nat.reduceBEq, Nat.reduceBneDiff, Int.reduceToNat, Int.toNat_natCast])
      | (refine SW.regionD (Checked.mixed Try.checked) (by kernel_rfl) ?_; simp only [go_sem, ↓reduceIte, reduceCtorEq, Nat.reduceAdd, Nat.reduceMul, Nat.reduceSub, Nat.reduceLT, Nat.reduceLeDiff, Nat.reduceEqDiff, Nat.reduceBEq, Nat.reduceBneDiff, Int.reduceToNat, Int.toNat_natCast])
      | (refine SW.cond ?_; simp only [go_sem, ↓reduceIte, reduceCtorEq, Nat.reduceAdd, Nat.reduceMul, Nat.reduceSub, Nat.reduceLT, Nat.reduceLeDiff, Nat.reduceEqDiff, Nat.reduceBEq, Nat.reduceBneDiff, Int.reduceToNat, Int.toNat_natCast])
      | (refine SW.skip ?_; try simp only [go_sem, ↓reduceIte, reduceCtorEq, Nat.reduceAdd, Nat.reduceMul, Nat.reduceSub, Nat.reduceLT, Nat.reduceLeDiff, Nat.reduceEqDiff, Nat.reduceBEq, Nat.reduceBneDiff, Int.reduceToNat, Int.toNat_natCast])
      | (refine SW.exit ?_; try simp only [go_sem, ↓reduceIte, reduceCtorEq, Nat.reduceAdd, Nat.reduceMul, Nat.reduceSub, Nat.reduceLT, Nat.reduceLeDiff, Nat.reduceEqDiff, Nat.reduceBEq, Nat.reduceBneDiff, Int.reduceToNat, Int.toNat_natCast])
      | (refine SW.ret ?_; try simp only [go_sem, ↓reduceIte, reduceCtorEq, Nat.reduceAdd, Nat.reduceMul, Nat.reduceSub, Nat.reduceLT, Nat.reduceLeDiff, Nat.reduceEqDiff, Nat.reduceBEq, Nat.reduceBneDiff, Int.reduceToNat, Int.toNat_natCast])
      | (refine And.intro (by omega) ?_)
      | (refine ifI (fun hc => ?_) (fun hc => ?_) <;> first | (exfalso; omega) | skip)
      | (first | (apply hK; clear hK K) | (clear hK K; apply hK; clear hK K) | (clear hK K; clear hK K; apply hK; clear hK K) | (clear hK K; clear hK K; clear hK K; apply hK; clear hK K) | (clear hK K; clear hK K; clear hK K; clear hK K; apply hK; clear hK K) | (clear hK K; clear hK K; clear hK K; clear hK K; clear hK K; apply hK; clear hK K))
      | (refine Call.of_pure (sum_ref m cols hv (by omega) hcol) ?_; try simp only [go_sem, ↓reduceIte, reduceCtorEq, Nat.reduceAdd, Nat.reduceMul, Nat.reduceSub, Nat.reduceLT, Nat.reduceLeDiff, Nat.reduceEqDiff, Nat.reduceBEq, Nat.reduceBneDiff, Int.reduceToNat, Int.toNat_natCast])
      | (refine ⟨_, sum_ref m cols hv (by omega) hcol, ?_⟩; try simp only [go_sem, ↓reduceIte, reduceCtorEq, Nat.reduceAdd, Nat.reduceMul, Nat.reduceSub, Nat.reduceLT, Nat.reduceLeDiff, Nat.reduceEqDiff, Nat.reduceBEq, Nat.reduceBneDiff, Int.reduceToNat, Int.toNat_natCast])
      | fail
    refine ret_pure ?_; simp only [resL_tmp, resL_nil, tupOf, go_sem, ↓reduceIte, reduceCtorEq, Nat.reduceAdd, Nat.reduceMul, Nat.reduceSub, Nat.reduceLT, Nat.reduceLeDiff, Nat.reduceEqDiff, Nat.reduceBEq, Nat.reduceBneDiff, Int.reduceToNat, Int.toNat_natCast]
    rfl
  | succ r ih =>
    intro cols hlen hcol
    refine Call.enter' (N := 69) (rs := [.tmp 6, .tmp 7]) Try.func43 rfl rfl rfl (by decide) rfl ?_; simp only [argT]
    repeat' first
      | (refine SW.seq_k fun K hK => ?_)
      | (refine SW.block ?_)
      | (refine SW.region ?_; simp only [go_sem, ↓reduceIte, reduceCtorEq, Nat.reduceAdd, Nat.reduceMul, Nat.reduceSub, Nat.reduceLT, Nat.reduceLeDiff, Nat.reduceEqDiff, Nat.reduceBEq, Nat.reduceBneDiff, Int.reduceToNat, Int.toNat_natCast])
      | (refine SW.regionD (Checked.mixed Try.checked) (by kernel_rfl) ?_; simp only [go_sem, ↓reduceIte, reduceCtorEq, Nat.reduceAdd, Nat.reduceMul, Nat.reduceSub, Nat.reduceLT, Nat.reduceLeDiff, Nat.reduceEqDiff, Nat.reduceBEq, Nat.reduceBneDiff, Int.reduceToNat, Int.toNat_natCast])
      | (refine SW.cond ?_; simp only [go_sem, ↓reduceIte, reduceCtorEq, Nat.reduceAdd, Nat.reduceMul, Nat.reduceSub, Nat.reduceLT, Nat.reduceLeDiff, Nat.reduceEqDiff, Nat.reduceBEq, Nat.reduceBneDiff, Int.reduceToNat, Int.toNat_natCast])
      | (refine SW.skip ?_; try simp only [go_sem, ↓reduceIte, reduceCtorEq, Nat.reduceAdd, Nat.reduceMul, Nat.reduceSub, Nat.reduceLT, Nat.reduceLeDiff, Nat.reduceEqDiff, Nat.reduceBEq, Nat.reduceBneDiff, Int.reduceToNat, Int.toNat_natCast])
      | (refine SW.exit ?_; try simp only [go_sem, ↓reduceIte, reduceCtorEq, Nat.reduceAdd, Nat.reduceMul, Nat.reduceSub, Nat.reduceLT, Nat.reduceLeDiff, Nat.reduceEqDiff, Nat.reduceBEq, Nat.reduceBneDiff, Int.reduceToNat, Int.toNat_natCast])
      | (refine SW.ret ?_; try simp only [go_sem, ↓reduceIte, reduceCtorEq, Nat.reduceAdd, Nat.reduceMul, Nat.reduceSub, Nat.reduceLT, Nat.reduceLeDiff, Nat.reduceEqDiff, Nat.reduceBEq, Nat.reduceBneDiff, Int.reduceToNat, Int.toNat_natCast])
      | (refine And.intro (by omega) ?_)
      | (refine ifI (fun hc => ?_) (fun hc => ?_) <;> first | (exfalso; omega) | skip)
      | (first | (apply hK; clear hK K) | (clear hK K; apply hK; clear hK K) | (clear hK K; clear hK K; apply hK; clear hK K) | (clear hK K; clear hK K; clear hK K; apply hK; clear hK K) | (clear hK K; clear hK K; clear hK K; clear hK K; apply hK; clear hK K) | (clear hK K; clear hK K; clear hK K; clear hK K; clear hK K; apply hK; clear hK K))
    generalize hf : searchF m none r = f at ih
    obtain ⟨I, hI⟩ : ∃ I : Nat → St → Prop, ∀ n S, I n S ↔ (∃ (j : Nat), n = wid m + 1 - j ∧ j ≤ wid m + 1 ∧ S = ⟨[(8, I64 ((srchTo f none cols j).getD 0)), (9, SB (srchTo f none cols j).isSome), (10, I64 ((j : Int) - 1)), (0, mat .i64 m), (1, ints .i64 cols), (2, SB none)], []⟩) := ⟨fun n S => _, fun _ _ => Iff.rfl⟩
    refine SW.loop' I (wid m + 1) ((hI _ _).2 ⟨0, rfl, Nat.zero_le _, rfl⟩) (by repeat' (first | exact rfl | exact trivial | exact int_eq (by omega) | exact int_eq (by (rw [i64_wrap] <;> omega)) | constructor)) ?_
    intro n S hIn
    obtain ⟨j, rfl, hj, rfl⟩ := (hI _ _).1 hIn
    clear hIn
    repeat' first
      | (refine SW.seq_k fun K hK => ?_)
      | (refine SW.block ?_)
      | (refine SW.region ?_; simp only [go_sem, ↓reduceIte, reduceCtorEq, Nat.reduceAdd, Nat.reduceMul, Nat.reduceSub, Nat.reduceLT, Nat.reduceLeDiff, Nat.reduceEqDiff, Nat.reduceBEq, Nat.reduceBneDiff, Int.reduceToNat, Int.toNat_natCast])
      | (refine SW.regionD (Checked.mixed Try.checked) (by kernel_rfl) ?_; simp only [go_sem, ↓reduceIte, reduceCtorEq, Nat.reduceAdd, Nat.reduceMul, Nat.reduceSub, Nat.reduceLT, Nat.reduceLeDiff, Nat.reduceEqDiff, Nat.reduceBEq, Nat.reduceBneDiff, Int.reduceToNat, Int.toNat_natCast])
      | (refine SW.cond ?_; simp only [go_sem, ↓reduceIte, reduceCtorEq, Nat.reduceAdd, Nat.reduceMul, Nat.reduceSub, Nat.reduceLT, Nat.reduceLeDiff, Nat.reduceEqDiff, Nat.reduceBEq, Nat.reduceBneDiff, Int.reduceToNat, Int.toNat_natCast])
      | (refine SW.skip ?_; try simp only [go_sem, ↓reduceIte, reduceCtorEq, Nat.reduceAdd, Nat.reduceMul, Nat.reduceSub, Nat.reduceLT, Nat.reduceLeDiff, Nat.reduceEqDiff, Nat.reduceBEq, Nat.reduceBneDiff, Int.reduceToNat, Int.toNat_natCast])
      | (refine SW.exit ?_; try simp only [go_sem, ↓reduceIte, reduceCtorEq, Nat.reduceAdd, Nat.reduceMul, Nat.reduceSub, Nat.reduceLT, Nat.reduceLeDiff, Nat.reduceEqDiff, Nat.reduceBEq, Nat.reduceBneDiff, Int.reduceToNat, Int.toNat_natCast])
      | (refine SW.ret ?_; try simp only [go_sem, ↓reduceIte, reduceCtorEq, Nat.reduceAdd, Nat.reduceMul, Nat.reduceSub, Nat.reduceLT, Nat.reduceLeDiff, Nat.reduceEqDiff, Nat.reduceBEq, Nat.reduceBneDiff, Int.reduceToNat, Int.toNat_natCast])
      | (refine And.intro (by omega) ?_)
      | (refine ifI (fun hc => ?_) (fun hc => ?_) <;> first | (exfalso; omega) | skip)
      | (first | (apply hK; clear hK K) | (clear hK K; apply hK; clear hK K) | (clear hK K; clear hK K; apply hK; clear hK K) | (clear hK K; clear hK K; clear hK K; apply hK; clear hK K) | (clear hK K; clear hK K; clear hK K; clear hK K; apply hK; clear hK K) | (clear hK K; clear hK K; clear hK K; clear hK K; clear hK K; apply hK; clear hK K))
      | (refine Call.of_pure (width_ref m hm) ?_; try simp only [go_sem, ↓reduceIte, reduceCtorEq, Nat.reduceAdd, Nat.reduceMul, Nat.reduceSub, Nat.reduceLT, Nat.reduceLeDiff, Nat.reduceEqDiff, Nat.reduceBEq, Nat.reduceBneDiff, Int.reduceToNat, Int.toNat_natCast])
      | (refine ⟨_, width_ref m hm, ?_⟩; try simp only [go_sem, ↓reduceIte, reduceCtorEq, Nat.reduceAdd, Nat.reduceMul, Nat.reduceSub, Nat.reduceLT, Nat.reduceLeDiff, Nat.reduceEqDiff, Nat.reduceBEq, Nat.reduceBneDiff, Int.reduceToNat, Int.toNat_natCast])
      | (refine Call.of_pure (used_spec cols ((j : Int) - 1) (by omega)) ?_; try simp only [go_sem, ↓reduceIte, reduceCtorEq, Nat.reduceAdd, Nat.reduceMul, Nat.reduceSub, Nat.reduceLT, Nat.reduceLeDiff, Nat.reduceEqDiff, Nat.reduceBEq, Nat.reduceBneDiff, Int.reduceToNat, Int.toNat_natCast])
      | (refine ⟨_, used_spec cols ((j : Int) - 1) (by omega), ?_⟩; try simp only [go_sem, ↓reduceIte, reduceCtorEq, Nat.reduceAdd, Nat.reduceMul, Nat.reduceSub, Nat.reduceLT, Nat.reduceLeDiff, Nat.reduceEqDiff, Nat.reduceBEq, Nat.reduceBneDiff, Int.reduceToNat, Int.toNat_natCast])
      | (refine allF_i fun b hb => ?_; try simp only [fresh_cons, fresh_nil, and_true, ne_eq, go_sem, ↓reduceIte, reduceCtorEq, Nat.reduceAdd, Nat.reduceMul, Nat.reduceSub, Nat.reduceLT, Nat.reduceLeDiff, Nat.reduceEqDiff, Nat.reduceBEq, Nat.reduceBneDiff, Int.reduceToNat, Int.toNat_natCast] at hb; try simp only [go_sem, ↓reduceIte, reduceCtorEq, Nat.reduceAdd, Nat.reduceMul, Nat.reduceSub, Nat.reduceLT, Nat.reduceLeDiff, Nat.reduceEqDiff, Nat.reduceBEq, Nat.reduceBneDiff, Int.reduceToNat, Int.toNat_natCast, hb])
      | (simp only [appK, appOsK, go_sem, ↓reduceIte, reduceCtorEq, Nat.reduceAdd, Nat.reduceMul, Nat.reduceSub, Nat.reduceLT, Nat.reduceLeDiff, Nat.reduceEqDiff, Nat.reduceBEq, Nat.reduceBneDiff, Int.reduceToNat, Int.toNat_natCast])
      | fail
    · have hs : srchTo f none cols (j + 1) = srchTo f none cols j := by rw [srchTo, if_neg]; rw [allowed, if_pos (by omega), hc]; simp
      refine Rnd.drop ?_
      refine Rnd.sub (wid m + 1 - (j + 1)) (by omega) ((hI _ _).2 ⟨j + 1, rfl, by omega, rfl⟩) (by rw [hs]; repeat' (first | exact rfl | exact trivial | exact int_eq (by omega) | exact int_eq (by (rw [i64_wrap] <;> omega)) | constructor))
    · have hal : allowed none cols ((j : Int) - 1) = true := by rw [allowed, if_pos (by omega)]; simpa using ‹¬ none = false›
      refine Call.freeze_ints 1 .i64 (cols ++ [(j : Int) - 1]) (by simp) rfl (by simp) (blk := .svs (cols.map (fun n => SV.sc (.int .i64 n)) ++ [SV.sc (.int .i64 ((j : Int) - 1))])) (by simp only [go_sem, ↓reduceIte, reduceCtorEq, Nat.reduceAdd, Nat.reduceMul, Nat.reduceSub, Nat.reduceLT, Nat.reduceLeDiff, Nat.reduceEqDiff, Nat.reduceBEq, Nat.reduceBneDiff, Int.reduceToNat, Int.toNat_natCast, hb]) (by simp [Blk.cells]) ?_
      simp only [go_sem, ↓reduceIte, reduceCtorEq, Nat.reduceAdd, Nat.reduceMul, Nat.reduceSub, Nat.reduceLT, Nat.reduceLeDiff, Nat.reduceEqDiff, Nat.reduceBEq, Nat.reduceBneDiff, Int.reduceToNat, Int.toNat_natCast]
      have hrec := ih (cols ++ [(j : Int) - 1]) (by simp; omega) (snoc_lt hcol (by omega))
      rcases hfx : f (cols ++ [(j : Int) - 1]) with _ | n
      · rw [hfx] at hrec
        have hs : srchTo f none cols (j + 1) = srchTo f none cols j := by rw [srchTo, if_pos hal, hfx]; rfl
        repeat' first
          | (refine SW.seq_k fun K hK => ?_)
          | (refine SW.block ?_)
          | (refine SW.region ?_; simp only [go_sem, ↓reduceIte, reduceCtorEq, Nat.reduceAdd, Nat.reduceMul, Nat.reduceSub, Nat.reduceLT, Nat.reduceLeDiff, Nat.reduceEqDiff, Nat.reduceBEq, Nat.reduceBneDiff, Int.reduceToNat, Int.toNat_natCast])
          | (refine SW.regionD (Checked.mixed Try.checked) (by kernel_rfl) ?_; simp only [go_sem, ↓reduceIte, reduceCtorEq, Nat.reduceAdd, Nat.reduceMul, Nat.reduceSub, Nat.reduceLT, Nat.reduceLeDiff, Nat.reduceEqDiff, Nat.reduceBEq, Nat.reduceBneDiff, Int.reduceToNat, Int.toNat_natCast])
          | (refine SW.cond ?_; simp only [go_sem, ↓reduceIte, reduceCtorEq, Nat.reduceAdd, Nat.reduceMul, Nat.reduceSub, Nat.reduceLT, Nat.reduceLeDiff, Nat.reduceEqDiff, Nat.reduceBEq, Nat.reduceBneDiff, Int.reduceToNat, Int.toNat_natCast])
          | (refine SW.skip ?_; try simp only [go_sem, ↓reduceIte, reduceCtorEq, Nat.reduceAdd, Nat.reduceMul, Nat.reduceSub, Nat.reduceLT, Nat.reduceLeDiff, Nat.reduceEqDiff, Nat.reduceBEq, Nat.reduceBneDiff, Int.reduceToNat, Int.toNat_natCast])
          | (refine SW.exit ?_; try simp only [go_sem, ↓reduceIte, reduceCtorEq, Nat.reduceAdd, Nat.reduceMul, Nat.reduceSub, Nat.reduceLT, Nat.reduceLeDiff, Nat.reduceEqDiff, Nat.reduceBEq, Nat.reduceBneDiff, Int.reduceToNat, Int.toNat_natCast])
          | (refine SW.ret ?_; try simp only [go_sem, ↓reduceIte, reduceCtorEq, Nat.reduceAdd, Nat.reduceMul, Nat.reduceSub, Nat.reduceLT, Nat.reduceLeDiff, Nat.reduceEqDiff, Nat.reduceBEq, Nat.reduceBneDiff, Int.reduceToNat, Int.toNat_natCast])
          | (refine And.intro (by omega) ?_)
          | (refine ifI (fun hc => ?_) (fun hc => ?_) <;> first | (exfalso; omega) | skip)
          | (first | (apply hK; clear hK K) | (clear hK K; apply hK; clear hK K) | (clear hK K; clear hK K; apply hK; clear hK K) | (clear hK K; clear hK K; clear hK K; apply hK; clear hK K) | (clear hK K; clear hK K; clear hK K; clear hK K; apply hK; clear hK K) | (clear hK K; clear hK K; clear hK K; clear hK K; clear hK K; apply hK; clear hK K))
          | (refine Call.of_pure (hrec) ?_; try simp only [go_sem, ↓reduceIte, reduceCtorEq, Nat.reduceAdd, Nat.reduceMul, Nat.reduceSub, Nat.reduceLT, Nat.reduceLeDiff, Nat.reduceEqDiff, Nat.reduceBEq, Nat.reduceBneDiff, Int.reduceToNat, Int.toNat_natCast])
          | (refine ⟨_, hrec, ?_⟩; try simp only [go_sem, ↓reduceIte, reduceCtorEq, Nat.reduceAdd, Nat.reduceMul, Nat.reduceSub, Nat.reduceLT, Nat.reduceLeDiff, Nat.reduceEqDiff, Nat.reduceBEq, Nat.reduceBneDiff, Int.reduceToNat, Int.toNat_natCast])
          | fail
        refine Rnd.drop ?_
        refine Rnd.sub (wid m + 1 - (j + 1)) (by omega) ((hI _ _).2 ⟨j + 1, rfl, by omega, rfl⟩) (by rw [hs]; repeat' (first | exact rfl | exact trivial | exact int_eq (by omega) | exact int_eq (by (rw [i64_wrap] <;> omega)) | constructor))
      · rw [hfx] at hrec
        rcases hac : srchTo f none cols j with _ | b0
        · have hs : srchTo f none cols (j + 1) = some n := by rw [srchTo, if_pos hal, hfx, hac]; rfl
          repeat' first
            | (refine SW.seq_k fun K hK => ?_)
            | (refine SW.block ?_)
            | (refine SW.region ?_; simp only [go_sem, ↓reduceIte, reduceCtorEq, Nat.reduceAdd, Nat.reduceMul, Nat.reduceSub, Nat.reduceLT, Nat.reduceLeDiff, Nat.reduceEqDiff, Nat.reduceBEq, Nat.reduceBneDiff, Int.reduceToNat, Int.toNat_natCast])
            | (refine SW.regionD (Checked.mixed Try.checked) (by kernel_rfl) ?_; simp only [go_sem, ↓reduceIte, reduceCtorEq, Nat.reduceAdd, Nat.reduceMul, Nat.reduceSub, Nat.reduceLT, Nat.reduceLeDiff, Nat.reduceEqDiff, Nat.reduceBEq, Nat.reduceBneDiff, Int.reduceToNat, Int.toNat_natCast])
            | (refine SW.cond ?_; simp only [go_sem, ↓reduceIte, reduceCtorEq, Nat.reduceAdd, Nat.reduceMul, Nat.reduceSub, Nat.reduceLT, Nat.reduceLeDiff, Nat.reduceEqDiff, Nat.reduceBEq, Nat.reduceBneDiff, Int.reduceToNat, Int.toNat_natCast])
            | (refine SW.skip ?_; try simp only [go_sem, ↓reduceIte, reduceCtorEq, Nat.reduceAdd, Nat.reduceMul, Nat.reduceSub, Nat.reduceLT, Nat.reduceLeDiff, Nat.reduceEqDiff, Nat.reduceBEq, Nat.reduceBneDiff, Int.reduceToNat, Int.toNat_natCast])
            | (refine SW.exit ?_; try simp only [go_sem, ↓reduceIte, reduceCtorEq, Nat.reduceAdd, Nat.reduceMul, Nat.reduceSub, Nat.reduceLT, Nat.reduceLeDiff, Nat.reduceEqDiff, Nat.reduceBEq, Nat.reduceBneDiff, Int.reduceToNat, Int.toNat_natCast])
            | (refine SW.ret ?_; try simp only [go_sem, ↓reduceIte, reduceCtorEq, Nat.reduceAdd, Nat.reduceMul, Nat.reduceSub, Nat.reduceLT, Nat.reduceLeDiff, Nat.reduceEqDiff, Nat.reduceBEq, Nat.reduceBneDiff, Int.reduceToNat, Int.toNat_natCast])
            | (refine And.intro (by omega) ?_)
            | (refine ifI (fun hc => ?_) (fun hc => ?_) <;> first | (exfalso; omega) | skip)
            | (first | (apply hK; clear hK K) | (clear hK K; apply hK; clear hK K) | (clear hK K; clear hK K; apply hK; clear hK K) | (clear hK K; clear hK K; clear hK K; apply hK; clear hK K) | (clear hK K; clear hK K; clear hK K; clear hK K; apply hK; clear hK K) | (clear hK K; clear hK K; clear hK K; clear hK K; clear hK K; apply hK; clear hK K))
            | (refine Call.of_pure (hrec) ?_; try simp only [go_sem, ↓reduceIte, reduceCtorEq, Nat.reduceAdd, Nat.reduceMul, Nat.reduceSub, Nat.reduceLT, Nat.reduceLeDiff, Nat.reduceEqDiff, Nat.reduceBEq, Nat.reduceBneDiff, Int.reduceToNat, Int.toNat_natCast])
            | (refine ⟨_, hrec, ?_⟩; try simp only [go_sem, ↓reduceIte, reduceCtorEq, Nat.reduceAdd, Nat.reduceMul, Nat.reduceSub, Nat.reduceLT, Nat.reduceLeDiff, Nat.reduceEqDiff, Nat.reduceBEq, Nat.reduceBneDiff, Int.reduceToNat, Int.toNat_natCast])
            | fail
          refine Rnd.drop ?_
          refine Rnd.sub (wid m + 1 - (j + 1)) (by omega) ((hI _ _).2 ⟨j + 1, rfl, by omega, rfl⟩) (by rw [hs]; repeat' (first | exact rfl | exact trivial | exact int_eq (by omega) | exact int_eq (by (rw [i64_wrap] <;> omega)) | constructor))
        · have hs : srchTo f none cols (j + 1) = if b0 < n then some n else some b0 := by rw [srchTo, if_pos hal, hfx, hac]; rfl
          repeat' first
            | (refine SW.seq_k fun K hK => ?_)
            | (refine SW.block ?_)
            | (refine SW.region ?_; simp only [go_sem, ↓reduceIte, reduceCtorEq, Nat.reduceAdd, Nat.reduceMul, Nat.reduceSub, Nat.reduceLT, Nat.reduceLeDiff, Nat.reduceEqDiff, Nat.reduceBEq, Nat.reduceBneDiff, Int.reduceToNat, Int.toNat_natCast])
            | (refine SW.regionD (Checked.mixed Try.checked) (by kernel_rfl) ?_; simp only [go_sem, ↓reduceIte, reduceCtorEq, Nat.reduceAdd, Nat.reduceMul, Nat.reduceSub, Nat.reduceLT, Nat.reduceLeDiff, Nat.reduceEqDiff, Nat.reduceBEq, Nat.reduceBneDiff, Int.reduceToNat, Int.toNat_natCast])
            | (refine SW.cond ?_; simp only [go_sem, ↓reduceIte, reduceCtorEq, Nat.reduceAdd, Nat.reduceMul, Nat.reduceSub, Nat.reduceLT, Nat.reduceLeDiff, Nat.reduceEqDiff, Nat.reduceBEq, Nat.reduceBneDiff, Int.reduceToNat, Int.toNat_natCast])
            | (refine SW.skip ?_; try simp only [go_sem, ↓reduceIte, reduceCtorEq, Nat.reduceAdd, Nat.reduceMul, Nat.reduceSub, Nat.reduceLT, Nat.reduceLeDiff, Nat.reduceEqDiff, Nat.reduceBEq, Nat.reduceBneDiff, Int.reduceToNat, Int.toNat_natCast])
            | (refine SW.exit ?_; try simp only [go_sem, ↓reduceIte, reduceCtorEq, Nat.reduceAdd, Nat.reduceMul, Nat.reduceSub, Nat.reduceLT, Nat.reduceLeDiff, Nat.reduceEqDiff, Nat.reduceBEq, Nat.reduceBneDiff, Int.reduceToNat, Int.toNat_natCast])
            | (refine SW.ret ?_; try simp only [go_sem, ↓reduceIte, reduceCtorEq, Nat.reduceAdd, Nat.reduceMul, Nat.reduceSub, Nat.reduceLT, Nat.reduceLeDiff, Nat.reduceEqDiff, Nat.reduceBEq, Nat.reduceBneDiff, Int.reduceToNat, Int.toNat_natCast])
            | (refine And.intro (by omega) ?_)
            | (refine ifI (fun hc => ?_) (fun hc => ?_) <;> first | (exfalso; omega) | skip)
            | (first | (apply hK; clear hK K) | (clear hK K; apply hK; clear hK K) | (clear hK K; clear hK K; apply hK; clear hK K) | (clear hK K; clear hK K; clear hK K; apply hK; clear hK K) | (clear hK K; clear hK K; clear hK K; clear hK K; apply hK; clear hK K) | (clear hK K; clear hK K; clear hK K; clear hK K; clear hK K; apply hK; clear hK K))
            | (refine Call.of_pure (hrec) ?_; try simp only [go_sem, ↓reduceIte, reduceCtorEq, Nat.reduceAdd, Nat.reduceMul, Nat.reduceSub, Nat.reduceLT, Nat.reduceLeDiff, Nat.reduceEqDiff, Nat.reduceBEq, Nat.reduceBneDiff, Int.reduceToNat, Int.toNat_natCast])
            | (refine ⟨_, hrec, ?_⟩; try simp only [go_sem, ↓reduceIte, reduceCtorEq, Nat.reduceAdd, Nat.reduceMul, Nat.reduceSub, Nat.reduceLT, Nat.reduceLeDiff, Nat.reduceEqDiff, Nat.reduceBEq, Nat.reduceBneDiff, Int.reduceToNat, Int.toNat_natCast])
            | fail
          · rw [if_pos (by assumption)] at hs
            refine Rnd.drop ?_
            refine Rnd.sub (wid m + 1 - (j + 1)) (by omega) ((hI _ _).2 ⟨j + 1, rfl, by omega, rfl⟩) (by rw [hs]; repeat' (first | exact rfl | exact trivial | exact int_eq (by omega) | exact int_eq (by (rw [i64_wrap] <;> omega)) | constructor))
          · rw [if_neg (by assumption)] at hs
            refine Rnd.drop ?_
            refine Rnd.sub (wid m + 1 - (j + 1)) (by omega) ((hI _ _).2 ⟨j + 1, rfl, by omega, rfl⟩) (by rw [hs]; repeat' (first | exact rfl | exact trivial | exact int_eq (by omega) | exact int_eq (by (rw [i64_wrap] <;> omega)) | constructor))
    · have hs : srchTo f none cols (j + 1) = srchTo f none cols j := by rw [srchTo, if_neg]; rw [allowed, if_neg (by omega)]; simpa using ‹(j : Int) - 1 ∈ cols›
      refine Rnd.drop ?_
      refine Rnd.sub (wid m + 1 - (j + 1)) (by omega) ((hI _ _).2 ⟨j + 1, rfl, by omega, rfl⟩) (by rw [hs]; repeat' (first | exact rfl | exact trivial | exact int_eq (by omega) | exact int_eq (by (rw [i64_wrap] <;> omega)) | constructor))
    · have hal : allowed none cols ((j : Int) - 1) = true := by rw [allowed, if_neg (by omega)]; simpa using ‹¬ (j : Int) - 1 ∈ cols›
      refine Call.freeze_ints 1 .i64 (cols ++ [(j : Int) - 1]) (by simp) rfl (by simp) (blk := .svs (cols.map (fun n => SV.sc (.int .i64 n)) ++ [SV.sc (.int .i64 ((j : Int) - 1))])) (by simp only [go_sem, ↓reduceIte, reduceCtorEq, Nat.reduceAdd, Nat.reduceMul, Nat.reduceSub, Nat.reduceLT, Nat.reduceLeDiff, Nat.reduceEqDiff, Nat.reduceBEq, Nat.reduceBneDiff, Int.reduceToNat, Int.toNat_natCast, hb]) (by simp [Blk.cells]) ?_
      simp only [go_sem, ↓reduceIte, reduceCtorEq, Nat.reduceAdd, Nat.reduceMul, Nat.reduceSub, Nat.reduceLT, Nat.reduceLeDiff, Nat.reduceEqDiff, Nat.reduceBEq, Nat.reduceBneDiff, Int.reduceToNat, Int.toNat_natCast]
      have hrec := ih (cols ++ [(j : Int) - 1]) (by simp; omega) (snoc_lt hcol (by omega))
      rcases hfx : f (cols ++ [(j : Int) - 1]) with _ | n
      · rw [hfx] at hrec
        have hs : srchTo f none cols (j + 1) = srchTo f none cols j := by rw [srchTo, if_pos hal, hfx]; rfl
        repeat' first
          | (refine SW.seq_k fun K hK => ?_)
          | (refine SW.block ?_)
          | (refine SW.region ?_; simp only [go_sem, ↓reduceIte, reduceCtorEq, Nat.reduceAdd, Nat.reduceMul, Nat.reduceSub, Nat.reduceLT, Nat.reduceLeDiff, Nat.reduceEqDiff, Nat.reduceBEq, Nat.reduceBneDiff, Int.reduceToNat, Int.toNat_natCast])
          | (refine SW.regionD (Checked.mixed Try.checked) (by kernel_rfl) ?_; simp only [go_sem, ↓reduceIte, reduceCtorEq, Nat.reduceAdd, Nat.reduceMul, Nat.reduceSub, Nat.reduceLT, Nat.reduceLeDiff, Nat.reduceEqDiff, Nat.reduceBEq, Nat.reduceBneDiff, Int.reduceToNat, Int.toNat_natCast])
          | (refine SW.cond ?_; simp only [go_sem, ↓reduceIte, reduceCtorEq, Nat.reduceAdd, Nat.reduceMul, Nat.reduceSub, Nat.reduceLT, Nat.reduceLeDiff, Nat.reduceEqDiff, Nat.reduceBEq, Nat.reduceBneDiff, Int.reduceToNat, Int.toNat_natCast])
          | (refine SW.skip ?_; try simp only [go_sem, ↓reduceIte, reduceCtorEq, Nat.reduceAdd, Nat.reduceMul, Nat.reduceSub, Nat.reduceLT, Nat.reduceLeDiff, Nat.reduceEqDiff, Nat.reduceBEq, Nat.reduceBneDiff, Int.reduceToNat, Int.toNat_natCast])
          | (refine SW.exit ?_; try simp only [go_sem, ↓reduceIte, reduceCtorEq, Nat.reduceAdd, Nat.reduceMul, Nat.reduceSub, Nat.reduceLT, Nat.reduceLeDiff, Nat.reduceEqDiff, Nat.reduceBEq, Nat.reduceBneDiff, Int.reduceToNat, Int.toNat_natCast])
          | (refine SW.ret ?_; try simp only [go_sem, ↓reduceIte, reduceCtorEq, Nat.reduceAdd, Nat.reduceMul, Nat.reduceSub, Nat.reduceLT, Nat.reduceLeDiff, Nat.reduceEqDiff, Nat.reduceBEq, Nat.reduceBneDiff, Int.reduceToNat, Int.toNat_natCast])
          | (refine And.intro (by omega) ?_)
          | (refine ifI (fun hc => ?_) (fun hc => ?_) <;> first | (exfalso; omega) | skip)
          | (first | (apply hK; clear hK K) | (clear hK K; apply hK; clear hK K) | (clear hK K; clear hK K; apply hK; clear hK K) | (clear hK K; clear hK K; clear hK K; apply hK; clear hK K) | (clear hK K; clear hK K; clear hK K; clear hK K; apply hK; clear hK K) | (clear hK K; clear hK K; clear hK K; clear hK K; clear hK K; apply hK; clear hK K))
          | (refine Call.of_pure (hrec) ?_; try simp only [go_sem, ↓reduceIte, reduceCtorEq, Nat.reduceAdd, Nat.reduceMul, Nat.reduceSub, Nat.reduceLT, Nat.reduceLeDiff, Nat.reduceEqDiff, Nat.reduceBEq, Nat.reduceBneDiff, Int.reduceToNat, Int.toNat_natCast])
          | (refine ⟨_, hrec, ?_⟩; try simp only [go_sem, ↓reduceIte, reduceCtorEq, Nat.reduceAdd, Nat.reduceMul, Nat.reduceSub, Nat.reduceLT, Nat.reduceLeDiff, Nat.reduceEqDiff, Nat.reduceBEq, Nat.reduceBneDiff, Int.reduceToNat, Int.toNat_natCast])
          | fail
        refine Rnd.drop ?_
        refine Rnd.sub (wid m + 1 - (j + 1)) (by omega) ((hI _ _).2 ⟨j + 1, rfl, by omega, rfl⟩) (by rw [hs]; repeat' (first | exact rfl | exact trivial | exact int_eq (by omega) | exact int_eq (by (rw [i64_wrap] <;> omega)) | constructor))
      · rw [hfx] at hrec
        rcases hac : srchTo f none cols j with _ | b0
        · have hs : srchTo f none cols (j + 1) = some n := by rw [srchTo, if_pos hal, hfx, hac]; rfl
          repeat' first
            | (refine SW.seq_k fun K hK => ?_)
            | (refine SW.block ?_)
            | (refine SW.region ?_; simp only [go_sem, ↓reduceIte, reduceCtorEq, Nat.reduceAdd, Nat.reduceMul, Nat.reduceSub, Nat.reduceLT, Nat.reduceLeDiff, Nat.reduceEqDiff, Nat.reduceBEq, Nat.reduceBneDiff, Int.reduceToNat, Int.toNat_natCast])
            | (refine SW.regionD (Checked.mixed Try.checked) (by kernel_rfl) ?_; simp only [go_sem, ↓reduceIte, reduceCtorEq, Nat.reduceAdd, Nat.reduceMul, Nat.reduceSub, Nat.reduceLT, Nat.reduceLeDiff, Nat.reduceEqDiff, Nat.reduceBEq, Nat.reduceBneDiff, Int.reduceToNat, Int.toNat_natCast])
            | (refine SW.cond ?_; simp only [go_sem, ↓reduceIte, reduceCtorEq, Nat.reduceAdd, Nat.reduceMul, Nat.reduceSub, Nat.reduceLT, Nat.reduceLeDiff, Nat.reduceEqDiff, Nat.reduceBEq, Nat.reduceBneDiff, Int.reduceToNat, Int.toNat_natCast])
            | (refine SW.skip ?_; try simp only [go_sem, ↓reduceIte, reduceCtorEq, Nat.reduceAdd, Nat.reduceMul, Nat.reduceSub, Nat.reduceLT, Nat.reduceLeDiff, Nat.reduceEqDiff, Nat.reduceBEq, Nat.reduceBneDiff, Int.reduceToNat, Int.toNat_natCast])
            | (refine SW.exit ?_; try simp only [go_sem, ↓reduceIte, reduceCtorEq, Nat.reduceAdd, Nat.reduceMul, Nat.reduceSub, Nat.reduceLT, Nat.reduceLeDiff, Nat.reduceEqDiff, Nat.reduceBEq, Nat.reduceBneDiff, Int.reduceToNat, Int.toNat_natCast])
            | (refine SW.ret ?_; try simp only [go_sem, ↓reduceIte, reduceCtorEq, Nat.reduceAdd, Nat.reduceMul, Nat.reduceSub, Nat.reduceLT, Nat.reduceLeDiff, Nat.reduceEqDiff, Nat.reduceBEq, Nat.reduceBneDiff, Int.reduceToNat, Int.toNat_natCast])
            | (refine And.intro (by omega) ?_)
            | (refine ifI (fun hc => ?_) (fun hc => ?_) <;> first | (exfalso; omega) | skip)
            | (first | (apply hK; clear hK K) | (clear hK K; apply hK; clear hK K) | (clear hK K; clear hK K; apply hK; clear hK K) | (clear hK K; clear hK K; clear hK K; apply hK; clear hK K) | (clear hK K; clear hK K; clear hK K; clear hK K; apply hK; clear hK K) | (clear hK K; clear hK K; clear hK K; clear hK K; clear hK K; apply hK; clear hK K))
            | (refine Call.of_pure (hrec) ?_; try simp only [go_sem, ↓reduceIte, reduceCtorEq, Nat.reduceAdd, Nat.reduceMul, Nat.reduceSub, Nat.reduceLT, Nat.reduceLeDiff, Nat.reduceEqDiff, Nat.reduceBEq, Nat.reduceBneDiff, Int.reduceToNat, Int.toNat_natCast])
            | (refine ⟨_, hrec, ?_⟩; try simp only [go_sem, ↓reduceIte, reduceCtorEq, Nat.reduceAdd, Nat.reduceMul, Nat.reduceSub, Nat.reduceLT, Nat.reduceLeDiff, Nat.reduceEqDiff, Nat.reduceBEq, Nat.reduceBneDiff, Int.reduceToNat, Int.toNat_natCast])
            | fail
          refine Rnd.drop ?_
          refine Rnd.sub (wid m + 1 - (j + 1)) (by omega) ((hI _ _).2 ⟨j + 1, rfl, by omega, rfl⟩) (by rw [hs]; repeat' (first | exact rfl | exact trivial | exact int_eq (by omega) | exact int_eq (by (rw [i64_wrap] <;> omega)) | constructor))
        · have hs : srchTo f none cols (j + 1) = if b0 < n then some n else some b0 := by rw [srchTo, if_pos hal, hfx, hac]; rfl
          repeat' first
            | (refine SW.seq_k fun K hK => ?_)
            | (refine SW.block ?_)
            | (refine SW.region ?_; simp only [go_sem, ↓reduceIte, reduceCtorEq, Nat.reduceAdd, Nat.reduceMul, Nat.reduceSub, Nat.reduceLT, Nat.reduceLeDiff, Nat.reduceEqDiff, Nat.reduceBEq, Nat.reduceBneDiff, Int.reduceToNat, Int.toNat_natCast])
            | (refine SW.regionD (Checked.mixed Try.checked) (by kernel_rfl) ?_; simp only [go_sem, ↓reduceIte, reduceCtorEq, Nat.reduceAdd, Nat.reduceMul, Nat.reduceSub, Nat.reduceLT, Nat.reduceLeDiff, Nat.reduceEqDiff, Nat.reduceBEq, Nat.reduceBneDiff, Int.reduceToNat, Int.toNat_natCast])
            | (refine SW.cond ?_; simp only [go_sem, ↓reduceIte, reduceCtorEq, Nat.reduceAdd, Nat.reduceMul, Nat.reduceSub, Nat.reduceLT, Nat.reduceLeDiff, Nat.reduceEqDiff, Nat.reduceBEq, Nat.reduceBneDiff, Int.reduceToNat, Int.toNat_natCast])
            | (refine SW.skip ?_; try simp only [go_sem, ↓reduceIte, reduceCtorEq, Nat.reduceAdd, Nat.reduceMul, Nat.reduceSub, Nat.reduceLT, Nat.reduceLeDiff, Nat.reduceEqDiff, Nat.reduceBEq, Nat.reduceBneDiff, Int.reduceToNat, Int.toNat_natCast])
            | (refine SW.exit ?_; try simp only [go_sem, ↓reduceIte, reduceCtorEq, Nat.reduceAdd, Nat.reduceMul, Nat.reduceSub, Nat.reduceLT, Nat.reduceLeDiff, Nat.reduceEqDiff, Nat.reduceBEq, Nat.reduceBneDiff, Int.reduceToNat, Int.toNat_natCast])
            | (refine SW.ret ?_; try simp only [go_sem, ↓reduceIte, reduceCtorEq, Nat.reduceAdd, Nat.reduceMul, Nat.reduceSub, Nat.reduceLT, Nat.reduceLeDiff, Nat.reduceEqDiff, Nat.reduceBEq, Nat.reduceBneDiff, Int.reduceToNat, Int.toNat_natCast])
            | (refine And.intro (by omega) ?_)
            | (refine ifI (fun hc => ?_) (fun hc => ?_) <;> first | (exfalso; omega) | skip)
            | (first | (apply hK; clear hK K) | (clear hK K; apply hK; clear hK K) | (clear hK K; clear hK K; apply hK; clear hK K) | (clear hK K; clear hK K; clear hK K; apply hK; clear hK K) | (clear hK K; clear hK K; clear hK K; clear hK K; apply hK; clear hK K) | (clear hK K; clear hK K; clear hK K; clear hK K; clear hK K; apply hK; clear hK K))
            | (refine Call.of_pure (hrec) ?_; try simp only [go_sem, ↓reduceIte, reduceCtorEq, Nat.reduceAdd, Nat.reduceMul, Nat.reduceSub, Nat.reduceLT, Nat.reduceLeDiff, Nat.reduceEqDiff, Nat.reduceBEq, Nat.reduceBneDiff, Int.reduceToNat, Int.toNat_natCast])
            | (refine ⟨_, hrec, ?_⟩; try simp only [go_sem, ↓reduceIte, reduceCtorEq, Nat.reduceAdd, Nat.reduceMul, Nat.reduceSub, Nat.reduceLT, Nat.reduceLeDiff, Nat.reduceEqDiff, Nat.reduceBEq, Nat.reduceBneDiff, Int.reduceToNat, Int.toNat_natCast])
            | fail
          · rw [if_pos (by assumption)] at hs
            refine Rnd.drop ?_
            refine Rnd.sub (wid m + 1 - (j + 1)) (by omega) ((hI _ _).2 ⟨j + 1, rfl, by omega, rfl⟩) (by rw [hs]; repeat' (first | exact rfl | exact trivial | exact int_eq (by omega) | exact int_eq (by (rw [i64_wrap] <;> omega)) | constructor))
          · rw [if_neg (by assumption)] at hs
            refine Rnd.drop ?_
            refine Rnd.sub (wid m + 1 - (j + 1)) (by omega) ((hI _ _).2 ⟨j + 1, rfl, by omega, rfl⟩) (by rw [hs]; repeat' (first | exact rfl | exact trivial | exact int_eq (by omega) | exact int_eq (by (rw [i64_wrap] <;> omega)) | constructor))
    · refine ret_pure ?_; simp only [resL_tmp, resL_nil, tupOf, go_sem, ↓reduceIte, reduceCtorEq, Nat.reduceAdd, Nat.reduceMul, Nat.reduceSub, Nat.reduceLT, Nat.reduceLeDiff, Nat.reduceEqDiff, Nat.reduceBEq, Nat.reduceBneDiff, Int.reduceToNat, Int.toNat_natCast]
      obtain rfl : j = wid m + 1 := by omega
      rw [searchF, hf]
end Go.Proofs.Ytockdinjmnkdoaa
