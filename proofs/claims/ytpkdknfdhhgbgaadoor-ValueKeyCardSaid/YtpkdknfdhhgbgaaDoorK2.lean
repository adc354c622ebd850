/- Contract: Key of the program, of texts. -/
import Derived.Test.YtpkdknfdhhgbgaaDoorK1
import Derived.Test.YtpkdknfdhhgbgaaDoorZ10
set_option linter.unusedSimpArgs false
set_option linter.unusedVariables false
set_option linter.unusedSectionVars false
namespace Go.Ab
open Go Go.Ab.A01
theorem escL_step {l : List UInt8} {j : Nat} (h : j < l.length) : escL (l.take (j + 1)) = escL (l.take j) ++ (if l.getD j 0 = 0 then [0, 255] else [l.getD j 0]) := by
  unfold escL
  rw [List.take_add_one, List.flatMap_append]
  simp [List.getD_eq_getElem?_getD, h]
theorem escL_le (l : List UInt8) : (escL l).length ≤ 2 * l.length := by
  induction l with
  | nil => exact Nat.le_refl _
  | cons c l ih =>
    rw [escL_cons, List.length_append, List.length_cons]
    split
    · simp only [List.length_cons, List.length_nil]; omega
    · simp only [List.length_cons, List.length_nil]; omega
end Go.Ab
namespace Go.Proofs.YtpkdknfdhhgbgaaDoor
open Go Go.Ab Go.Ab.A01
variable [Gl] [Tabs]

set_option maxHeartbeats 2000000 in
set_option maxRecDepth 20000 in
theorem key_text (s : ByteArray) (hs : s.size ≤ 200) (hv : vok 2 0 s = true) : PCall Tryd.prog 23 [VS 2 0 s] (.tup [Str (mkB (keyL 2 0 s)), I64 0]) := by
  have ls : s.data.toList.length = s.size := Array.length_toList
  have v := valid_p 2 0 s
  rw [hv] at v
  have u1 : IntKind.u8.wrap 2 = 2 := by decide
  have kl : keyL 2 0 s = (2 :: escL s.data.toList) ++ [0, 1] := rfl
  rw [kl]
  refine Call.enter' (N := 51) (rs := [.tmp 2, .tmp 3]) Tryd.func23 rfl rfl rfl (by decide) rfl ?_; simp only [argT]; have hD : (0 : Nat) = 0 := rfl
  repeat' first
    | (with_reducible refine And.intro (by omega) ?_)
    | (refine SW.seq_k fun K hK => ?_)
    | (refine SW.block ?_)
    | ((first
      | refine SW.region ?_
      | refine SW.regionD (Checked.mixed Tryd.checked) (by kernel_rfl) ?_
      | refine SW.cond ?_
      | refine SW.skip ?_
      | refine SW.exit ?_
      | refine SW.ret ?_
      | refine Call.of_pure (v) ?_
      | refine ⟨_, v, ?_⟩
      | (refine allF_i fun b hb => ?_; replace hD := And.intro hb hD; clear hb; simp only [fresh_cons, fresh_nil, and_true, ne_eq, neF] at hD)
      | simp only [appK, appOsK]); try simp only [go_sem, ↓reduceIte, reduceCtorEq, Nat.reduceAdd, Nat.reduceMul, Nat.reduceSub, Nat.reduceLT, Nat.reduceLeDiff, Nat.reduceEqDiff, Nat.reduceBEq, Nat.reduceBneDiff, Int.reduceToNat, Int.toNat_natCast, eq_self, decide_true, decide_false, Int.reduceEq, and_true, true_and, if_false_eq, if_true_eq, List.getElem?_cons_zero, List.getElem?_cons_succ, setAll, List.length_cons, List.length_nil, List.length_set, List.getD_cons_zero, List.getD_cons_succ, Nat.le_refl, Int.le_refl, Nat.beq_refl, or_self, true_or, or_true, List.drop_zero, hD, u1])
    | (refine And.intro (by omega) ?_)
    | (refine ifI (fun hc => ?_) (fun hc => ?_) <;> first | (exfalso; omega) | skip)
    | (first | (apply hK; clear hK K) | (clear hK K; apply hK; clear hK K) | (clear hK K; clear hK K; apply hK; clear hK K) | (clear hK K; clear hK K; clear hK K; apply hK; clear hK K) | (clear hK K; clear hK K; clear hK K; clear hK K; apply hK; clear hK K) | (clear hK K; clear hK K; clear hK K; clear hK K; clear hK K; apply hK; clear hK K))
    | fail
  rename_i b1 K hK
  obtain ⟨I, hI⟩ : ∃ I : Nat → St → Prop, ∀ k S, I k S ↔ (∃ (j b m : Nat) (blk : Blk), k = s.size - j ∧ j ≤ s.size ∧ fresh [(b1, .svs [I64 2, I64 0, Str s])] b ∧ m = (2 :: escL (s.data.toList.take j)).length ∧ blk.cells = byts (2 :: escL (s.data.toList.take j)) ∧
    S = ⟨[(1, .op b1 0), (4, .os b 0 m 1), (26, I64 s.size), (27, I64 j)], [(b, blk), (b1, .svs [I64 2, I64 0, Str s])]⟩) := ⟨fun k S => _, fun _ _ => Iff.rfl⟩
  refine SW.loop' I s.size ((hI _ _).2 ⟨0, b, 1, _, rfl, Nat.zero_le _, by simp only [fresh_cons, fresh_nil, and_true, ne_eq, neF]; simp_all, rfl, rfl, rfl⟩) (by repeat' (first | exact rfl | exact trivial | exact int_eq (by omega) | exact int_eq (by (rw [i64_wrap] <;> omega)) | constructor)) ?_
  clear hD
  intro k S hIn
  obtain ⟨j, b0, m, blk, rfl, hj, hfr, hm, hcells, rfl⟩ := (hI _ _).1 hIn
  clear hIn
  have hD := hfr
  simp only [fresh_cons, fresh_nil, and_true, ne_eq, neF] at hD
  have hB : Acc 1 (.os b0 0 m 1) [(b0, blk), (b1, .svs [I64 2, I64 0, Str s])] [(b1, .svs [I64 2, I64 0, Str s])] (2 :: escL (s.data.toList.take j)).length (byts (2 :: escL (s.data.toList.take j))) :=
    .inr ⟨b0, blk, hfr, hcells, by rw [Nat.mul_one, byts_length], by rw [hm], rfl⟩
  have le := escL_le (s.data.toList.take j)
  have l2 : (s.data.toList.take j).length ≤ s.size := by rw [List.length_take]; omega
  clear hcells
  have ie : ((j : Nat) : Int).toNat = j := Int.toNat_natCast _
  have i0 : (0 : Int) ≤ ((j : Nat) : Int) := by omega
  by_cases hlt : j < s.size
  · have h1i : ((j : Nat) : Int) < ((s.size : Nat) : Int) := by omega
    have w1 : IntKind.i64.wrap ((j : Int) + 1) = ((j + 1 : Nat) : Int) := by rw [i64_wrap (by omega) (by omega)]; omega
    have st := escL_step (l := s.data.toList) (j := j) (by omega)
    obtain ⟨c, hc⟩ : ∃ c, c = s.data.toList.getD j 0 := ⟨_, rfl⟩
    rw [← hc] at st
    replace hc := hc.symm
    by_cases h0 : c = 0
    · subst h0
      have z : (((0 : UInt8).toNat : Nat) : Int) = 0 := rfl
      repeat' first
        | ((with_reducible refine appK_byts2 (l2 := [0]) hB ?_ ?_ ?_ ?_ ?_ ?_ ?_ ?_ ?_); (iterate 8 (first | rfl | exact hD | exact hD.1 | exact hD.2.1 | exact hD.2.2.1 | (simp only [fresh_cons, fresh_nil, and_true, ne_eq, neF]; first | exact hD | exact hD.1 | exact hD.1.1 | exact hD.2) | exact Nat.succ_pos _ | (simp only [List.length_append, List.length_cons, List.length_nil]; omega))); intro b' blk' h' n3 hn3 hfr hfind hcells hcv hB' hle; clear hB; have hB := hB'; clear hB'; replace hD := And.intro hfr hD; clear hfr; (simp only [fresh_cons, fresh_nil, and_true, ne_eq, neF] at hD); (try simp only [go_sem, ↓reduceIte, reduceCtorEq, Nat.reduceAdd, Nat.reduceMul, Nat.reduceSub, Nat.reduceLT, Nat.reduceLeDiff, Nat.reduceEqDiff, Nat.reduceBEq, Nat.reduceBneDiff, Int.reduceToNat, Int.toNat_natCast, eq_self, decide_true, decide_false, Int.reduceEq, and_true, true_and, if_false_eq, if_true_eq, List.getElem?_cons_zero, List.getElem?_cons_succ, setAll, List.length_cons, List.length_nil, List.length_set, List.getD_cons_zero, List.getD_cons_succ, Nat.le_refl, Int.le_refl, Nat.beq_refl, or_self, true_or, or_true, List.drop_zero, hD] at hcv); simp only [go_sem, ↓reduceIte, reduceCtorEq, Nat.reduceAdd, Nat.reduceMul, Nat.reduceSub, Nat.reduceLT, Nat.reduceLeDiff, Nat.reduceEqDiff, Nat.reduceBEq, Nat.reduceBneDiff, Int.reduceToNat, Int.toNat_natCast, eq_self, decide_true, decide_false, Int.reduceEq, and_true, true_and, if_false_eq, if_true_eq, List.getElem?_cons_zero, List.getElem?_cons_succ, setAll, List.length_cons, List.length_nil, List.length_set, List.getD_cons_zero, List.getD_cons_succ, Nat.le_refl, Int.le_refl, Nat.beq_refl, or_self, true_or, or_true, List.drop_zero, hD, hfind, hcv]; (first | (apply hK; clear hK K) | (clear hK K; apply hK; clear hK K) | (clear hK K; clear hK K; apply hK; clear hK K) | (clear hK K; clear hK K; clear hK K; apply hK; clear hK K) | (clear hK K; clear hK K; clear hK K; clear hK K; apply hK; clear hK K) | (clear hK K; clear hK K; clear hK K; clear hK K; clear hK K; apply hK; clear hK K)); refine SW.le (hle _) ?_; clear hle hfind hcv)
        | ((with_reducible refine appK_byts2 (l2 := [255]) hB ?_ ?_ ?_ ?_ ?_ ?_ ?_ ?_ ?_); (iterate 8 (first | rfl | exact hD | exact hD.1 | exact hD.2.1 | exact hD.2.2.1 | (simp only [fresh_cons, fresh_nil, and_true, ne_eq, neF]; first | exact hD | exact hD.1 | exact hD.1.1 | exact hD.2) | exact Nat.succ_pos _ | (simp only [List.length_append, List.length_cons, List.length_nil]; omega))); intro b' blk' h' n3 hn3 hfr hfind hcells hcv hB' hle; clear hB; have hB := hB'; clear hB'; replace hD := And.intro hfr hD; clear hfr; (simp only [fresh_cons, fresh_nil, and_true, ne_eq, neF] at hD); (try simp only [go_sem, ↓reduceIte, reduceCtorEq, Nat.reduceAdd, Nat.reduceMul, Nat.reduceSub, Nat.reduceLT, Nat.reduceLeDiff, Nat.reduceEqDiff, Nat.reduceBEq, Nat.reduceBneDiff, Int.reduceToNat, Int.toNat_natCast, eq_self, decide_true, decide_false, Int.reduceEq, and_true, true_and, if_false_eq, if_true_eq, List.getElem?_cons_zero, List.getElem?_cons_succ, setAll, List.length_cons, List.length_nil, List.length_set, List.getD_cons_zero, List.getD_cons_succ, Nat.le_refl, Int.le_refl, Nat.beq_refl, or_self, true_or, or_true, List.drop_zero, hD] at hcv); simp only [go_sem, ↓reduceIte, reduceCtorEq, Nat.reduceAdd, Nat.reduceMul, Nat.reduceSub, Nat.reduceLT, Nat.reduceLeDiff, Nat.reduceEqDiff, Nat.reduceBEq, Nat.reduceBneDiff, Int.reduceToNat, Int.toNat_natCast, eq_self, decide_true, decide_false, Int.reduceEq, and_true, true_and, if_false_eq, if_true_eq, List.getElem?_cons_zero, List.getElem?_cons_succ, setAll, List.length_cons, List.length_nil, List.length_set, List.getD_cons_zero, List.getD_cons_succ, Nat.le_refl, Int.le_refl, Nat.beq_refl, or_self, true_or, or_true, List.drop_zero, hD, hfind, hcv]; (first | (apply hK; clear hK K) | (clear hK K; apply hK; clear hK K) | (clear hK K; clear hK K; apply hK; clear hK K) | (clear hK K; clear hK K; clear hK K; apply hK; clear hK K) | (clear hK K; clear hK K; clear hK K; clear hK K; apply hK; clear hK K) | (clear hK K; clear hK K; clear hK K; clear hK K; clear hK K; apply hK; clear hK K)); refine SW.le (hle _) ?_; clear hle hfind hcv)
        | (with_reducible refine And.intro (by omega) ?_)
        | (refine SW.seq_k fun K hK => ?_)
        | (refine SW.block ?_)
        | ((first
      | refine SW.region ?_
      | refine SW.regionD (Checked.mixed Tryd.checked) (by kernel_rfl) ?_
      | refine SW.cond ?_
      | refine SW.skip ?_
      | refine SW.exit ?_
      | refine SW.ret ?_
      | (refine allF_i fun b hb => ?_; replace hD := And.intro hb hD; clear hb; simp only [fresh_cons, fresh_nil, and_true, ne_eq, neF] at hD)
      | simp only [appK, appOsK]); try simp only [go_sem, ↓reduceIte, reduceCtorEq, Nat.reduceAdd, Nat.reduceMul, Nat.reduceSub, Nat.reduceLT, Nat.reduceLeDiff, Nat.reduceEqDiff, Nat.reduceBEq, Nat.reduceBneDiff, Int.reduceToNat, Int.toNat_natCast, eq_self, decide_true, decide_false, Int.reduceEq, and_true, true_and, if_false_eq, if_true_eq, List.getElem?_cons_zero, List.getElem?_cons_succ, setAll, List.length_cons, List.length_nil, List.length_set, List.getD_cons_zero, List.getD_cons_succ, Nat.le_refl, Int.le_refl, Nat.beq_refl, or_self, true_or, or_true, List.drop_zero, hD, h1i, ie, i0, w1, hc, z])
        | (refine And.intro (by omega) ?_)
        | (refine ifI (fun hc => ?_) (fun hc => ?_) <;> first | (exfalso; omega) | skip)
        | (first | (apply hK; clear hK K) | (clear hK K; apply hK; clear hK K) | (clear hK K; clear hK K; apply hK; clear hK K) | (clear hK K; clear hK K; clear hK K; apply hK; clear hK K) | (clear hK K; clear hK K; clear hK K; clear hK K; apply hK; clear hK K) | (clear hK K; clear hK K; clear hK K; clear hK K; clear hK K; apply hK; clear hK K))
        | (refine And.intro ?_ ?_)
        | fail
      rw [if_pos rfl] at st
      have e : 2 :: escL (s.data.toList.take j) ++ [0] ++ [255] = 2 :: escL (s.data.toList.take (j + 1)) := by rw [st]; simp
      rw [e] at hcells hB
      have hn : n3 = (2 :: escL (s.data.toList.take (j + 1))).length := by rw [← e]; assumption
      refine Rnd.sub (s.size - (j + 1)) (by omega) ((hI _ _).2 ⟨j + 1, _, _, _, rfl, by omega, by simp only [fresh_cons, fresh_nil, and_true, ne_eq, neF]; exact hD.1, hn, hcells, rfl⟩) (by repeat' (first | exact rfl | exact trivial | exact int_eq (by omega) | exact int_eq (by (rw [i64_wrap] <;> omega)) | constructor))
    · rw [if_neg h0] at st
      have z : ¬ ((c.toNat : Nat) : Int) = 0 := fun x => h0 (UInt8.toNat_inj.1 (show c.toNat = 0 by omega))
      repeat' first
        | ((with_reducible refine appK_byts2 (l2 := [c]) hB ?_ ?_ ?_ ?_ ?_ ?_ ?_ ?_ ?_); (iterate 8 (first | rfl | exact hD | exact hD.1 | exact hD.2.1 | exact hD.2.2.1 | (simp only [fresh_cons, fresh_nil, and_true, ne_eq, neF]; first | exact hD | exact hD.1 | exact hD.1.1 | exact hD.2) | exact Nat.succ_pos _ | (simp only [List.length_append, List.length_cons, List.length_nil]; omega))); intro b' blk' h' n3 hn3 hfr hfind hcells hcv hB' hle; clear hB; have hB := hB'; clear hB'; replace hD := And.intro hfr hD; clear hfr; (simp only [fresh_cons, fresh_nil, and_true, ne_eq, neF] at hD); (try simp only [go_sem, ↓reduceIte, reduceCtorEq, Nat.reduceAdd, Nat.reduceMul, Nat.reduceSub, Nat.reduceLT, Nat.reduceLeDiff, Nat.reduceEqDiff, Nat.reduceBEq, Nat.reduceBneDiff, Int.reduceToNat, Int.toNat_natCast, eq_self, decide_true, decide_false, Int.reduceEq, and_true, true_and, if_false_eq, if_true_eq, List.getElem?_cons_zero, List.getElem?_cons_succ, setAll, List.length_cons, List.length_nil, List.length_set, List.getD_cons_zero, List.getD_cons_succ, Nat.le_refl, Int.le_refl, Nat.beq_refl, or_self, true_or, or_true, List.drop_zero, hD] at hcv); simp only [go_sem, ↓reduceIte, reduceCtorEq, Nat.reduceAdd, Nat.reduceMul, Nat.reduceSub, Nat.reduceLT, Nat.reduceLeDiff, Nat.reduceEqDiff, Nat.reduceBEq, Nat.reduceBneDiff, Int.reduceToNat, Int.toNat_natCast, eq_self, decide_true, decide_false, Int.reduceEq, and_true, true_and, if_false_eq, if_true_eq, List.getElem?_cons_zero, List.getElem?_cons_succ, setAll, List.length_cons, List.length_nil, List.length_set, List.getD_cons_zero, List.getD_cons_succ, Nat.le_refl, Int.le_refl, Nat.beq_refl, or_self, true_or, or_true, List.drop_zero, hD, hfind, hcv]; (first | (apply hK; clear hK K) | (clear hK K; apply hK; clear hK K) | (clear hK K; clear hK K; apply hK; clear hK K) | (clear hK K; clear hK K; clear hK K; apply hK; clear hK K) | (clear hK K; clear hK K; clear hK K; clear hK K; apply hK; clear hK K) | (clear hK K; clear hK K; clear hK K; clear hK K; clear hK K; apply hK; clear hK K)); refine SW.le (hle _) ?_; clear hle hfind hcv)
        | (with_reducible refine And.intro (by omega) ?_)
        | (refine SW.seq_k fun K hK => ?_)
        | (refine SW.block ?_)
        | ((first
      | refine SW.region ?_
      | refine SW.regionD (Checked.mixed Tryd.checked) (by kernel_rfl) ?_
      | refine SW.cond ?_
      | refine SW.skip ?_
      | refine SW.exit ?_
      | refine SW.ret ?_
      | (refine allF_i fun b hb => ?_; replace hD := And.intro hb hD; clear hb; simp only [fresh_cons, fresh_nil, and_true, ne_eq, neF] at hD)
      | simp only [appK, appOsK]); try simp only [go_sem, ↓reduceIte, reduceCtorEq, Nat.reduceAdd, Nat.reduceMul, Nat.reduceSub, Nat.reduceLT, Nat.reduceLeDiff, Nat.reduceEqDiff, Nat.reduceBEq, Nat.reduceBneDiff, Int.reduceToNat, Int.toNat_natCast, eq_self, decide_true, decide_false, Int.reduceEq, and_true, true_and, if_false_eq, if_true_eq, List.getElem?_cons_zero, List.getElem?_cons_succ, setAll, List.length_cons, List.length_nil, List.length_set, List.getD_cons_zero, List.getD_cons_succ, Nat.le_refl, Int.le_refl, Nat.beq_refl, or_self, true_or, or_true, List.drop_zero, hD, h1i, ie, i0, w1, hc, z])
        | (refine And.intro (by omega) ?_)
        | (refine ifI (fun hc => ?_) (fun hc => ?_) <;> first | (exfalso; omega) | skip)
        | (first | (apply hK; clear hK K) | (clear hK K; apply hK; clear hK K) | (clear hK K; clear hK K; apply hK; clear hK K) | (clear hK K; clear hK K; clear hK K; apply hK; clear hK K) | (clear hK K; clear hK K; clear hK K; clear hK K; apply hK; clear hK K) | (clear hK K; clear hK K; clear hK K; clear hK K; clear hK K; apply hK; clear hK K))
        | (refine And.intro ?_ ?_)
        | fail
      have e : 2 :: escL (s.data.toList.take j) ++ [c] = 2 :: escL (s.data.toList.take (j + 1)) := by rw [st]; simp
      rw [e] at hcells hB
      have hn : n3 = (2 :: escL (s.data.toList.take (j + 1))).length := by rw [← e]; assumption
      refine Rnd.sub (s.size - (j + 1)) (by omega) ((hI _ _).2 ⟨j + 1, _, _, _, rfl, by omega, by simp only [fresh_cons, fresh_nil, and_true, ne_eq, neF]; exact hD.1, hn, hcells, rfl⟩) (by repeat' (first | exact rfl | exact trivial | exact int_eq (by omega) | exact int_eq (by (rw [i64_wrap] <;> omega)) | constructor))
  · have h1i : ¬ ((j : Nat) : Int) < ((s.size : Nat) : Int) := by omega
    rw [List.take_of_length_le (by omega)] at hB hm le
    repeat' first
      | ((with_reducible refine appK_byts2 (l2 := [0, 1]) hB ?_ ?_ ?_ ?_ ?_ ?_ ?_ ?_ ?_); (iterate 8 (first | rfl | exact hD | exact hD.1 | exact hD.2.1 | exact hD.2.2.1 | (simp only [fresh_cons, fresh_nil, and_true, ne_eq, neF]; first | exact hD | exact hD.1 | exact hD.1.1 | exact hD.2) | exact Nat.succ_pos _ | (simp only [List.length_append, List.length_cons, List.length_nil]; omega))); intro b' blk' h' n3 hn3 hfr hfind hcells hcv hB' hle; clear hB; have hB := hB'; clear hB'; replace hD := And.intro hfr hD; clear hfr; (simp only [fresh_cons, fresh_nil, and_true, ne_eq, neF] at hD); (try simp only [go_sem, ↓reduceIte, reduceCtorEq, Nat.reduceAdd, Nat.reduceMul, Nat.reduceSub, Nat.reduceLT, Nat.reduceLeDiff, Nat.reduceEqDiff, Nat.reduceBEq, Nat.reduceBneDiff, Int.reduceToNat, Int.toNat_natCast, eq_self, decide_true, decide_false, Int.reduceEq, and_true, true_and, if_false_eq, if_true_eq, List.getElem?_cons_zero, List.getElem?_cons_succ, setAll, List.length_cons, List.length_nil, List.length_set, List.getD_cons_zero, List.getD_cons_succ, Nat.le_refl, Int.le_refl, Nat.beq_refl, or_self, true_or, or_true, List.drop_zero, hD] at hcv); simp only [go_sem, ↓reduceIte, reduceCtorEq, Nat.reduceAdd, Nat.reduceMul, Nat.reduceSub, Nat.reduceLT, Nat.reduceLeDiff, Nat.reduceEqDiff, Nat.reduceBEq, Nat.reduceBneDiff, Int.reduceToNat, Int.toNat_natCast, eq_self, decide_true, decide_false, Int.reduceEq, and_true, true_and, if_false_eq, if_true_eq, List.getElem?_cons_zero, List.getElem?_cons_succ, setAll, List.length_cons, List.length_nil, List.length_set, List.getD_cons_zero, List.getD_cons_succ, Nat.le_refl, Int.le_refl, Nat.beq_refl, or_self, true_or, or_true, List.drop_zero, hD, hfind, hcv]; (first | (apply hK; clear hK K) | (clear hK K; apply hK; clear hK K) | (clear hK K; clear hK K; apply hK; clear hK K) | (clear hK K; clear hK K; clear hK K; apply hK; clear hK K) | (clear hK K; clear hK K; clear hK K; clear hK K; apply hK; clear hK K) | (clear hK K; clear hK K; clear hK K; clear hK K; clear hK K; apply hK; clear hK K)); refine SW.le (hle _) ?_; clear hle hfind; refine stop_i ?_)
      | (with_reducible refine And.intro (by omega) ?_)
      | (refine SW.seq_k fun K hK => ?_)
      | (refine SW.block ?_)
      | ((first
      | refine SW.region ?_
      | refine SW.regionD (Checked.mixed Tryd.checked) (by kernel_rfl) ?_
      | refine SW.cond ?_
      | refine SW.skip ?_
      | refine SW.exit ?_
      | refine SW.ret ?_
      | (refine allF_i fun b hb => ?_; replace hD := And.intro hb hD; clear hb; simp only [fresh_cons, fresh_nil, and_true, ne_eq, neF] at hD)
      | simp only [appK, appOsK]); try simp only [go_sem, ↓reduceIte, reduceCtorEq, Nat.reduceAdd, Nat.reduceMul, Nat.reduceSub, Nat.reduceLT, Nat.reduceLeDiff, Nat.reduceEqDiff, Nat.reduceBEq, Nat.reduceBneDiff, Int.reduceToNat, Int.toNat_natCast, eq_self, decide_true, decide_false, Int.reduceEq, and_true, true_and, if_false_eq, if_true_eq, List.getElem?_cons_zero, List.getElem?_cons_succ, setAll, List.length_cons, List.length_nil, List.length_set, List.getD_cons_zero, List.getD_cons_succ, Nat.le_refl, Int.le_refl, Nat.beq_refl, or_self, true_or, or_true, List.drop_zero, hD, h1i])
      | (refine And.intro (by omega) ?_)
      | (refine ifI (fun hc => ?_) (fun hc => ?_) <;> first | (exfalso; omega) | skip)
      | (first | (apply hK; clear hK K) | (clear hK K; apply hK; clear hK K) | (clear hK K; clear hK K; apply hK; clear hK K) | (clear hK K; clear hK K; clear hK K; apply hK; clear hK K) | (clear hK K; clear hK K; clear hK K; clear hK K; apply hK; clear hK K) | (clear hK K; clear hK K; clear hK K; clear hK K; clear hK K; apply hK; clear hK K))
      | (refine And.intro ?_ ?_)
      | fail
    refine ⟨?_⟩
    repeat' first
      | (with_reducible refine And.intro (by omega) ?_)
      | (refine SW.seq_k fun K hK => ?_)
      | (refine SW.block ?_)
      | ((first
      | refine SW.region ?_
      | refine SW.regionD (Checked.mixed Tryd.checked) (by kernel_rfl) ?_
      | refine SW.cond ?_
      | refine SW.skip ?_
      | refine SW.exit ?_
      | refine SW.ret ?_
      | (refine allF_i fun b hb => ?_; replace hD := And.intro hb hD; clear hb; simp only [fresh_cons, fresh_nil, and_true, ne_eq, neF] at hD)
      | simp only [appK, appOsK]); try simp only [go_sem, ↓reduceIte, reduceCtorEq, Nat.reduceAdd, Nat.reduceMul, Nat.reduceSub, Nat.reduceLT, Nat.reduceLeDiff, Nat.reduceEqDiff, Nat.reduceBEq, Nat.reduceBneDiff, Int.reduceToNat, Int.toNat_natCast, eq_self, decide_true, decide_false, Int.reduceEq, and_true, true_and, if_false_eq, if_true_eq, List.getElem?_cons_zero, List.getElem?_cons_succ, setAll, List.length_cons, List.length_nil, List.length_set, List.getD_cons_zero, List.getD_cons_succ, Nat.le_refl, Int.le_refl, Nat.beq_refl, or_self, true_or, or_true, List.drop_zero, hD, hcv])
      | (refine And.intro (by omega) ?_)
      | (refine ifI (fun hc => ?_) (fun hc => ?_) <;> first | (exfalso; omega) | skip)
      | (first | (apply hK; clear hK K) | (clear hK K; apply hK; clear hK K) | (clear hK K; clear hK K; apply hK; clear hK K) | (clear hK K; clear hK K; clear hK K; apply hK; clear hK K) | (clear hK K; clear hK K; clear hK K; clear hK K; apply hK; clear hK K) | (clear hK K; clear hK K; clear hK K; clear hK K; clear hK K; apply hK; clear hK K))
      | fail
    refine ret_pure ?_; simp only [resL_tmp, resL_nil, tupOf, go_sem, ↓reduceIte, reduceCtorEq, Nat.reduceAdd, Nat.reduceMul, Nat.reduceSub, Nat.reduceLT, Nat.reduceLeDiff, Nat.reduceEqDiff, Nat.reduceBEq, Nat.reduceBneDiff, Int.reduceToNat, Int.toNat_natCast, eq_self, decide_true, decide_false, Int.reduceEq, and_true, true_and, if_false_eq, if_true_eq, List.getElem?_cons_zero, List.getElem?_cons_succ, setAll, List.length_cons, List.length_nil, List.length_set, List.getD_cons_zero, List.getD_cons_succ, Nat.le_refl, Int.le_refl, Nat.beq_refl, or_self, true_or, or_true, List.drop_zero, hD]
    rfl
end Go.Proofs.YtpkdknfdhhgbgaaDoor
