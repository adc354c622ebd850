/- The law: statements. -/
import Derived.Test.YtajbifibhgppfaaDoorE8
set_option linter.unusedSimpArgs false
set_option linter.unusedVariables false
set_option linter.unusedSectionVars false
namespace Go.Proofs.YtajbifibhgppfaaDoor
open Go Go.Ab Go.Ab.A01 Go.Ab.A05
variable [Gl] [Tabs] [Syms]
theorem flCells_TS (l : List Tok) : ∀ n, n ≤ l.length → flCells (tokF l) n = cellsT (l.take n)
  | 0, _ => rfl
  | n + 1, h => by
    have ih := flCells_TS l n (by omega)
    have e : flCells (tokF l) (n + 1) = flCells (tokF l) n ++ tokF l n := by
      unfold flCells
      rw [List.range_succ, List.flatMap_append]
      simp
    have hn : n < l.length := h
    rw [e, ih, List.take_add_one, List.getElem?_eq_getElem hn]
    show _ = cellsT (l.take n ++ [l[n]])
    rw [cells_snoc]
    congr 1
    unfold tokF
    congr 1
    simp [List.getD_eq_getElem?_getD, hn]
theorem cellsT_single (l : List Tok) : (cellsT l).all single = true := by
  rw [List.all_eq_true]
  intro x hx
  obtain ⟨t, _, ht⟩ := List.mem_flatMap.1 hx
  simp only [tokC, List.mem_cons, List.not_mem_nil, or_false] at ht
  rcases ht with rfl | rfl | rfl | rfl | rfl | rfl | rfl <;> rfl
/-- An owned slice of tokens is handed to a call that reads it. -/
theorem Call.freezeT {b : Nat} {l : List Tok} {f : FuncId} {Q : SV → Heap → Prop} (hc : Ab.Call Tryd.prog f [TS l] [] Q) : Ab.Call Tryd.prog f [.os b 0 l.length 7] [(b, .svs (cellsT l))] Q := by
  refine Ab.Call.freeze (k := .svs (cellsT l)) (off := 0) (sz := 7) 0 (tokF l) (by simp) rfl (by rw [find_cons, if_pos rfl]) (by rw [Blk.len_svs, ← cells_len]; omega) (fun j hj => ?_) ?_
  · rw [Nat.zero_add, getN_take _ _ _ (by rw [Blk.len_svs, ← cells_len]; omega)]
    exact cells_at l j hj
  · rw [del_cons, if_pos rfl]
    exact hc

set_option maxHeartbeats 4000000 in
set_option maxRecDepth 20000 in
theorem law_statements (l : List Tok) (hl : l.length ≤ 9223372036854775807) : PCall Tryd.prog 8 [TS l] (SB true) := by
  have aw := awake_c
  have sh := short_r l 40 hl
  cases q1 : shortS l 40 with
  | false =>
    rw [q1] at sh
    refine Call.enter' (N := 63) (rs := [.tmp 2]) Tryd.func8 rfl rfl rfl (by decide) rfl ?_; simp only [argT]; have hD : (0 : Nat) = 0 := rfl
    repeat' first | (with_reducible refine And.intro (by omega) ?_) | (refine SW.seq_k fun K hK => ?_) | (refine SW.block ?_) | ((first | refine SW.region ?_ | refine SW.regionD (Checked.mixed Tryd.checked) (by kernel_rfl) ?_ | refine SW.cond ?_ | refine SW.skip ?_ | refine SW.exit ?_ | refine SW.ret ?_ | refine Call.of_pure (aw) ?_ | refine ⟨_, aw, ?_⟩ | refine Call.of_pure (sh) ?_ | refine ⟨_, sh, ?_⟩ | (refine allF_i fun b hb => ?_; replace hD := And.intro hb hD; clear hb; try simp only [fresh_cons, fresh_nil, and_true, ne_eq, neF] at hD) | simp only [appK, appOsK]); try simp only [go_sem, ↓reduceIte, reduceCtorEq, Nat.reduceAdd, Nat.reduceMul, Nat.reduceSub, Nat.reduceLT, Nat.reduceLeDiff, Nat.reduceEqDiff, Nat.reduceBEq, Nat.reduceBneDiff, Int.reduceToNat, Int.reduceEq, hD, true_implies]) | (refine And.intro (by omega) ?_) | (refine ifI (fun hc => ?_) (fun hc => ?_) <;> first | (exfalso; omega) | skip) | (first | (apply hK; clear hK K) | ((iterate 1 (clear hK K)); apply hK; clear hK K) | ((iterate 2 (clear hK K)); apply hK; clear hK K) | ((iterate 3 (clear hK K)); apply hK; clear hK K) | ((iterate 4 (clear hK K)); apply hK; clear hK K) | ((iterate 5 (clear hK K)); apply hK; clear hK K))
    refine ret_pure ?_; simp only [resL_tmp, resL_nil, tupOf, go_sem, ↓reduceIte, reduceCtorEq, Nat.reduceAdd, Nat.reduceMul, Nat.reduceSub, Nat.reduceLT, Nat.reduceLeDiff, Nat.reduceEqDiff, Nat.reduceBEq, Nat.reduceBneDiff, Int.reduceToNat, Int.reduceEq, hD]
  | true =>
    rw [q1] at sh
    unfold shortS at q1
    rw [Bool.and_eq_true, decide_eq_true_eq] at q1
    have hl40 : l.length ≤ 40 := by have := q1.1; omega
    have sp := statements_p l (by omega)
    have sr := statements_r l (by omega)
    have sl := st_law l
    have hin := stI_in l.length l 0 0 [] (Nat.zero_add _) (Nat.le_refl _) (fun p hp => absurd hp List.not_mem_nil)
    have hin2 : (∀ p ∈ (stRR l).1, p.1 ≤ p.2 ∧ p.2 ≤ l.length) ∧ (stRR l).1.length ≤ l.length := by
      unfold stRR
      split
      · exact ⟨fun p hp => absurd hp List.not_mem_nil, Nat.zero_le _⟩
      · refine ⟨hin.1, ?_⟩
        have := hin.2.2
        rw [List.length_nil, Nat.zero_add] at this
        exact this
    clear hin
    rw [sl] at sp
    generalize stRR l = X at *
    obtain ⟨P, ln, e⟩ := X
    simp only at hin2
    unfold stSV at sp
    unfold stSR at sr
    simp only at sp sr
    rw [List.length_map] at sp
    refine Call.enter' (N := 63) (rs := [.tmp 2]) Tryd.func8 rfl rfl rfl (by decide) rfl ?_; simp only [argT]; have hD : (0 : Nat) = 0 := rfl
    have fc := flCells_TS l l.length (Nat.le_refl _)
    rw [List.take_length] at fc
    have hall := cellsT_single l
    have b1 : l.length * 72 ≤ 140737488355328 := by omega
    have b2 : l.length * 104 ≤ 140737488355328 := by omega
    have b3 : l.length ≤ 140737488355328 := by omega
    repeat' first | ((with_reducible refine Call.freezeT ?_)) | (with_reducible refine And.intro (by omega) ?_) | (refine SW.seq_k fun K hK => ?_) | (refine SW.block ?_) | ((first | refine SW.region ?_ | refine SW.regionD (Checked.mixed Tryd.checked) (by kernel_rfl) ?_ | refine SW.cond ?_ | refine SW.skip ?_ | refine SW.exit ?_ | refine SW.ret ?_ | refine Call.of_pure (aw) ?_ | refine ⟨_, aw, ?_⟩ | refine Call.of_pure (sh) ?_ | refine ⟨_, sh, ?_⟩ | refine Call.of_pure (sp) ?_ | refine ⟨_, sp, ?_⟩ | refine Call.of_pure (sr) ?_ | refine ⟨_, sr, ?_⟩ | (refine allF_i fun b hb => ?_; replace hD := And.intro hb hD; clear hb; try simp only [fresh_cons, fresh_nil, and_true, ne_eq, neF] at hD) | simp only [appK, appOsK]); try simp only [go_sem, ↓reduceIte, reduceCtorEq, Nat.reduceAdd, Nat.reduceMul, Nat.reduceSub, Nat.reduceLT, Nat.reduceLeDiff, Nat.reduceEqDiff, Nat.reduceBEq, Nat.reduceBneDiff, Int.reduceToNat, Int.reduceEq, hD, true_implies, fc, hall, b1, b2, b3]) | (refine And.intro (by omega) ?_) | (refine ifI (fun hc => ?_) (fun hc => ?_) <;> first | (exfalso; omega) | skip) | (first | (apply hK; clear hK K) | ((iterate 1 (clear hK K)); apply hK; clear hK K) | ((iterate 2 (clear hK K)); apply hK; clear hK K) | ((iterate 3 (clear hK K)); apply hK; clear hK K) | ((iterate 4 (clear hK K)); apply hK; clear hK K) | ((iterate 5 (clear hK K)); apply hK; clear hK K))
    obtain ⟨I, hI⟩ : ∃ I : Nat → St → Prop, ∀ k S, I k S ↔ (∃ (i : Nat), k = P.length - i ∧ i ≤ P.length ∧ S = ⟨[(3, .fl P.length 1 (fun j => [TS ((P.map (subL l)).getD j [])])), (6, .fl P.length 1 (fun j => [subSV l (P.getD j (0, 0))])), (48, I64 P.length), (49, I64 i)], []⟩) := ⟨fun k S => _, fun _ _ => Iff.rfl⟩
    refine SW.loop' I P.length ((hI _ _).2 ⟨0, rfl, Nat.zero_le _, rfl⟩) (by repeat' (first | exact rfl | exact trivial | exact int_eq (by omega) | exact int_eq (by (rw [i64_wrap] <;> omega)) | constructor)) ?_
    intro k S hIn
    obtain ⟨i, rfl, hi, rfl⟩ := (hI _ _).1 hIn
    clear hIn
    have ie : ((i : Nat) : Int).toNat = i := Int.toNat_natCast _
    have i0 : (0 : Int) ≤ ((i : Nat) : Int) := by omega
    by_cases hlt : i < P.length
    · have hli : ((i : Nat) : Int) < ((P.length : Nat) : Int) := by omega
      have w1 : IntKind.i64.wrap ((i : Int) + 1) = ((i + 1 : Nat) : Int) := by rw [i64_wrap (by omega) (by omega)]; omega
      have hg : P.getD i (0, 0) = P[i] := by simp [List.getD_eq_getElem?_getD, hlt]
      have hgm : (P.map (subL l)).getD i [] = subL l (P.getD i (0, 0)) := by simp [List.getD_eq_getElem?_getD, hlt]
      have hp := hin2.1 _ (List.getElem_mem hlt)
      rw [← hg] at hp
      obtain ⟨p1, p2, gp⟩ : ∃ p1 p2, P.getD i (0, 0) = (p1, p2) := ⟨_, _, rfl⟩
      rw [gp] at hp hgm
      simp only at hp
      have hlen : (subL l (p1, p2)).length = p2 - p1 := by
        unfold subL
        simp only [List.length_take, List.length_drop]
        omega
      have sg := same_g (p2 - p1) (by omega) (tokF (subL l (p1, p2))) (fun j => tokF l (p1 + j)) (fun j => l.getD (p1 + j) tok0) (fun j hj => by
        unfold tokF subL
        simp only
        congr 1
        simp [List.getD_eq_getElem?_getD, hj]) (fun j hj => rfl)
      have hgm2 : TS ((P.map (subL l)).getD i []) = TS (subL l (p1, p2)) := by rw [hgm]
      have eT : TS (subL l (p1, p2)) = .fl (p2 - p1) 7 (tokF (subL l (p1, p2))) := by unfold TS; rw [hlen]
      rw [eT] at hgm2
      repeat' first | (with_reducible refine And.intro (by omega) ?_) | (refine SW.seq_k fun K hK => ?_) | (refine SW.block ?_) | ((first | refine SW.region ?_ | refine SW.regionZ (id := 10) (Checked.mixed Tryd.checked) ((.one 0 [0, 2, 3, 8, 9] (.one 1 [1, 2, 3, 8, 9] (.one 2 [2, 3, 8, 9] (.one 3 [3, 8, 9] (.one 4 [4, 6, 7, 8, 9] (.one 5 [5, 6, 7, 8, 9] (.one 6 [6, 7, 8, 9] (.one 7 [7, 8, 9] (.one 8 [8, 9] (.one 9 [9] .done)))))))))) : OZ) (by kernel_rfl) ?_ | refine SW.regionD (Checked.mixed Tryd.checked) (by kernel_rfl) ?_ | refine SW.cond ?_ | refine SW.skip ?_ | refine SW.exit ?_ | refine SW.ret ?_ | refine Call.of_pure (sg) ?_ | refine ⟨_, sg, ?_⟩ | (refine allF_i fun b hb => ?_; replace hD := And.intro hb hD; clear hb; try simp only [fresh_cons, fresh_nil, and_true, ne_eq, neF] at hD) | simp only [appK, appOsK]); try simp only [go_sem, ↓reduceIte, reduceCtorEq, Nat.reduceAdd, Nat.reduceMul, Nat.reduceSub, Nat.reduceLT, Nat.reduceLeDiff, Nat.reduceEqDiff, Nat.reduceBEq, Nat.reduceBneDiff, Int.reduceToNat, Int.reduceEq, hD, hli, ie, i0, w1, hgm2, gp, subSV]) | (refine And.intro (by omega) ?_) | (refine ifI (fun hc => ?_) (fun hc => ?_) <;> first | (exfalso; omega) | skip) | (first | (apply hK; clear hK K) | ((iterate 1 (clear hK K)); apply hK; clear hK K) | ((iterate 2 (clear hK K)); apply hK; clear hK K) | ((iterate 3 (clear hK K)); apply hK; clear hK K) | ((iterate 4 (clear hK K)); apply hK; clear hK K) | ((iterate 5 (clear hK K)); apply hK; clear hK K)) | (refine And.intro ?_ ?_)
      refine Rnd.sub (P.length - (i + 1)) (by omega) ((hI _ _).2 ⟨i + 1, rfl, by omega, rfl⟩) (by repeat' (first | exact rfl | exact trivial | exact int_eq (by omega) | exact int_eq (by (rw [i64_wrap] <;> omega)) | constructor))
    · have hli : ¬ ((i : Nat) : Int) < ((P.length : Nat) : Int) := by omega
      repeat' first | (with_reducible refine And.intro (by omega) ?_) | (refine SW.seq_k fun K hK => ?_) | (refine SW.block ?_) | ((first | refine SW.region ?_ | refine SW.regionD (Checked.mixed Tryd.checked) (by kernel_rfl) ?_ | refine SW.cond ?_ | refine SW.skip ?_ | refine SW.exit ?_ | refine SW.ret ?_ | (refine allF_i fun b hb => ?_; replace hD := And.intro hb hD; clear hb; try simp only [fresh_cons, fresh_nil, and_true, ne_eq, neF] at hD) | simp only [appK, appOsK]); try simp only [go_sem, ↓reduceIte, reduceCtorEq, Nat.reduceAdd, Nat.reduceMul, Nat.reduceSub, Nat.reduceLT, Nat.reduceLeDiff, Nat.reduceEqDiff, Nat.reduceBEq, Nat.reduceBneDiff, Int.reduceToNat, Int.reduceEq, hD, hli]) | (refine And.intro (by omega) ?_) | (refine ifI (fun hc => ?_) (fun hc => ?_) <;> first | (exfalso; omega) | skip) | (first | (apply hK; clear hK K) | ((iterate 1 (clear hK K)); apply hK; clear hK K) | ((iterate 2 (clear hK K)); apply hK; clear hK K) | ((iterate 3 (clear hK K)); apply hK; clear hK K) | ((iterate 4 (clear hK K)); apply hK; clear hK K) | ((iterate 5 (clear hK K)); apply hK; clear hK K))
      refine ret_pure ?_; simp only [resL_tmp, resL_nil, tupOf, go_sem, ↓reduceIte, reduceCtorEq, Nat.reduceAdd, Nat.reduceMul, Nat.reduceSub, Nat.reduceLT, Nat.reduceLeDiff, Nat.reduceEqDiff, Nat.reduceBEq, Nat.reduceBneDiff, Int.reduceToNat, Int.reduceEq, hD]
end Go.Proofs.YtajbifibhgppfaaDoor
