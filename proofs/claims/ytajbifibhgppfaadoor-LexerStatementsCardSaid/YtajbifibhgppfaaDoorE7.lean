/- Contracts: Statements of the program. -/
import Derived.Test.YtajbifibhgppfaaDoorM4
set_option linter.unusedSimpArgs false
set_option linter.unusedVariables false
set_option linter.unusedSectionVars false
namespace Go.Ab
open Go Go.RowKit
section
variable {h h0 : Heap}
theorem Acc.cases2 [Gl] {sz n : Nat} {x : SV} {cs : List SV} (hA : Acc sz x h h0 n cs) : (n = 0 ∧ cs = [] ∧ x = .sc (.slice none 0 0) ∧ h = h0) ∨
    (∃ b, fresh h0 b ∧ n * sz = cs.length ∧ x = .os b 0 n sz ∧ (∀ t, (St.mk t h).le ⟨t, (b, .svs cs) :: h0⟩)) := by
  rcases hA with h1 | ⟨b, blk, hfr, hc, hl, rfl, rfl⟩
  · exact .inl h1
  · refine .inr ⟨b, hfr, hl, rfl, fun t => ?_⟩
    have := St.le_blk (t := t) (h := (b, blk) :: h0) (b := b) (k := blk) (k' := .svs cs) (by rw [find_cons, if_pos rfl]) hc.symm
    rwa [upd_cons, if_pos rfl] at this
theorem Acc.keep2 [Gl] {sz n b : Nat} {cs : List SV} {h' : Heap} (hf : fresh h0 b) (hm : ((b, Blk.svs cs) :: h0).Sublist h') (hl : n * sz = cs.length) : Acc sz (.os b 0 n sz) ((b, .svs cs) :: h0) h0 n cs ∧ ∀ t, (St.mk t h').le ⟨t, (b, .svs cs) :: h0⟩ :=
  ⟨.inr ⟨b, _, hf, rfl, hl, rfl, rfl⟩, fun t => St.le_sublist (fun x hx => hm.subset hx) (fun hn => hn.sublist (hm.map _))⟩
end
end Go.Ab
namespace Go.Ab.A05
open Go Go.Ab Go.Ab.A01 Go.Proofs.YtajbifibhgppfaaDoor
def semi (t : Tok) : Bool := decide (t.kind = 3) && decide (t.text.data.toList = [59])
/-- Tokens divided into statements. -/
def stR : List Tok → List Tok → List (List Tok) → List (List Tok) × Int × Int
  | [], _, out => (out, 0, 0)
  | t :: r, now, out => if semi t = true then stR r [] (out ++ [now]) else if r = [] then ([], t.line, 2) else stR r (now ++ [t]) out
def stSV (R : List (List Tok) × Int × Int) : SV := .tup [.fl R.1.length 1 (fun j => [TS (R.1.getD j [])]), I64 R.2.1, I64 R.2.2]
theorem map_TS (out : List (List Tok)) (now : List Tok) : out.map TS ++ [TS now] = (out ++ [now]).map TS := by rw [List.map_append]; rfl
theorem TS_at (out : List (List Tok)) (j : Nat) (h : j < out.length) : [TS (out.getD j [])] = ((out.map TS).drop (j * 1)).take 1 := by
  rw [Nat.mul_one, List.drop_eq_getElem_cons (by rw [List.length_map]; exact h), List.take_succ_cons, List.take_zero, List.getElem_map]
  simp [List.getD_eq_getElem?_getD, h]
end Go.Ab.A05
namespace Go.Proofs.YtajbifibhgppfaaDoor
open Go Go.Ab Go.Ab.A01 Go.Ab.A05
variable [Gl] [Tabs] [Syms]

set_option maxHeartbeats 4000000 in
set_option maxRecDepth 20000 in
theorem statements_p (l : List Tok) (hl : l.length ≤ 1000000) : PCall Tryd.prog 24 [TS l] (stSV (stR l [] [])) := by
  obtain ⟨R, hR⟩ : ∃ R, R = stR l [] [] := ⟨_, rfl⟩
  rw [← hR]
  have hC0 : R = stR (l.drop 0) [] [] := by rw [hR, List.drop_zero]
  clear hR
  refine Call.enter' (N := 41) (rs := [.tmp 2, .tmp 3, .tmp 4]) Tryd.func24 rfl rfl rfl (by decide) rfl ?_; simp only [argT]; have hD : (0 : Nat) = 0 := rfl
  repeat' first | (with_reducible refine And.intro (by omega) ?_) | (refine SW.seq_k fun K hK => ?_) | (refine SW.block ?_) | ((first | refine SW.region ?_ | refine SW.regionD (Checked.mixed Tryd.checked) (by kernel_rfl) ?_ | refine SW.cond ?_ | refine SW.skip ?_ | refine SW.exit ?_ | refine SW.ret ?_ | (refine allF_i fun b hb => ?_; replace hD := And.intro hb hD; clear hb; try simp only [fresh_cons, fresh_nil, and_true, ne_eq, neF] at hD) | simp only [appK, appOsK]); try simp only [go_sem, ↓reduceIte, reduceCtorEq, Nat.reduceAdd, Nat.reduceMul, Nat.reduceSub, Nat.reduceLT, Nat.reduceLeDiff, Nat.reduceEqDiff, Nat.reduceBEq, Nat.reduceBneDiff, Int.reduceToNat, Int.reduceEq, hD]) | (refine And.intro (by omega) ?_) | (refine ifI (fun hc => ?_) (fun hc => ?_) <;> first | (exfalso; omega) | skip) | (first | (apply hK; clear hK K) | ((iterate 1 (clear hK K)); apply hK; clear hK K) | ((iterate 2 (clear hK K)); apply hK; clear hK K) | ((iterate 3 (clear hK K)); apply hK; clear hK K) | ((iterate 4 (clear hK K)); apply hK; clear hK K) | ((iterate 5 (clear hK K)); apply hK; clear hK K))
  obtain ⟨I, hI⟩ : ∃ I : Nat → St → Prop, ∀ k S, I k S ↔ (∃ (i : Nat) (now : List Tok) (out : List (List Tok)) (x y : SV) (h h1 : Heap), k = l.length - i ∧ i ≤ l.length ∧ now.length ≤ i ∧ out.length ≤ i ∧ R = stR (l.drop i) now out ∧ (i = l.length → now = []) ∧ Acc 7 y h h1 now.length (cellsT now) ∧ Acc 1 x h1 [] out.length (out.map TS) ∧
    S = ⟨[(0, TS l), (9, TS l), (10, I64 l.length), (5, x), (6, y), (11, I64 i)], h⟩) := ⟨fun k S => _, fun _ _ => Iff.rfl⟩
  refine SW.loop' I l.length ((hI _ _).2 ⟨0, [], [], _, _, _, _, rfl, Nat.zero_le _, Nat.le_refl _, Nat.le_refl _, hC0, fun _ => rfl, .nil _ _, .nil _ _, rfl⟩) (by repeat' (first | exact rfl | exact trivial | exact int_eq (by omega) | exact int_eq (by (rw [i64_wrap] <;> omega)) | constructor)) ?_
  clear hC0
  intro k S hIn
  obtain ⟨i, now, out, x, y, h, h1, rfl, hi, hnow, hout, hC, hend, hN, hO, rfl⟩ := (hI _ _).1 hIn
  clear hIn
  have ie : ((i : Nat) : Int).toNat = i := Int.toNat_natCast _
  have i0 : (0 : Int) ≤ ((i : Nat) : Int) := by omega
  by_cases hlt : i < l.length
  · have hli : ((i : Nat) : Int) < ((l.length : Nat) : Int) := by omega
    have w1 : IntKind.i64.wrap ((i : Int) + 1) = ((i + 1 : Nat) : Int) := by rw [i64_wrap (by omega) (by omega)]; omega
    have w2 : IntKind.i64.wrap (((l.length : Nat) : Int) - 1) = ((l.length - 1 : Nat) : Int) := by rw [i64_wrap (by omega) (by omega)]; omega
    have hg : l.getD i tok0 = l[i] := by simp [List.getD_eq_getElem?_getD, hlt]
    have hd : l.drop i = l.getD i tok0 :: l.drop (i + 1) := by rw [List.drop_eq_getElem_cons hlt, hg]
    rw [hd] at hC
    obtain ⟨k, s, ⟨a, n, t⟩, ln, cl, ht⟩ : ∃ k s v ln cl, l.getD i tok0 = ⟨k, s, v, ln, cl⟩ := ⟨_, _, _, _, _, rfl⟩
    have tf : tokF l i = [I64 k, Str s, I64 a, I64 n, Str t, I64 ln, I64 cl] := by unfold tokF; rw [ht]; rfl
    rw [ht] at hC
    have he := text_eq s [59] #[59] rfl
    have pc : stR (⟨k, s, (a, n, t), ln, cl⟩ :: l.drop (i + 1)) now out = if semi ⟨k, s, (a, n, t), ln, cl⟩ = true then stR (l.drop (i + 1)) [] (out ++ [now]) else if l.drop (i + 1) = [] then ([], ln, 2) else stR (l.drop (i + 1)) (now ++ [⟨k, s, (a, n, t), ln, cl⟩]) out := rfl
    rw [pc] at hC
    have ba : (out.length + 1) * 24 ≤ 140737488355328 := by omega
    have bn : (now.length + 1) * 72 ≤ 140737488355328 := by omega
    have bn2 : (now.length + 1) * 104 ≤ 140737488355328 := by omega
    cases hs : semi ⟨k, s, (a, n, t), ln, cl⟩ with
    | true =>
      rw [hs, if_pos rfl] at hC
      unfold semi at hs
      rw [Bool.and_eq_true, decide_eq_true_eq, decide_eq_true_eq] at hs
      obtain ⟨k3, s59⟩ := hs
      simp only at k3 s59
      subst k3
      rw [decide_eq_true s59] at he
      refine SW.le (St.le_acc_fl (i := 6) rfl hN (tokF now) (cells_at now)) ?_
      rcases hO.cases with ⟨e0, e1, rfl, rfl⟩ | ⟨b, e0, rfl, hle⟩
      · repeat' first | (with_reducible refine And.intro (by omega) ?_) | (refine SW.seq_k fun K hK => ?_) | (refine SW.block ?_) | ((first | refine SW.region ?_ | refine SW.regionD (Checked.mixed Tryd.checked) (by kernel_rfl) ?_ | refine SW.cond ?_ | refine SW.skip ?_ | refine SW.exit ?_ | refine SW.ret ?_ | (refine allF_i fun b hb => ?_; replace hD := And.intro hb hD; clear hb; try simp only [fresh_cons, fresh_nil, and_true, ne_eq, neF] at hD) | simp only [appK, appOsK]); try simp only [go_sem, ↓reduceIte, reduceCtorEq, Nat.reduceAdd, Nat.reduceMul, Nat.reduceSub, Nat.reduceLT, Nat.reduceLeDiff, Nat.reduceEqDiff, Nat.reduceBEq, Nat.reduceBneDiff, Int.reduceToNat, Int.reduceEq, hD, hli, ie, i0, w1, tf, he, ba, true_implies]) | (refine And.intro (by omega) ?_) | (refine ifI (fun hc => ?_) (fun hc => ?_) <;> first | (exfalso; omega) | skip) | (first | (apply hK; clear hK K) | ((iterate 1 (clear hK K)); apply hK; clear hK K) | ((iterate 2 (clear hK K)); apply hK; clear hK K) | ((iterate 3 (clear hK K)); apply hK; clear hK K) | ((iterate 4 (clear hK K)); apply hK; clear hK K) | ((iterate 5 (clear hK K)); apply hK; clear hK K))
        obtain rfl : out = [] := List.eq_nil_of_length_eq_zero e0
        obtain ⟨hB2, hle2⟩ := Acc.keep (sz := 1) (n := 1) (b := b) (cs := [TS now]) (h' := _) (List.mem_cons_self ..) rfl
        refine Rnd.le (hle2 _) ?_
        refine Rnd.sub (l.length - (i + 1)) (by omega) ((hI _ _).2 ⟨i + 1, [], [] ++ [now], _, _, _, _, rfl, by omega, Nat.zero_le _, by simp, hC, fun _ => rfl, .nil _ _, hB2, rfl⟩) (by repeat' (first | exact rfl | exact trivial | exact int_eq (by omega) | exact int_eq (by (rw [i64_wrap] <;> omega)) | constructor))
      · refine SW.le (hle _) ?_
        repeat' first | (with_reducible refine And.intro (by omega) ?_) | (refine SW.seq_k fun K hK => ?_) | (refine SW.block ?_) | ((first | refine SW.region ?_ | refine SW.regionD (Checked.mixed Tryd.checked) (by kernel_rfl) ?_ | refine SW.cond ?_ | refine SW.skip ?_ | refine SW.exit ?_ | refine SW.ret ?_ | (refine allF_i fun b hb => ?_; replace hD := And.intro hb hD; clear hb; try simp only [fresh_cons, fresh_nil, and_true, ne_eq, neF] at hD) | simp only [appK, appOsK]); try simp only [go_sem, ↓reduceIte, reduceCtorEq, Nat.reduceAdd, Nat.reduceMul, Nat.reduceSub, Nat.reduceLT, Nat.reduceLeDiff, Nat.reduceEqDiff, Nat.reduceBEq, Nat.reduceBneDiff, Int.reduceToNat, Int.reduceEq, hD, hli, ie, i0, w1, tf, he, ba, true_implies]) | (refine And.intro (by omega) ?_) | (refine ifI (fun hc => ?_) (fun hc => ?_) <;> first | (exfalso; omega) | skip) | (first | (apply hK; clear hK K) | ((iterate 1 (clear hK K)); apply hK; clear hK K) | ((iterate 2 (clear hK K)); apply hK; clear hK K) | ((iterate 3 (clear hK K)); apply hK; clear hK K) | ((iterate 4 (clear hK K)); apply hK; clear hK K) | ((iterate 5 (clear hK K)); apply hK; clear hK K))
        obtain ⟨hB2, hle2⟩ := Acc.keep (sz := 1) (n := out.length + 1) (b := b) (cs := out.map TS ++ [TS now]) (h' := _) (List.mem_cons_of_mem _ (List.mem_cons_of_mem _ (List.mem_cons_self ..))) (by rw [List.length_append, List.length_map]; simp)
        refine Rnd.le (hle2 _) ?_
        refine Rnd.sub (l.length - (i + 1)) (by omega) ((hI _ _).2 ⟨i + 1, [], out ++ [now], _, _, _, _, rfl, by omega, Nat.zero_le _, by rw [List.length_append]; simp only [List.length_cons, List.length_nil]; omega, hC, fun _ => rfl, .nil _ _, by rw [← map_TS, List.length_append]; exact hB2, rfl⟩) (by repeat' (first | exact rfl | exact trivial | exact int_eq (by omega) | exact int_eq (by (rw [i64_wrap] <;> omega)) | constructor))
    | false =>
      rw [hs, if_neg (by simp)] at hC
      unfold semi at hs
      have ways : (¬ k = 3) ∨ (k = 3 ∧ decide (s.data.toList = [59]) = false) := by
        by_cases k3 : k = 3
        · right
          rw [decide_eq_true k3, Bool.true_and] at hs
          exact ⟨k3, hs⟩
        · exact .inl k3
      rcases ways with k3 | ⟨rfl, s59⟩
      · rcases hN.cases2 with ⟨e0, e1, rfl, rfl⟩ | ⟨b, hfr, e0, rfl, hle⟩
        · repeat' first | (with_reducible refine And.intro (by omega) ?_) | (refine SW.seq_k fun K hK => ?_) | (refine SW.block ?_) | ((first | refine SW.region ?_ | refine SW.regionZ (id := 10) (Checked.mixed Tryd.checked) ((.one 0 [0, 1, 3, 4] (.one 1 [1, 3, 4] (.one 2 [2, 3, 4] (.one 3 [3, 4] (.one 4 [4] .done))))) : OZ) (by kernel_rfl) ?_ | refine SW.regionD (Checked.mixed Tryd.checked) (by kernel_rfl) ?_ | refine SW.cond ?_ | refine SW.skip ?_ | refine SW.exit ?_ | refine SW.ret ?_ | (refine allF_i fun b hb => ?_; replace hD := And.intro hb hD; clear hb; try simp only [fresh_cons, fresh_nil, and_true, ne_eq, neF] at hD) | simp only [appK, appOsK]); try simp only [go_sem, ↓reduceIte, reduceCtorEq, Nat.reduceAdd, Nat.reduceMul, Nat.reduceSub, Nat.reduceLT, Nat.reduceLeDiff, Nat.reduceEqDiff, Nat.reduceBEq, Nat.reduceBneDiff, Int.reduceToNat, Int.reduceEq, hD, hli, ie, i0, w1, w2, tf, he, k3, bn, bn2, true_implies]) | (refine And.intro (by omega) ?_) | (refine ifI (fun hc => ?_) (fun hc => ?_) <;> first | (exfalso; omega) | skip) | (first | (apply hK; clear hK K) | ((iterate 1 (clear hK K)); apply hK; clear hK K) | ((iterate 2 (clear hK K)); apply hK; clear hK K) | ((iterate 3 (clear hK K)); apply hK; clear hK K) | ((iterate 4 (clear hK K)); apply hK; clear hK K) | ((iterate 5 (clear hK K)); apply hK; clear hK K)) | (refine And.intro ?_ ?_)
          · have hdn : l.drop (i + 1) = [] := List.drop_of_length_le (by omega)
            rw [if_pos hdn] at hC
            subst hC
            refine retQ_le (St.le_nil_fl (i := 2) (sz := 1) (f := fun j => [TS (([] : List (List Tok)).getD j [])]) rfl) ?_
            simp only [resL_tmp, resL_nil, tupOf, go_sem, ↓reduceIte, reduceCtorEq, Nat.reduceAdd, Nat.reduceMul, Nat.reduceSub, Nat.reduceLT, Nat.reduceLeDiff, Nat.reduceEqDiff, Nat.reduceBEq, Nat.reduceBneDiff, Int.reduceToNat, Int.reduceEq, hD]
            rfl
          · obtain rfl : now = [] := List.eq_nil_of_length_eq_zero e0
            have hdn : ¬ l.drop (i + 1) = [] := fun e => by
              have := congrArg List.length e
              rw [List.length_drop, List.length_nil] at this
              omega
            rw [if_neg hdn] at hC
            obtain ⟨hB2, hle2⟩ := Acc.keep2 (sz := 7) (n := 1) (b := b) (cs := tokC ⟨k, s, (a, n, t), ln, cl⟩) (h0 := h) (h' := _) hD.1.2.2 (List.Sublist.cons_cons _ (List.Sublist.cons _ (List.Sublist.cons _ (List.Sublist.refl _)))) rfl
            refine Rnd.le (hle2 _) ?_
            refine Rnd.sub (l.length - (i + 1)) (by omega) ((hI _ _).2 ⟨i + 1, [] ++ [⟨k, s, (a, n, t), ln, cl⟩], out, _, _, _, _, rfl, by omega, by simp only [List.nil_append, List.length_cons, List.length_nil]; omega, by omega, hC, fun e => by omega, hB2, hO, rfl⟩) (by repeat' (first | exact rfl | exact trivial | exact int_eq (by omega) | exact int_eq (by (rw [i64_wrap] <;> omega)) | constructor))
        · refine SW.le (hle _) ?_
          repeat' first | (with_reducible refine And.intro (by omega) ?_) | (refine SW.seq_k fun K hK => ?_) | (refine SW.block ?_) | ((first | refine SW.region ?_ | refine SW.regionZ (id := 10) (Checked.mixed Tryd.checked) ((.one 0 [0, 1, 3, 4] (.one 1 [1, 3, 4] (.one 2 [2, 3, 4] (.one 3 [3, 4] (.one 4 [4] .done))))) : OZ) (by kernel_rfl) ?_ | refine SW.regionD (Checked.mixed Tryd.checked) (by kernel_rfl) ?_ | refine SW.cond ?_ | refine SW.skip ?_ | refine SW.exit ?_ | refine SW.ret ?_ | (refine allF_i fun b hb => ?_; replace hD := And.intro hb hD; clear hb; try simp only [fresh_cons, fresh_nil, and_true, ne_eq, neF] at hD) | simp only [appK, appOsK]); try simp only [go_sem, ↓reduceIte, reduceCtorEq, Nat.reduceAdd, Nat.reduceMul, Nat.reduceSub, Nat.reduceLT, Nat.reduceLeDiff, Nat.reduceEqDiff, Nat.reduceBEq, Nat.reduceBneDiff, Int.reduceToNat, Int.reduceEq, hD, hli, ie, i0, w1, w2, tf, he, k3, bn, bn2, true_implies]) | (refine And.intro (by omega) ?_) | (refine ifI (fun hc => ?_) (fun hc => ?_) <;> first | (exfalso; omega) | skip) | (first | (apply hK; clear hK K) | ((iterate 1 (clear hK K)); apply hK; clear hK K) | ((iterate 2 (clear hK K)); apply hK; clear hK K) | ((iterate 3 (clear hK K)); apply hK; clear hK K) | ((iterate 4 (clear hK K)); apply hK; clear hK K) | ((iterate 5 (clear hK K)); apply hK; clear hK K)) | (refine And.intro ?_ ?_)
          · have hdn : l.drop (i + 1) = [] := List.drop_of_length_le (by omega)
            rw [if_pos hdn] at hC
            subst hC
            refine retQ_le (St.le_nil_fl (i := 2) (sz := 1) (f := fun j => [TS (([] : List (List Tok)).getD j [])]) rfl) ?_
            simp only [resL_tmp, resL_nil, tupOf, go_sem, ↓reduceIte, reduceCtorEq, Nat.reduceAdd, Nat.reduceMul, Nat.reduceSub, Nat.reduceLT, Nat.reduceLeDiff, Nat.reduceEqDiff, Nat.reduceBEq, Nat.reduceBneDiff, Int.reduceToNat, Int.reduceEq, hD]
            rfl
          · have hdn : ¬ l.drop (i + 1) = [] := fun e => by
              have := congrArg List.length e
              rw [List.length_drop, List.length_nil] at this
              omega
            rw [if_neg hdn] at hC
            obtain ⟨hB2, hle2⟩ := Acc.keep2 (sz := 7) (n := now.length + 1) (b := b) (cs := cellsT now ++ tokC ⟨k, s, (a, n, t), ln, cl⟩) (h0 := h1) (h' := _) hD.1.2.2 (List.Sublist.cons _ (List.Sublist.cons _ (List.Sublist.refl _))) (by rw [List.length_append, ← cells_len]; show _ = _ + 7; omega)
            refine Rnd.le (hle2 _) ?_
            refine Rnd.sub (l.length - (i + 1)) (by omega) ((hI _ _).2 ⟨i + 1, now ++ [⟨k, s, (a, n, t), ln, cl⟩], out, _, _, _, _, rfl, by omega, by rw [List.length_append]; simp only [List.length_cons, List.length_nil]; omega, by omega, hC, fun e => by omega, by rw [cells_snoc, List.length_append]; exact hB2, hO, rfl⟩) (by repeat' (first | exact rfl | exact trivial | exact int_eq (by omega) | exact int_eq (by (rw [i64_wrap] <;> omega)) | constructor))
      · have k3 : (0 : Nat) = 0 := rfl
        rw [s59] at he
        rcases hN.cases2 with ⟨e0, e1, rfl, rfl⟩ | ⟨b, hfr, e0, rfl, hle⟩
        · repeat' first | (with_reducible refine And.intro (by omega) ?_) | (refine SW.seq_k fun K hK => ?_) | (refine SW.block ?_) | ((first | refine SW.region ?_ | refine SW.regionZ (id := 10) (Checked.mixed Tryd.checked) ((.one 0 [0, 1, 3, 4] (.one 1 [1, 3, 4] (.one 2 [2, 3, 4] (.one 3 [3, 4] (.one 4 [4] .done))))) : OZ) (by kernel_rfl) ?_ | refine SW.regionD (Checked.mixed Tryd.checked) (by kernel_rfl) ?_ | refine SW.cond ?_ | refine SW.skip ?_ | refine SW.exit ?_ | refine SW.ret ?_ | (refine allF_i fun b hb => ?_; replace hD := And.intro hb hD; clear hb; try simp only [fresh_cons, fresh_nil, and_true, ne_eq, neF] at hD) | simp only [appK, appOsK]); try simp only [go_sem, ↓reduceIte, reduceCtorEq, Nat.reduceAdd, Nat.reduceMul, Nat.reduceSub, Nat.reduceLT, Nat.reduceLeDiff, Nat.reduceEqDiff, Nat.reduceBEq, Nat.reduceBneDiff, Int.reduceToNat, Int.reduceEq, hD, hli, ie, i0, w1, w2, tf, he, k3, bn, bn2, true_implies]) | (refine And.intro (by omega) ?_) | (refine ifI (fun hc => ?_) (fun hc => ?_) <;> first | (exfalso; omega) | skip) | (first | (apply hK; clear hK K) | ((iterate 1 (clear hK K)); apply hK; clear hK K) | ((iterate 2 (clear hK K)); apply hK; clear hK K) | ((iterate 3 (clear hK K)); apply hK; clear hK K) | ((iterate 4 (clear hK K)); apply hK; clear hK K) | ((iterate 5 (clear hK K)); apply hK; clear hK K)) | (refine And.intro ?_ ?_)
          · have hdn : l.drop (i + 1) = [] := List.drop_of_length_le (by omega)
            rw [if_pos hdn] at hC
            subst hC
            refine retQ_le (St.le_nil_fl (i := 2) (sz := 1) (f := fun j => [TS (([] : List (List Tok)).getD j [])]) rfl) ?_
            simp only [resL_tmp, resL_nil, tupOf, go_sem, ↓reduceIte, reduceCtorEq, Nat.reduceAdd, Nat.reduceMul, Nat.reduceSub, Nat.reduceLT, Nat.reduceLeDiff, Nat.reduceEqDiff, Nat.reduceBEq, Nat.reduceBneDiff, Int.reduceToNat, Int.reduceEq, hD]
            rfl
          · obtain rfl : now = [] := List.eq_nil_of_length_eq_zero e0
            have hdn : ¬ l.drop (i + 1) = [] := fun e => by
              have := congrArg List.length e
              rw [List.length_drop, List.length_nil] at this
              omega
            rw [if_neg hdn] at hC
            obtain ⟨hB2, hle2⟩ := Acc.keep2 (sz := 7) (n := 1) (b := b) (cs := tokC ⟨3, s, (a, n, t), ln, cl⟩) (h0 := h) (h' := _) hD.1.2.2 (List.Sublist.cons_cons _ (List.Sublist.cons _ (List.Sublist.cons _ (List.Sublist.refl _)))) rfl
            refine Rnd.le (hle2 _) ?_
            refine Rnd.sub (l.length - (i + 1)) (by omega) ((hI _ _).2 ⟨i + 1, [] ++ [⟨3, s, (a, n, t), ln, cl⟩], out, _, _, _, _, rfl, by omega, by simp only [List.nil_append, List.length_cons, List.length_nil]; omega, by omega, hC, fun e => by omega, hB2, hO, rfl⟩) (by repeat' (first | exact rfl | exact trivial | exact int_eq (by omega) | exact int_eq (by (rw [i64_wrap] <;> omega)) | constructor))
        · refine SW.le (hle _) ?_
          repeat' first | (with_reducible refine And.intro (by omega) ?_) | (refine SW.seq_k fun K hK => ?_) | (refine SW.block ?_) | ((first | refine SW.region ?_ | refine SW.regionZ (id := 10) (Checked.mixed Tryd.checked) ((.one 0 [0, 1, 3, 4] (.one 1 [1, 3, 4] (.one 2 [2, 3, 4] (.one 3 [3, 4] (.one 4 [4] .done))))) : OZ) (by kernel_rfl) ?_ | refine SW.regionD (Checked.mixed Tryd.checked) (by kernel_rfl) ?_ | refine SW.cond ?_ | refine SW.skip ?_ | refine SW.exit ?_ | refine SW.ret ?_ | (refine allF_i fun b hb => ?_; replace hD := And.intro hb hD; clear hb; try simp only [fresh_cons, fresh_nil, and_true, ne_eq, neF] at hD) | simp only [appK, appOsK]); try simp only [go_sem, ↓reduceIte, reduceCtorEq, Nat.reduceAdd, Nat.reduceMul, Nat.reduceSub, Nat.reduceLT, Nat.reduceLeDiff, Nat.reduceEqDiff, Nat.reduceBEq, Nat.reduceBneDiff, Int.reduceToNat, Int.reduceEq, hD, hli, ie, i0, w1, w2, tf, he, k3, bn, bn2, true_implies]) | (refine And.intro (by omega) ?_) | (refine ifI (fun hc => ?_) (fun hc => ?_) <;> first | (exfalso; omega) | skip) | (first | (apply hK; clear hK K) | ((iterate 1 (clear hK K)); apply hK; clear hK K) | ((iterate 2 (clear hK K)); apply hK; clear hK K) | ((iterate 3 (clear hK K)); apply hK; clear hK K) | ((iterate 4 (clear hK K)); apply hK; clear hK K) | ((iterate 5 (clear hK K)); apply hK; clear hK K)) | (refine And.intro ?_ ?_)
          · have hdn : l.drop (i + 1) = [] := List.drop_of_length_le (by omega)
            rw [if_pos hdn] at hC
            subst hC
            refine retQ_le (St.le_nil_fl (i := 2) (sz := 1) (f := fun j => [TS (([] : List (List Tok)).getD j [])]) rfl) ?_
            simp only [resL_tmp, resL_nil, tupOf, go_sem, ↓reduceIte, reduceCtorEq, Nat.reduceAdd, Nat.reduceMul, Nat.reduceSub, Nat.reduceLT, Nat.reduceLeDiff, Nat.reduceEqDiff, Nat.reduceBEq, Nat.reduceBneDiff, Int.reduceToNat, Int.reduceEq, hD]
            rfl
          · have hdn : ¬ l.drop (i + 1) = [] := fun e => by
              have := congrArg List.length e
              rw [List.length_drop, List.length_nil] at this
              omega
            rw [if_neg hdn] at hC
            obtain ⟨hB2, hle2⟩ := Acc.keep2 (sz := 7) (n := now.length + 1) (b := b) (cs := cellsT now ++ tokC ⟨3, s, (a, n, t), ln, cl⟩) (h0 := h1) (h' := _) hD.1.2.2 (List.Sublist.cons _ (List.Sublist.cons _ (List.Sublist.refl _))) (by rw [List.length_append, ← cells_len]; show _ = _ + 7; omega)
            refine Rnd.le (hle2 _) ?_
            refine Rnd.sub (l.length - (i + 1)) (by omega) ((hI _ _).2 ⟨i + 1, now ++ [⟨3, s, (a, n, t), ln, cl⟩], out, _, _, _, _, rfl, by omega, by rw [List.length_append]; simp only [List.length_cons, List.length_nil]; omega, by omega, hC, fun e => by omega, by rw [cells_snoc, List.length_append]; exact hB2, hO, rfl⟩) (by repeat' (first | exact rfl | exact trivial | exact int_eq (by omega) | exact int_eq (by (rw [i64_wrap] <;> omega)) | constructor))
  · have hli : ¬ ((i : Nat) : Int) < ((l.length : Nat) : Int) := by omega
    obtain rfl := hend (by omega)
    rw [List.drop_of_length_le (by omega)] at hC
    have hC2 : R = (out, 0, 0) := hC
    subst hC2
    rcases hN with ⟨_, _, rfl, rfl⟩ | ⟨b, blk, hf, hc, hl2, rfl, rfl⟩
    · refine SW.le (St.le_acc_fl (i := 5) rfl hO (fun j => [TS (out.getD j [])]) (TS_at out)) ?_
      repeat' first | (with_reducible refine And.intro (by omega) ?_) | (refine SW.seq_k fun K hK => ?_) | (refine SW.block ?_) | ((first | refine SW.region ?_ | refine SW.regionD (Checked.mixed Tryd.checked) (by kernel_rfl) ?_ | refine SW.cond ?_ | refine SW.skip ?_ | refine SW.exit ?_ | refine SW.ret ?_ | (refine allF_i fun b hb => ?_; replace hD := And.intro hb hD; clear hb; try simp only [fresh_cons, fresh_nil, and_true, ne_eq, neF] at hD) | simp only [appK, appOsK]); try simp only [go_sem, ↓reduceIte, reduceCtorEq, Nat.reduceAdd, Nat.reduceMul, Nat.reduceSub, Nat.reduceLT, Nat.reduceLeDiff, Nat.reduceEqDiff, Nat.reduceBEq, Nat.reduceBneDiff, Int.reduceToNat, Int.reduceEq, hD, hli]) | (refine And.intro (by omega) ?_) | (refine ifI (fun hc => ?_) (fun hc => ?_) <;> first | (exfalso; omega) | skip) | (first | (apply hK; clear hK K) | ((iterate 1 (clear hK K)); apply hK; clear hK K) | ((iterate 2 (clear hK K)); apply hK; clear hK K) | ((iterate 3 (clear hK K)); apply hK; clear hK K) | ((iterate 4 (clear hK K)); apply hK; clear hK K) | ((iterate 5 (clear hK K)); apply hK; clear hK K))
      refine ret_pure ?_; simp only [resL_tmp, resL_nil, tupOf, go_sem, ↓reduceIte, reduceCtorEq, Nat.reduceAdd, Nat.reduceMul, Nat.reduceSub, Nat.reduceLT, Nat.reduceLeDiff, Nat.reduceEqDiff, Nat.reduceBEq, Nat.reduceBneDiff, Int.reduceToNat, Int.reduceEq, hD]
      rfl
    · refine SW.le (St.le_sublist (h' := h1) (fun x hx => List.mem_cons_of_mem _ hx) (fun hn => by rw [List.map_cons, List.nodup_cons] at hn; exact hn.2)) ?_
      refine SW.le (St.le_acc_fl (i := 5) rfl hO (fun j => [TS (out.getD j [])]) (TS_at out)) ?_
      repeat' first | (with_reducible refine And.intro (by omega) ?_) | (refine SW.seq_k fun K hK => ?_) | (refine SW.block ?_) | ((first | refine SW.region ?_ | refine SW.regionD (Checked.mixed Tryd.checked) (by kernel_rfl) ?_ | refine SW.cond ?_ | refine SW.skip ?_ | refine SW.exit ?_ | refine SW.ret ?_ | (refine allF_i fun b hb => ?_; replace hD := And.intro hb hD; clear hb; try simp only [fresh_cons, fresh_nil, and_true, ne_eq, neF] at hD) | simp only [appK, appOsK]); try simp only [go_sem, ↓reduceIte, reduceCtorEq, Nat.reduceAdd, Nat.reduceMul, Nat.reduceSub, Nat.reduceLT, Nat.reduceLeDiff, Nat.reduceEqDiff, Nat.reduceBEq, Nat.reduceBneDiff, Int.reduceToNat, Int.reduceEq, hD, hli]) | (refine And.intro (by omega) ?_) | (refine ifI (fun hc => ?_) (fun hc => ?_) <;> first | (exfalso; omega) | skip) | (first | (apply hK; clear hK K) | ((iterate 1 (clear hK K)); apply hK; clear hK K) | ((iterate 2 (clear hK K)); apply hK; clear hK K) | ((iterate 3 (clear hK K)); apply hK; clear hK K) | ((iterate 4 (clear hK K)); apply hK; clear hK K) | ((iterate 5 (clear hK K)); apply hK; clear hK K))
      refine ret_pure ?_; simp only [resL_tmp, resL_nil, tupOf, go_sem, ↓reduceIte, reduceCtorEq, Nat.reduceAdd, Nat.reduceMul, Nat.reduceSub, Nat.reduceLT, Nat.reduceLeDiff, Nat.reduceEqDiff, Nat.reduceBEq, Nat.reduceBneDiff, Int.reduceToNat, Int.reduceEq, hD]
      rfl
end Go.Proofs.YtajbifibhgppfaaDoor
