/- Contracts: Statements of the reference; Same of slices. -/
import Derived.Test.YtajbifibhgppfaaDoorE7
set_option linter.unusedSimpArgs false
set_option linter.unusedVariables false
set_option linter.unusedSectionVars false
namespace Go.Ab.A05
open Go Go.Ab Go.Ab.A01 Go.Proofs.YtajbifibhgppfaaDoor
/-- Where the statements lie, and where the last one begins. -/
def stI : List Tok → Nat → Nat → List (Nat × Nat) → List (Nat × Nat) × Nat
  | [], _, fr, out => (out, fr)
  | t :: r, i, fr, out => if semi t = true then stI r (i + 1) (i + 1) (out ++ [(fr, i)]) else stI r (i + 1) fr out
def subL (l : List Tok) (p : Nat × Nat) : List Tok := (l.drop p.1).take (p.2 - p.1)
def subSV (l : List Tok) (p : Nat × Nat) : SV := .fl (p.2 - p.1) 7 (fun j => tokF l (p.1 + j))
def stRR (l : List Tok) : List (Nat × Nat) × Int × Int := if (stI l 0 0 []).2 < l.length then ([], (l.getD (l.length - 1) tok0).line, 2) else ((stI l 0 0 []).1, 0, 0)
def stSR (l : List Tok) (R : List (Nat × Nat) × Int × Int) : SV := .tup [.fl R.1.length 1 (fun j => [subSV l (R.1.getD j (0, 0))]), I64 R.2.1, I64 R.2.2]
theorem map_sub (l : List Tok) (out : List (Nat × Nat)) (p : Nat × Nat) : out.map (subSV l) ++ [subSV l p] = (out ++ [p]).map (subSV l) := by rw [List.map_append]; rfl
theorem sub_at (l : List Tok) (out : List (Nat × Nat)) (j : Nat) (h : j < out.length) : [subSV l (out.getD j (0, 0))] = ((out.map (subSV l)).drop (j * 1)).take 1 := by
  rw [Nat.mul_one, List.drop_eq_getElem_cons (by rw [List.length_map]; exact h), List.take_succ_cons, List.take_zero, List.getElem_map]
  simp [List.getD_eq_getElem?_getD, h]
/-- Pairs lie within the list. -/
theorem stI_in (n : Nat) : ∀ (r : List Tok) (i fr : Nat) (out : List (Nat × Nat)), i + r.length = n → fr ≤ i → (∀ p ∈ out, p.1 ≤ p.2 ∧ p.2 ≤ n) → (∀ p ∈ (stI r i fr out).1, p.1 ≤ p.2 ∧ p.2 ≤ n) ∧ (stI r i fr out).2 ≤ n ∧ (stI r i fr out).1.length ≤ out.length + r.length
  | [], i, fr, out, h, hf, ho => ⟨ho, by show fr ≤ n; rw [List.length_nil] at h; omega, Nat.le_refl _⟩
  | t :: r, i, fr, out, h, hf, ho => by
    rw [List.length_cons] at h
    rw [stI]
    split
    · have := stI_in n r (i + 1) (i + 1) (out ++ [(fr, i)]) (by omega) (Nat.le_refl _) (fun p hp => by
        rcases List.mem_append.1 hp with hp | hp
        · exact ho p hp
        · rw [List.mem_singleton] at hp
          subst hp
          exact ⟨hf, by omega⟩)
      refine ⟨this.1, this.2.1, ?_⟩
      have h3 := this.2.2
      rw [List.length_append, List.length_cons, List.length_nil] at h3
      rw [List.length_cons]
      omega
    · have := stI_in n r (i + 1) fr out (by omega) (by omega) ho
      refine ⟨this.1, this.2.1, ?_⟩
      rw [List.length_cons]
      omega
/-- **Both divide alike.** -/
theorem st_both (l : List Tok) : ∀ (r : List Tok) (i fr : Nat) (out : List (Nat × Nat)), l.drop i = r → i ≤ l.length → fr ≤ i → (r = [] → fr = i) →
    stR r ((l.drop fr).take (i - fr)) (out.map (subL l)) = if (stI r i fr out).2 < l.length then ([], (l.getD (l.length - 1) tok0).line, 2) else ((stI r i fr out).1.map (subL l), 0, 0)
  | [], i, fr, out, h, hi, hf, he => by
    have h1 := congrArg List.length h
    rw [List.length_drop, List.length_nil] at h1
    have h2 := he rfl
    show (out.map (subL l), (0 : Int), (0 : Int)) = if fr < l.length then _ else _
    rw [if_neg (by omega)]
    rfl
  | t :: r, i, fr, out, h, hi, hf, he => by
    have hlt : i < l.length := by
      have h1 := congrArg List.length h
      rw [List.length_drop, List.length_cons] at h1
      omega
    have hd := List.drop_eq_getElem_cons hlt
    rw [h] at hd
    injection hd with ht hr
    have hnow : (l.drop fr).take (i - fr) ++ [t] = (l.drop fr).take (i + 1 - fr) := by
      have e : i + 1 - fr = (i - fr) + 1 := by omega
      rw [e, List.take_add_one, List.getElem?_drop, show fr + (i - fr) = i by omega, List.getElem?_eq_getElem hlt, ← ht]
      rfl
    rw [stR, stI]
    by_cases hs : semi t = true
    · rw [if_pos hs, if_pos hs]
      have := st_both l r (i + 1) (i + 1) (out ++ [(fr, i)]) hr.symm (by omega) (Nat.le_refl _) (fun _ => rfl)
      rw [Nat.sub_self, List.take_zero, List.map_append] at this
      exact this
    · rw [if_neg hs, if_neg hs]
      by_cases hn : r = []
      · subst hn
        rw [if_pos rfl]
        show _ = if fr < l.length then _ else _
        rw [if_pos (by omega)]
        have hl : i + 1 = l.length := by
          have h1 := congrArg List.length h
          rw [List.length_drop, List.length_cons, List.length_nil] at h1
          omega
        have e : l.getD (l.length - 1) tok0 = t := by
          rw [show l.length - 1 = i by omega, ht]
          simp [List.getD_eq_getElem?_getD, hlt]
        rw [e]
      · rw [if_neg hn, hnow]
        exact st_both l r (i + 1) fr out hr.symm (by omega) (by omega) (fun x => absurd x hn)
theorem st_law (l : List Tok) : stR l [] [] = ((stRR l).1.map (subL l), (stRR l).2) := by
  have := st_both l l 0 0 [] (by rw [List.drop_zero]) (Nat.zero_le _) (Nat.le_refl _) (fun _ => rfl)
  have e : (l.drop 0).take (0 - 0) = [] := rfl
  rw [e] at this
  rw [show ([] : List (Nat × Nat)).map (subL l) = [] from rfl] at this
  rw [this]
  unfold stRR
  split <;> rfl
end Go.Ab.A05
namespace Go.Proofs.YtajbifibhgppfaaDoor
open Go Go.Ab Go.Ab.A01 Go.Ab.A05
variable [Gl] [Tabs] [Syms]

set_option maxHeartbeats 2000000 in
set_option maxRecDepth 20000 in
theorem same_g (n : Nat) (hn : n ≤ 1000000) (f g : Nat → List SV) (u : Nat → Tok) (hf : ∀ i, i < n → f i = tokC (u i)) (hg : ∀ i, i < n → g i = tokC (u i)) : PCall Tryd.prog 12 [.fl n 7 f, .fl n 7 g] (SB true) := by
  refine Call.enter' (N := 26) (rs := [.tmp 4]) Tryd.func12 rfl rfl rfl (by decide) rfl ?_; simp only [argT]; have hD : (0 : Nat) = 0 := rfl
  repeat' first | (with_reducible refine And.intro (by omega) ?_) | (refine SW.seq_k fun K hK => ?_) | (refine SW.block ?_) | ((first | refine SW.region ?_ | refine SW.regionD (Checked.mixed Tryd.checked) (by kernel_rfl) ?_ | refine SW.cond ?_ | refine SW.skip ?_ | refine SW.exit ?_ | refine SW.ret ?_ | (refine allF_i fun b hb => ?_; replace hD := And.intro hb hD; clear hb; try simp only [fresh_cons, fresh_nil, and_true, ne_eq, neF] at hD) | simp only [appK, appOsK]); try simp only [go_sem, ↓reduceIte, reduceCtorEq, Nat.reduceAdd, Nat.reduceMul, Nat.reduceSub, Nat.reduceLT, Nat.reduceLeDiff, Nat.reduceEqDiff, Nat.reduceBEq, Nat.reduceBneDiff, Int.reduceToNat, Int.reduceEq, hD]) | (refine And.intro (by omega) ?_) | (refine ifI (fun hc => ?_) (fun hc => ?_) <;> first | (exfalso; omega) | skip) | (first | (apply hK; clear hK K) | ((iterate 1 (clear hK K)); apply hK; clear hK K) | ((iterate 2 (clear hK K)); apply hK; clear hK K) | ((iterate 3 (clear hK K)); apply hK; clear hK K) | ((iterate 4 (clear hK K)); apply hK; clear hK K) | ((iterate 5 (clear hK K)); apply hK; clear hK K))
  obtain ⟨I, hI⟩ : ∃ I : Nat → St → Prop, ∀ k S, I k S ↔ (∃ (i : Nat), k = n - i ∧ i ≤ n ∧ S = ⟨[(0, .fl n 7 f), (1, .fl n 7 g), (5, I64 i)], []⟩) := ⟨fun k S => _, fun _ _ => Iff.rfl⟩
  refine SW.loop' I n ((hI _ _).2 ⟨0, rfl, Nat.zero_le _, rfl⟩) (by repeat' (first | exact rfl | exact trivial | exact int_eq (by omega) | exact int_eq (by (rw [i64_wrap] <;> omega)) | constructor)) ?_
  intro k S hIn
  obtain ⟨i, rfl, hi, rfl⟩ := (hI _ _).1 hIn
  clear hIn
  have ie : ((i : Nat) : Int).toNat = i := Int.toNat_natCast _
  have i0 : (0 : Int) ≤ ((i : Nat) : Int) := by omega
  by_cases hlt : i < n
  · have hli : ((i : Nat) : Int) < ((n : Nat) : Int) := by omega
    have w1 : IntKind.i64.wrap ((i : Int) + 1) = ((i + 1 : Nat) : Int) := by rw [i64_wrap (by omega) (by omega)]; omega
    obtain ⟨k, s, v, ln, cl, ht⟩ : ∃ k s v ln cl, u i = ⟨k, s, v, ln, cl⟩ := ⟨_, _, _, _, _, rfl⟩
    have tf : f i = [I64 k, Str s, I64 v.1, I64 v.2.1, Str v.2.2, I64 ln, I64 cl] := by rw [hf i hlt, ht]; rfl
    have tg : g i = [I64 k, Str s, I64 v.1, I64 v.2.1, Str v.2.2, I64 ln, I64 cl] := by rw [hg i hlt, ht]; rfl
    have b1 : (s.toList == s.toList) = true := by rw [beq_self_eq_true]
    have b2 : (v.2.2.toList == v.2.2.toList) = true := by rw [beq_self_eq_true]
    repeat' first | (with_reducible refine And.intro (by omega) ?_) | (refine SW.seq_k fun K hK => ?_) | (refine SW.block ?_) | ((first | refine SW.region ?_ | refine SW.regionZ (id := 6) (Checked.mixed Tryd.checked) ((.one 0 [0, 2, 3, 8] (.one 1 [1, 2, 3, 8] (.one 2 [2, 3, 8] (.one 3 [3, 8] (.one 4 [4, 6, 7, 8] (.one 5 [5, 6, 7, 8] (.one 6 [6, 7, 8] (.one 7 [7, 8] (.one 8 [8] .done))))))))) : OZ) (by kernel_rfl) ?_ | refine SW.regionD (Checked.mixed Tryd.checked) (by kernel_rfl) ?_ | refine SW.cond ?_ | refine SW.skip ?_ | refine SW.exit ?_ | refine SW.ret ?_ | (refine allF_i fun b hb => ?_; replace hD := And.intro hb hD; clear hb; try simp only [fresh_cons, fresh_nil, and_true, ne_eq, neF] at hD) | simp only [appK, appOsK]); try simp only [go_sem, ↓reduceIte, reduceCtorEq, Nat.reduceAdd, Nat.reduceMul, Nat.reduceSub, Nat.reduceLT, Nat.reduceLeDiff, Nat.reduceEqDiff, Nat.reduceBEq, Nat.reduceBneDiff, Int.reduceToNat, Int.reduceEq, hD, hli, ie, i0, w1, tf, tg, b1, b2]) | (refine And.intro (by omega) ?_) | (refine ifI (fun hc => ?_) (fun hc => ?_) <;> first | (exfalso; omega) | skip) | (first | (apply hK; clear hK K) | ((iterate 1 (clear hK K)); apply hK; clear hK K) | ((iterate 2 (clear hK K)); apply hK; clear hK K) | ((iterate 3 (clear hK K)); apply hK; clear hK K) | ((iterate 4 (clear hK K)); apply hK; clear hK K) | ((iterate 5 (clear hK K)); apply hK; clear hK K)) | (refine And.intro ?_ ?_)
    refine Rnd.sub (n - (i + 1)) (by omega) ((hI _ _).2 ⟨i + 1, rfl, by omega, rfl⟩) (by repeat' (first | exact rfl | exact trivial | exact int_eq (by omega) | exact int_eq (by (rw [i64_wrap] <;> omega)) | constructor))
  · have hli : ¬ ((i : Nat) : Int) < ((n : Nat) : Int) := by omega
    repeat' first | (with_reducible refine And.intro (by omega) ?_) | (refine SW.seq_k fun K hK => ?_) | (refine SW.block ?_) | ((first | refine SW.region ?_ | refine SW.regionD (Checked.mixed Tryd.checked) (by kernel_rfl) ?_ | refine SW.cond ?_ | refine SW.skip ?_ | refine SW.exit ?_ | refine SW.ret ?_ | (refine allF_i fun b hb => ?_; replace hD := And.intro hb hD; clear hb; try simp only [fresh_cons, fresh_nil, and_true, ne_eq, neF] at hD) | simp only [appK, appOsK]); try simp only [go_sem, ↓reduceIte, reduceCtorEq, Nat.reduceAdd, Nat.reduceMul, Nat.reduceSub, Nat.reduceLT, Nat.reduceLeDiff, Nat.reduceEqDiff, Nat.reduceBEq, Nat.reduceBneDiff, Int.reduceToNat, Int.reduceEq, hD, hli]) | (refine And.intro (by omega) ?_) | (refine ifI (fun hc => ?_) (fun hc => ?_) <;> first | (exfalso; omega) | skip) | (first | (apply hK; clear hK K) | ((iterate 1 (clear hK K)); apply hK; clear hK K) | ((iterate 2 (clear hK K)); apply hK; clear hK K) | ((iterate 3 (clear hK K)); apply hK; clear hK K) | ((iterate 4 (clear hK K)); apply hK; clear hK K) | ((iterate 5 (clear hK K)); apply hK; clear hK K))
    refine ret_pure ?_; simp only [resL_tmp, resL_nil, tupOf, go_sem, ↓reduceIte, reduceCtorEq, Nat.reduceAdd, Nat.reduceMul, Nat.reduceSub, Nat.reduceLT, Nat.reduceLeDiff, Nat.reduceEqDiff, Nat.reduceBEq, Nat.reduceBneDiff, Int.reduceToNat, Int.reduceEq, hD]

set_option maxHeartbeats 4000000 in
set_option maxRecDepth 20000 in
theorem statements_r (l : List Tok) (hl : l.length ≤ 1000000) : PCall Tryd.prog 25 [TS l] (stSR l (stRR l)) := by
  obtain ⟨X, hX⟩ : ∃ X, X = stI l 0 0 [] := ⟨_, rfl⟩
  unfold stRR
  rw [← hX]
  have hC0 : X = stI (l.drop 0) 0 0 [] := by rw [hX, List.drop_zero]
  clear hX
  refine Call.enter' (N := 50) (rs := [.tmp 2, .tmp 3, .tmp 4]) Tryd.func25 rfl rfl rfl (by decide) rfl ?_; simp only [argT]; have hD : (0 : Nat) = 0 := rfl
  repeat' first | (with_reducible refine And.intro (by omega) ?_) | (refine SW.seq_k fun K hK => ?_) | (refine SW.block ?_) | ((first | refine SW.region ?_ | refine SW.regionD (Checked.mixed Tryd.checked) (by kernel_rfl) ?_ | refine SW.cond ?_ | refine SW.skip ?_ | refine SW.exit ?_ | refine SW.ret ?_ | (refine allF_i fun b hb => ?_; replace hD := And.intro hb hD; clear hb; try simp only [fresh_cons, fresh_nil, and_true, ne_eq, neF] at hD) | simp only [appK, appOsK]); try simp only [go_sem, ↓reduceIte, reduceCtorEq, Nat.reduceAdd, Nat.reduceMul, Nat.reduceSub, Nat.reduceLT, Nat.reduceLeDiff, Nat.reduceEqDiff, Nat.reduceBEq, Nat.reduceBneDiff, Int.reduceToNat, Int.reduceEq, hD]) | (refine And.intro (by omega) ?_) | (refine ifI (fun hc => ?_) (fun hc => ?_) <;> first | (exfalso; omega) | skip) | (first | (apply hK; clear hK K) | ((iterate 1 (clear hK K)); apply hK; clear hK K) | ((iterate 2 (clear hK K)); apply hK; clear hK K) | ((iterate 3 (clear hK K)); apply hK; clear hK K) | ((iterate 4 (clear hK K)); apply hK; clear hK K) | ((iterate 5 (clear hK K)); apply hK; clear hK K))
  obtain ⟨I, hI⟩ : ∃ I : Nat → St → Prop, ∀ k S, I k S ↔ (∃ (i fr : Nat) (out : List (Nat × Nat)) (x : SV) (h : Heap), k = l.length - i ∧ i ≤ l.length ∧ fr ≤ i ∧ out.length ≤ i ∧ X = stI (l.drop i) i fr out ∧ Acc 1 x h [] out.length (out.map (subSV l)) ∧
    S = ⟨[(0, TS l), (5, x), (6, I64 fr), (7, I64 i)], h⟩) := ⟨fun k S => _, fun _ _ => Iff.rfl⟩
  refine SW.loop' I l.length ((hI _ _).2 ⟨0, 0, [], _, _, rfl, Nat.zero_le _, Nat.le_refl _, Nat.le_refl _, hC0, .nil _ _, rfl⟩) (by repeat' (first | exact rfl | exact trivial | exact int_eq (by omega) | exact int_eq (by (rw [i64_wrap] <;> omega)) | constructor)) ?_
  clear hC0
  intro k S hIn
  obtain ⟨i, fr, out, x, h, rfl, hi, hfr, hout, hC, hO, rfl⟩ := (hI _ _).1 hIn
  clear hIn
  have ie : ((i : Nat) : Int).toNat = i := Int.toNat_natCast _
  have i0 : (0 : Int) ≤ ((i : Nat) : Int) := by omega
  by_cases hlt : i < l.length
  · have hli : ((i : Nat) : Int) < ((l.length : Nat) : Int) := by omega
    have w1 : IntKind.i64.wrap ((i : Int) + 1) = ((i + 1 : Nat) : Int) := by rw [i64_wrap (by omega) (by omega)]; omega
    have hg : l.getD i tok0 = l[i] := by simp [List.getD_eq_getElem?_getD, hlt]
    have hd : l.drop i = l.getD i tok0 :: l.drop (i + 1) := by rw [List.drop_eq_getElem_cons hlt, hg]
    rw [hd] at hC
    obtain ⟨k, s, ⟨a, n, t⟩, ln, cl, ht⟩ : ∃ k s v ln cl, l.getD i tok0 = ⟨k, s, v, ln, cl⟩ := ⟨_, _, _, _, _, rfl⟩
    have tf : tokF l i = [I64 k, Str s, I64 a, I64 n, Str t, I64 ln, I64 cl] := by unfold tokF; rw [ht]; rfl
    rw [ht] at hC
    have he := text_eq s [59] #[59] rfl
    have pc : stI (⟨k, s, (a, n, t), ln, cl⟩ :: l.drop (i + 1)) i fr out = if semi ⟨k, s, (a, n, t), ln, cl⟩ = true then stI (l.drop (i + 1)) (i + 1) (i + 1) (out ++ [(fr, i)]) else stI (l.drop (i + 1)) (i + 1) fr out := rfl
    rw [pc] at hC
    have f1 : (([I64 k, Str s, I64 a, I64 n, Str t, I64 ln, I64 cl] : List SV).drop 0).take 1 = [I64 k] := rfl
    have f1b : ([I64 k, Str s, I64 a, I64 n, Str t, I64 ln, I64 cl] : List SV).take 1 = [I64 k] := rfl
    have f2 : (([I64 k, Str s, I64 a, I64 n, Str t, I64 ln, I64 cl] : List SV).drop 1).take 1 = [Str s] := rfl
    have ba : (out.length + 1) * 24 ≤ 140737488355328 := by omega
    have s1 : (fr : Int) ≤ (i : Int) := by omega
    have s2 : (i : Int) ≤ ((l.length : Nat) : Int) := by omega
    have s3 : ((i : Int) - (fr : Int)).toNat = i - fr := by omega
    have s4 : (0 : Int) ≤ (fr : Int) := by omega
    have s5 : (i : Int) ≤ (i : Int) := Int.le_refl _
    have s6 : ((fr : Nat) : Int).toNat = fr := Int.toNat_natCast _
    cases hs : semi ⟨k, s, (a, n, t), ln, cl⟩ with
    | true =>
      rw [hs, if_pos rfl] at hC
      unfold semi at hs
      rw [Bool.and_eq_true, decide_eq_true_eq, decide_eq_true_eq] at hs
      obtain ⟨k3, s59⟩ := hs
      simp only at k3 s59
      subst k3
      rw [decide_eq_true s59] at he
      rcases hO.cases with ⟨e0, e1, rfl, rfl⟩ | ⟨b, e0, rfl, hle⟩
      · repeat' first | (with_reducible refine And.intro (by omega) ?_) | (refine SW.seq_k fun K hK => ?_) | (refine SW.block ?_) | ((first | refine SW.region ?_ | refine SW.regionD (Checked.mixed Tryd.checked) (by kernel_rfl) ?_ | refine SW.cond ?_ | refine SW.skip ?_ | refine SW.exit ?_ | refine SW.ret ?_ | (refine allF_i fun b hb => ?_; replace hD := And.intro hb hD; clear hb; try simp only [fresh_cons, fresh_nil, and_true, ne_eq, neF] at hD) | simp only [appK, appOsK]); try simp only [go_sem, ↓reduceIte, reduceCtorEq, Nat.reduceAdd, Nat.reduceMul, Nat.reduceSub, Nat.reduceLT, Nat.reduceLeDiff, Nat.reduceEqDiff, Nat.reduceBEq, Nat.reduceBneDiff, Int.reduceToNat, Int.reduceEq, hD, hli, ie, i0, w1, tf, he, ba, f1, f1b, f2, s1, s2, s3, s4, s6, true_implies]) | (refine And.intro (by omega) ?_) | (refine ifI (fun hc => ?_) (fun hc => ?_) <;> first | (exfalso; omega) | skip) | (first | (apply hK; clear hK K) | ((iterate 1 (clear hK K)); apply hK; clear hK K) | ((iterate 2 (clear hK K)); apply hK; clear hK K) | ((iterate 3 (clear hK K)); apply hK; clear hK K) | ((iterate 4 (clear hK K)); apply hK; clear hK K) | ((iterate 5 (clear hK K)); apply hK; clear hK K))
        obtain rfl : out = [] := List.eq_nil_of_length_eq_zero e0
        obtain ⟨hB2, hle2⟩ := Acc.keep (sz := 1) (n := 1) (b := b) (cs := [subSV l (fr, i)]) (h' := _) (List.mem_cons_self ..) rfl
        refine Rnd.le (hle2 _) ?_
        refine Rnd.sub (l.length - (i + 1)) (by omega) ((hI _ _).2 ⟨i + 1, i + 1, [] ++ [(fr, i)], _, _, rfl, by omega, Nat.le_refl _, by simp, hC, hB2, rfl⟩) (by repeat' (first | exact rfl | exact trivial | exact int_eq (by omega) | exact int_eq (by (rw [i64_wrap] <;> omega)) | constructor))
      · refine SW.le (hle _) ?_
        repeat' first | (with_reducible refine And.intro (by omega) ?_) | (refine SW.seq_k fun K hK => ?_) | (refine SW.block ?_) | ((first | refine SW.region ?_ | refine SW.regionD (Checked.mixed Tryd.checked) (by kernel_rfl) ?_ | refine SW.cond ?_ | refine SW.skip ?_ | refine SW.exit ?_ | refine SW.ret ?_ | (refine allF_i fun b hb => ?_; replace hD := And.intro hb hD; clear hb; try simp only [fresh_cons, fresh_nil, and_true, ne_eq, neF] at hD) | simp only [appK, appOsK]); try simp only [go_sem, ↓reduceIte, reduceCtorEq, Nat.reduceAdd, Nat.reduceMul, Nat.reduceSub, Nat.reduceLT, Nat.reduceLeDiff, Nat.reduceEqDiff, Nat.reduceBEq, Nat.reduceBneDiff, Int.reduceToNat, Int.reduceEq, hD, hli, ie, i0, w1, tf, he, ba, f1, f1b, f2, s1, s2, s3, s4, s6, true_implies]) | (refine And.intro (by omega) ?_) | (refine ifI (fun hc => ?_) (fun hc => ?_) <;> first | (exfalso; omega) | skip) | (first | (apply hK; clear hK K) | ((iterate 1 (clear hK K)); apply hK; clear hK K) | ((iterate 2 (clear hK K)); apply hK; clear hK K) | ((iterate 3 (clear hK K)); apply hK; clear hK K) | ((iterate 4 (clear hK K)); apply hK; clear hK K) | ((iterate 5 (clear hK K)); apply hK; clear hK K))
        obtain ⟨hB2, hle2⟩ := Acc.keep (sz := 1) (n := out.length + 1) (b := b) (cs := out.map (subSV l) ++ [subSV l (fr, i)]) (h' := _) (List.mem_cons_of_mem _ (List.mem_cons_self ..)) (by rw [List.length_append, List.length_map]; simp)
        refine Rnd.le (hle2 _) ?_
        refine Rnd.sub (l.length - (i + 1)) (by omega) ((hI _ _).2 ⟨i + 1, i + 1, out ++ [(fr, i)], _, _, rfl, by omega, Nat.le_refl _, by rw [List.length_append]; simp only [List.length_cons, List.length_nil]; omega, hC, by rw [← map_sub, List.length_append]; exact hB2, rfl⟩) (by repeat' (first | exact rfl | exact trivial | exact int_eq (by omega) | exact int_eq (by (rw [i64_wrap] <;> omega)) | constructor))
    | false =>
      rw [hs, if_neg (by simp)] at hC
      unfold semi at hs
      have ways : (¬ k = 3) ∨ (k = 3 ∧ decide (s.data.toList = [59]) = false) := by
        by_cases k3 : k = 3
        · right
          rw [decide_eq_true k3, Bool.true_and] at hs
          exact ⟨k3, hs⟩
        · exact .inl k3
      rcases ways with k3 | ⟨rfl, s59⟩
      · repeat' first | (with_reducible refine And.intro (by omega) ?_) | (refine SW.seq_k fun K hK => ?_) | (refine SW.block ?_) | ((first | refine SW.region ?_ | refine SW.regionD (Checked.mixed Tryd.checked) (by kernel_rfl) ?_ | refine SW.cond ?_ | refine SW.skip ?_ | refine SW.exit ?_ | refine SW.ret ?_ | (refine allF_i fun b hb => ?_; replace hD := And.intro hb hD; clear hb; try simp only [fresh_cons, fresh_nil, and_true, ne_eq, neF] at hD) | simp only [appK, appOsK]); try simp only [go_sem, ↓reduceIte, reduceCtorEq, Nat.reduceAdd, Nat.reduceMul, Nat.reduceSub, Nat.reduceLT, Nat.reduceLeDiff, Nat.reduceEqDiff, Nat.reduceBEq, Nat.reduceBneDiff, Int.reduceToNat, Int.reduceEq, hD, hli, ie, i0, w1, tf, he, k3, f1, f1b, f2]) | (refine And.intro (by omega) ?_) | (refine ifI (fun hc => ?_) (fun hc => ?_) <;> first | (exfalso; omega) | skip) | (first | (apply hK; clear hK K) | ((iterate 1 (clear hK K)); apply hK; clear hK K) | ((iterate 2 (clear hK K)); apply hK; clear hK K) | ((iterate 3 (clear hK K)); apply hK; clear hK K) | ((iterate 4 (clear hK K)); apply hK; clear hK K) | ((iterate 5 (clear hK K)); apply hK; clear hK K))
        refine Rnd.sub (l.length - (i + 1)) (by omega) ((hI _ _).2 ⟨i + 1, fr, out, _, _, rfl, by omega, by omega, by omega, hC, hO, rfl⟩) (by repeat' (first | exact rfl | exact trivial | exact int_eq (by omega) | exact int_eq (by (rw [i64_wrap] <;> omega)) | constructor))
      · rw [s59] at he
        repeat' first | (with_reducible refine And.intro (by omega) ?_) | (refine SW.seq_k fun K hK => ?_) | (refine SW.block ?_) | ((first | refine SW.region ?_ | refine SW.regionD (Checked.mixed Tryd.checked) (by kernel_rfl) ?_ | refine SW.cond ?_ | refine SW.skip ?_ | refine SW.exit ?_ | refine SW.ret ?_ | (refine allF_i fun b hb => ?_; replace hD := And.intro hb hD; clear hb; try simp only [fresh_cons, fresh_nil, and_true, ne_eq, neF] at hD) | simp only [appK, appOsK]); try simp only [go_sem, ↓reduceIte, reduceCtorEq, Nat.reduceAdd, Nat.reduceMul, Nat.reduceSub, Nat.reduceLT, Nat.reduceLeDiff, Nat.reduceEqDiff, Nat.reduceBEq, Nat.reduceBneDiff, Int.reduceToNat, Int.reduceEq, hD, hli, ie, i0, w1, tf, he, f1, f1b, f2]) | (refine And.intro (by omega) ?_) | (refine ifI (fun hc => ?_) (fun hc => ?_) <;> first | (exfalso; omega) | skip) | (first | (apply hK; clear hK K) | ((iterate 1 (clear hK K)); apply hK; clear hK K) | ((iterate 2 (clear hK K)); apply hK; clear hK K) | ((iterate 3 (clear hK K)); apply hK; clear hK K) | ((iterate 4 (clear hK K)); apply hK; clear hK K) | ((iterate 5 (clear hK K)); apply hK; clear hK K))
        refine Rnd.sub (l.length - (i + 1)) (by omega) ((hI _ _).2 ⟨i + 1, fr, out, _, _, rfl, by omega, by omega, by omega, hC, hO, rfl⟩) (by repeat' (first | exact rfl | exact trivial | exact int_eq (by omega) | exact int_eq (by (rw [i64_wrap] <;> omega)) | constructor))
  · have hli : ¬ ((i : Nat) : Int) < ((l.length : Nat) : Int) := by omega
    rw [List.drop_of_length_le (by omega)] at hC
    have hC2 : X = (out, fr) := hC
    subst hC2
    simp only
    by_cases hf : fr < l.length
    · have hfi : ((fr : Nat) : Int) < ((l.length : Nat) : Int) := by omega
      have w2 : IntKind.i64.wrap (((l.length : Nat) : Int) - 1) = ((l.length - 1 : Nat) : Int) := by rw [i64_wrap (by omega) (by omega)]; omega
      have j0 : (0 : Int) ≤ ((l.length - 1 : Nat) : Int) := by omega
      have j1 : ((l.length - 1 : Nat) : Int) < ((l.length : Nat) : Int) := by omega
      have je : ((l.length - 1 : Nat) : Int).toNat = l.length - 1 := Int.toNat_natCast _
      obtain ⟨k, s, ⟨a, n, t⟩, ln, cl, ht⟩ : ∃ k s v ln cl, l.getD (l.length - 1) tok0 = ⟨k, s, v, ln, cl⟩ := ⟨_, _, _, _, _, rfl⟩
      have tf : tokF l (l.length - 1) = [I64 k, Str s, I64 a, I64 n, Str t, I64 ln, I64 cl] := by unfold tokF; rw [ht]; rfl
      have f5 : (([I64 k, Str s, I64 a, I64 n, Str t, I64 ln, I64 cl] : List SV).drop 5).take 1 = [I64 ln] := rfl
      repeat' first | (with_reducible refine And.intro (by omega) ?_) | (refine SW.seq_k fun K hK => ?_) | (refine SW.block ?_) | ((first | refine SW.region ?_ | refine SW.regionZ (id := 10) (Checked.mixed Tryd.checked) ((.one 0 [0, 4, 5, 6, 8, 9] (.one 1 [1, 2, 3, 4, 5, 6, 8, 9] (.one 2 [2, 3, 4, 5, 6, 8, 9] (.one 3 [3, 4, 5, 6, 8, 9] (.one 4 [4, 5, 6, 8, 9] (.one 5 [5, 6, 8, 9] (.one 6 [6, 8, 9] (.one 7 [7, 8, 9] (.one 8 [8, 9] (.one 9 [9] .done)))))))))) : OZ) (by kernel_rfl) ?_ | refine SW.regionD (Checked.mixed Tryd.checked) (by kernel_rfl) ?_ | refine SW.cond ?_ | refine SW.skip ?_ | refine SW.exit ?_ | refine SW.ret ?_ | (refine allF_i fun b hb => ?_; replace hD := And.intro hb hD; clear hb; try simp only [fresh_cons, fresh_nil, and_true, ne_eq, neF] at hD) | simp only [appK, appOsK]); try simp only [go_sem, ↓reduceIte, reduceCtorEq, Nat.reduceAdd, Nat.reduceMul, Nat.reduceSub, Nat.reduceLT, Nat.reduceLeDiff, Nat.reduceEqDiff, Nat.reduceBEq, Nat.reduceBneDiff, Int.reduceToNat, Int.reduceEq, hD, hli, hfi, w2, j0, j1, je, tf, f5]) | (refine And.intro (by omega) ?_) | (refine ifI (fun hc => ?_) (fun hc => ?_) <;> first | (exfalso; omega) | skip) | (first | (apply hK; clear hK K) | ((iterate 1 (clear hK K)); apply hK; clear hK K) | ((iterate 2 (clear hK K)); apply hK; clear hK K) | ((iterate 3 (clear hK K)); apply hK; clear hK K) | ((iterate 4 (clear hK K)); apply hK; clear hK K) | ((iterate 5 (clear hK K)); apply hK; clear hK K)) | (refine And.intro ?_ ?_)
      refine retQ_le (St.le_nil_fl (i := 2) (sz := 1) (f := fun j => [subSV l (([] : List (Nat × Nat)).getD j (0, 0))]) rfl) ?_
      simp only [resL_tmp, resL_nil, tupOf, go_sem, ↓reduceIte, reduceCtorEq, Nat.reduceAdd, Nat.reduceMul, Nat.reduceSub, Nat.reduceLT, Nat.reduceLeDiff, Nat.reduceEqDiff, Nat.reduceBEq, Nat.reduceBneDiff, Int.reduceToNat, Int.reduceEq, hD]
      rw [if_pos hf, ht]
      rfl
    · have hfi : ¬ ((fr : Nat) : Int) < ((l.length : Nat) : Int) := by omega
      refine SW.le (St.le_acc_fl (i := 5) rfl hO (fun j => [subSV l (out.getD j (0, 0))]) (sub_at l out)) ?_
      repeat' first | (with_reducible refine And.intro (by omega) ?_) | (refine SW.seq_k fun K hK => ?_) | (refine SW.block ?_) | ((first | refine SW.region ?_ | refine SW.regionD (Checked.mixed Tryd.checked) (by kernel_rfl) ?_ | refine SW.cond ?_ | refine SW.skip ?_ | refine SW.exit ?_ | refine SW.ret ?_ | (refine allF_i fun b hb => ?_; replace hD := And.intro hb hD; clear hb; try simp only [fresh_cons, fresh_nil, and_true, ne_eq, neF] at hD) | simp only [appK, appOsK]); try simp only [go_sem, ↓reduceIte, reduceCtorEq, Nat.reduceAdd, Nat.reduceMul, Nat.reduceSub, Nat.reduceLT, Nat.reduceLeDiff, Nat.reduceEqDiff, Nat.reduceBEq, Nat.reduceBneDiff, Int.reduceToNat, Int.reduceEq, hD, hli, hfi]) | (refine And.intro (by omega) ?_) | (refine ifI (fun hc => ?_) (fun hc => ?_) <;> first | (exfalso; omega) | skip) | (first | (apply hK; clear hK K) | ((iterate 1 (clear hK K)); apply hK; clear hK K) | ((iterate 2 (clear hK K)); apply hK; clear hK K) | ((iterate 3 (clear hK K)); apply hK; clear hK K) | ((iterate 4 (clear hK K)); apply hK; clear hK K) | ((iterate 5 (clear hK K)); apply hK; clear hK K))
      refine ret_pure ?_; simp only [resL_tmp, resL_nil, tupOf, go_sem, ↓reduceIte, reduceCtorEq, Nat.reduceAdd, Nat.reduceMul, Nat.reduceSub, Nat.reduceLT, Nat.reduceLeDiff, Nat.reduceEqDiff, Nat.reduceBEq, Nat.reduceBneDiff, Int.reduceToNat, Int.reduceEq, hD]
      rw [if_neg hf]
      rfl
end Go.Proofs.YtajbifibhgppfaaDoor
