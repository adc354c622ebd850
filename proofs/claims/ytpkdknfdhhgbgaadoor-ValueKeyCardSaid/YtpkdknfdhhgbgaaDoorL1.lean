/- The laws of Valid, Compare, Order, Format, Parse, Int and Str: true at every input. -/
import Derived.Test.YtpkdknfdhhgbgaaDoorW1
set_option linter.unusedSimpArgs false
set_option linter.unusedVariables false
set_option linter.unusedSectionVars false
namespace Go.Ab
open Go
theorem sgn_swap (a b : Int) : sgn b a = -sgn a b := by
  unfold sgn
  rcases Int.lt_trichotomy a b with h | h | h
  · rw [if_neg (by omega), if_pos h, if_pos h]; rfl
  · rw [if_neg (by omega), if_neg (by omega), if_neg (by omega), if_neg (by omega)]; rfl
  · rw [if_pos h, if_neg (by omega), if_pos h]
theorem sgn_zero {a b : Int} : sgn a b = 0 ↔ a = b := by
  unfold sgn
  constructor
  · intro h
    split at h
    · cases h
    · split at h
      · cases h
      · omega
  · rintro rfl
    rw [if_neg (by omega), if_neg (by omega)]
theorem sgn_cases (a b : Int) : (sgn a b = -1 ∧ a < b) ∨ (sgn a b = 0 ∧ a = b) ∨ (sgn a b = 1 ∧ b < a) := by
  unfold sgn
  rcases Int.lt_trichotomy a b with h | h | h
  · exact .inl ⟨by rw [if_pos h], h⟩
  · exact .inr (.inl ⟨by rw [if_neg (by omega), if_neg (by omega)], h⟩)
  · exact .inr (.inr ⟨by rw [if_neg (by omega), if_pos h], h⟩)
theorem cb_cases : ∀ (a b : List UInt8), Lib.compareBytes a b = -1 ∨ (Lib.compareBytes a b = 0 ∧ a = b) ∨ Lib.compareBytes a b = 1
  | [], [] => .inr (.inl ⟨rfl, rfl⟩)
  | [], _ :: _ => .inl rfl
  | _ :: _, [] => .inr (.inr rfl)
  | x :: a, y :: b => by
    unfold Lib.compareBytes
    split
    · exact .inl rfl
    · split
      · exact .inr (.inr rfl)
      · rcases cb_cases a b with h | ⟨h, e⟩ | h
        · exact .inl h
        · refine .inr (.inl ⟨h, ?_⟩)
          have : x = y := UInt8.toNat_inj.1 (by simp only [UInt8.lt_iff_toNat_lt] at *; omega)
          rw [e, this]
        · exact .inr (.inr h)
theorem cb_swap : ∀ (a b : List UInt8), Lib.compareBytes b a = -Lib.compareBytes a b
  | [], [] => rfl
  | [], _ :: _ => rfl
  | _ :: _, [] => rfl
  | x :: a, y :: b => by
    unfold Lib.compareBytes
    by_cases h1 : x < y
    · rw [if_pos h1, if_neg (by simp only [UInt8.lt_iff_toNat_lt] at *; omega), if_pos h1]; rfl
    · by_cases h2 : y < x
      · rw [if_pos h2, if_neg h1, if_pos h2]
      · rw [if_neg h2, if_neg h1, if_neg h1, if_neg h2, cb_swap a b]
/-- One comparison behind another. -/
def lex (s t : Int) : Int := if s = 0 then t else s
/-- Transitive. -/
def Tr (m n k : Int) : Prop := (m ≤ 0 → n ≤ 0 → k ≤ 0 ∧ (k = 0 → m = 0 ∧ n = 0)) ∧ (m = 0 → n = 0 → k = 0)
theorem Tr.lex {m n k m' n' k' : Int} (h : Tr m n k) (h' : Tr m' n' k') : Tr (lex m m') (lex n n') (lex k k') := by
  unfold Tr Ab.lex at *
  obtain ⟨h1, h2⟩ := h
  obtain ⟨h3, h4⟩ := h'
  refine ⟨fun a b => ?_, fun a b => ?_⟩
  · have hm : m ≤ 0 := by split at a <;> omega
    have hn : n ≤ 0 := by split at b <;> omega
    obtain ⟨k1, k2⟩ := h1 hm hn
    by_cases hk : k = 0
    · obtain ⟨rfl, rfl⟩ := k2 hk
      rw [if_pos rfl] at a b
      obtain ⟨k3, k4⟩ := h3 a b
      rw [if_pos hk, if_pos rfl, if_pos rfl]
      exact ⟨k3, k4⟩
    · rw [if_neg hk]
      exact ⟨k1, fun x => absurd x hk⟩
  · have hm : m = 0 ∧ m' = 0 := by split at a <;> omega
    have hn : n = 0 ∧ n' = 0 := by split at b <;> omega
    rw [if_pos (h2 hm.1 hn.1)]
    exact h4 hm.2 hn.2
theorem sgn_tr (a b c : Int) : Tr (sgn a b) (sgn b c) (sgn a c) := by
  unfold Tr
  rcases sgn_cases a b with h1 | h1 | h1 <;> rcases sgn_cases b c with h2 | h2 | h2 <;> rcases sgn_cases a c with h3 | h3 | h3 <;> omega
theorem cb_lex (x y : UInt8) (a b : List UInt8) : Lib.compareBytes (x :: a) (y :: b) = lex (sgn x.toNat y.toNat) (Lib.compareBytes a b) := by
  show (if x < y then (-1 : Int) else if y < x then 1 else Lib.compareBytes a b) = _
  unfold lex
  simp only [UInt8.lt_iff_toNat_lt]
  rcases Nat.lt_trichotomy x.toNat y.toNat with h | h | h
  · rw [if_pos h, show sgn (x.toNat : Int) y.toNat = -1 by unfold sgn; rw [if_pos (by omega)], if_neg (by decide)]
  · rw [if_neg (by omega), if_neg (by omega), show sgn (x.toNat : Int) y.toNat = 0 by unfold sgn; rw [if_neg (by omega), if_neg (by omega)], if_pos rfl]
  · rw [if_neg (by omega), if_pos h, show sgn (x.toNat : Int) y.toNat = 1 by unfold sgn; rw [if_neg (by omega), if_pos (by omega)], if_neg (by decide)]
theorem cb_tr : ∀ (a b c : List UInt8), Tr (Lib.compareBytes a b) (Lib.compareBytes b c) (Lib.compareBytes a c)
  | [], [], [] => by unfold Tr; decide
  | [], [], _ :: _ => by
    have e : Lib.compareBytes [] [] = 0 := rfl
    show Tr 0 (-1) (-1)
    unfold Tr; decide
  | [], _ :: _, [] => by
    show Tr (-1) 1 0
    unfold Tr; decide
  | _ :: _, [], [] => by
    show Tr 1 0 1
    unfold Tr; decide
  | [], y :: b, z :: c => by
    show Tr (-1) (Lib.compareBytes (y :: b) (z :: c)) (-1)
    unfold Tr
    omega
  | _ :: _, [], _ :: _ => by
    show Tr 1 (-1) _
    unfold Tr
    omega
  | x :: a, y :: b, [] => by
    show Tr (Lib.compareBytes (x :: a) (y :: b)) 1 1
    unfold Tr
    omega
  | x :: a, y :: b, z :: c => by
    rw [cb_lex, cb_lex, cb_lex]
    exact (sgn_tr _ _ _).lex (cb_tr a b c)
theorem cmpV_lex (k n : Int) (s : ByteArray) (k' n' : Int) (s' : ByteArray) : cmpV k n s k' n' s' = lex (sgn k k') (lex (sgn n n') (Lib.compareBytes s.data.toList s'.data.toList)) := rfl
theorem cmp_tr (k n : Int) (s : ByteArray) (k' n' : Int) (s' : ByteArray) (k'' n'' : Int) (s'' : ByteArray) : Tr (cmpV k n s k' n' s') (cmpV k' n' s' k'' n'' s'') (cmpV k n s k'' n'' s'') := by
  rw [cmpV_lex, cmpV_lex, cmpV_lex]
  exact (sgn_tr _ _ _).lex ((sgn_tr _ _ _).lex (cb_tr _ _ _))
theorem lex_neg (a b : Int) : lex (-a) (-b) = -lex a b := by
  unfold lex
  split <;> split <;> omega
theorem cmp_swap (k n : Int) (s : ByteArray) (k' n' : Int) (s' : ByteArray) : cmpV k' n' s' k n s = -cmpV k n s k' n' s' := by
  rw [cmpV_lex, cmpV_lex, sgn_swap k k', sgn_swap n n', cb_swap, lex_neg, lex_neg]
theorem cmp_cases (k n : Int) (s : ByteArray) (k' n' : Int) (s' : ByteArray) : (cmpV k n s k' n' s' = -1 ∨ cmpV k n s k' n' s' = 0 ∨ cmpV k n s k' n' s' = 1) ∧ (cmpV k n s k' n' s' = 0 ↔ k = k' ∧ n = n' ∧ s = s') := by
  rw [cmpV_lex]
  unfold lex
  have hb : s.data.toList = s'.data.toList ↔ s = s' := by
    constructor
    · intro h
      cases s; cases s'
      simp only at h
      rw [Array.toList_inj.1 h]
    · intro h; rw [h]
  have hcb : Lib.compareBytes s.data.toList s'.data.toList = 0 ↔ s = s' := by
    rw [← hb]
    constructor
    · intro h
      rcases cb_cases s.data.toList s'.data.toList with x | x | x
      · omega
      · exact x.2
      · omega
    · intro h
      rcases cb_cases s.data.toList s'.data.toList with x | x | x
      · have := cb_swap s.data.toList s'.data.toList; rw [h] at this x; omega
      · exact x.1
      · have := cb_swap s.data.toList s'.data.toList; rw [h] at this x; omega
  have hc3 := cb_cases s.data.toList s'.data.toList
  rcases sgn_cases k k' with ⟨h1, h2⟩ | ⟨h1, h2⟩ | ⟨h1, h2⟩
  · rw [if_neg (by omega)]
    exact ⟨by omega, by omega⟩
  · rw [if_pos h1]
    rcases sgn_cases n n' with ⟨g1, g2⟩ | ⟨g1, g2⟩ | ⟨g1, g2⟩
    · rw [if_neg (by omega)]
      exact ⟨by omega, by omega⟩
    · rw [if_pos g1]
      refine ⟨?_, by rw [hcb]; exact ⟨fun h => ⟨h2, g2, h⟩, fun h => h.2.2⟩⟩
      rcases hc3 with x | x | x
      · exact .inl x
      · exact .inr (.inl x.1)
      · exact .inr (.inr x)
    · rw [if_neg (by omega)]
      exact ⟨by omega, by omega⟩
  · rw [if_neg (by omega)]
    exact ⟨by omega, by omega⟩
end Go.Ab
namespace Go.Proofs.YtpkdknfdhhgbgaaDoor
open Go Go.Ab Go.Ab.A01
variable [Gl] [Tabs]

set_option maxRecDepth 20000 in
theorem law_valid (k n : Int) (s : ByteArray) : PCall Tryd.prog 3 [VS k n s] (SB true) := by
  have aw := awake_t
  have a1 := valid_p k n s
  have a2 := valid_r k n s
  generalize vok k n s = v at *
  refine Call.enter' (N := 11) (rs := [.tmp 2]) Tryd.func3 rfl rfl rfl (by decide) rfl ?_; simp only [argT]; have hD : (0 : Nat) = 0 := rfl
  repeat' first
    | (with_reducible refine And.intro (by omega) ?_)
    | (refine SW.seq_k fun K hK => ?_)
    | (refine SW.block ?_)
    | ((first
      | refine SW.region ?_
      | refine SW.regionZ (id := 1) (Checked.mixed Tryd.checked) ((.one 0 [0, 1, 2, 3, 4, 5, 6, 7, 8] (.one 1 [1, 2, 3, 4, 5, 6, 7, 8] (.one 2 [2, 3, 5, 6, 7, 8] (.one 3 [3, 5, 6, 7, 8] (.one 4 [4, 5, 6, 7, 8] (.one 5 [5, 6, 7, 8] (.one 6 [6, 7, 8] (.one 7 [7, 8] (.one 8 [8] .done))))))))) : OZ) (by kernel_rfl) ?_
      | refine SW.regionD (Checked.mixed Tryd.checked) (by kernel_rfl) ?_
      | refine SW.cond ?_
      | refine SW.skip ?_
      | refine SW.exit ?_
      | refine SW.ret ?_
      | refine Call.of_pure (aw) ?_
      | refine ⟨_, aw, ?_⟩
      | refine Call.of_pure (a1) ?_
      | refine ⟨_, a1, ?_⟩
      | refine Call.of_pure (a2) ?_
      | refine ⟨_, a2, ?_⟩
      | (refine allF_i fun b hb => ?_; replace hD := And.intro hb hD; clear hb; simp only [fresh_cons, fresh_nil, and_true, ne_eq, neF] at hD)
      | simp only [appK, appOsK]); try simp only [go_sem, ↓reduceIte, reduceCtorEq, Nat.reduceAdd, Nat.reduceMul, Nat.reduceSub, Nat.reduceLT, Nat.reduceLeDiff, Nat.reduceEqDiff, Nat.reduceBEq, Nat.reduceBneDiff, Int.reduceToNat, Int.toNat_natCast, eq_self, decide_true, decide_false, Int.reduceEq, and_true, true_and, if_false_eq, if_true_eq, List.getElem?_cons_zero, List.getElem?_cons_succ, setAll, List.length_cons, List.length_nil, List.length_set, List.getD_cons_zero, List.getD_cons_succ, Nat.le_refl, Int.le_refl, Nat.beq_refl, or_self, true_or, or_true, List.drop_zero, hD])
    | (refine And.intro (by omega) ?_)
    | (refine ifI (fun hc => ?_) (fun hc => ?_) <;> first | (exfalso; omega) | skip)
    | (first | (apply hK; clear hK K) | (clear hK K; apply hK; clear hK K) | (clear hK K; clear hK K; apply hK; clear hK K) | (clear hK K; clear hK K; clear hK K; apply hK; clear hK K) | (clear hK K; clear hK K; clear hK K; clear hK K; apply hK; clear hK K) | (clear hK K; clear hK K; clear hK K; clear hK K; clear hK K; apply hK; clear hK K))
    | (refine And.intro ?_ ?_)
    | fail
  all_goals (refine ret_pure ?_; simp only [resL_tmp, resL_nil, tupOf, go_sem, ↓reduceIte, reduceCtorEq, Nat.reduceAdd, Nat.reduceMul, Nat.reduceSub, Nat.reduceLT, Nat.reduceLeDiff, Nat.reduceEqDiff, Nat.reduceBEq, Nat.reduceBneDiff, Int.reduceToNat, Int.toNat_natCast, eq_self, decide_true, decide_false, Int.reduceEq, and_true, true_and, if_false_eq, if_true_eq, List.getElem?_cons_zero, List.getElem?_cons_succ, setAll, List.length_cons, List.length_nil, List.length_set, List.getD_cons_zero, List.getD_cons_succ, Nat.le_refl, Int.le_refl, Nat.beq_refl, or_self, true_or, or_true, List.drop_zero, hD])
  rw [beq_self_eq_true]

set_option maxRecDepth 20000 in
theorem law_compare (k n : Int) (s : ByteArray) (k' n' : Int) (s' : ByteArray) (hl : s.size ≤ 9223372036854775807) (hl' : s'.size ≤ 9223372036854775807) : PCall Tryd.prog 4 [VS k n s, VS k' n' s'] (SB true) := by
  have aw := awake_t
  have a1 := compare_p k n s k' n' s'
  have a2 := compare_r k n s k' n' s' hl hl'
  have a3 := compare_p k' n' s' k n s
  rw [cmp_swap] at a3
  obtain ⟨h1, h2⟩ := cmp_cases k n s k' n' s'
  have hs : ((s.toList == s'.toList) = true) ↔ s = s' := barr_eq
  generalize cmpV k n s k' n' s' = c at *
  have w : IntKind.i64.wrap (0 - c) = -c := by rw [i64_wrap (by omega) (by omega)]; omega
  refine Call.enter' (N := 32) (rs := [.tmp 4]) Tryd.func4 rfl rfl rfl (by decide) rfl ?_; simp only [argT]; have hD : (0 : Nat) = 0 := rfl
  repeat' first
    | (with_reducible refine And.intro (by omega) ?_)
    | (refine SW.seq_k fun K hK => ?_)
    | (refine SW.block ?_)
    | ((first
      | refine SW.region ?_
      | refine SW.regionD (Checked.mixed Tryd.checked) (by kernel_rfl) ?_
      | refine SW.cond ?_
      | refine SW.skip ?_
      | refine SW.exit ?_
      | refine SW.ret ?_
      | refine Call.of_pure (aw) ?_
      | refine ⟨_, aw, ?_⟩
      | refine Call.of_pure (a1) ?_
      | refine ⟨_, a1, ?_⟩
      | refine Call.of_pure (a2) ?_
      | refine ⟨_, a2, ?_⟩
      | refine Call.of_pure (a3) ?_
      | refine ⟨_, a3, ?_⟩
      | (refine allF_i fun b hb => ?_; replace hD := And.intro hb hD; clear hb; simp only [fresh_cons, fresh_nil, and_true, ne_eq, neF] at hD)
      | simp only [appK, appOsK]); try simp only [go_sem, ↓reduceIte, reduceCtorEq, Nat.reduceAdd, Nat.reduceMul, Nat.reduceSub, Nat.reduceLT, Nat.reduceLeDiff, Nat.reduceEqDiff, Nat.reduceBEq, Nat.reduceBneDiff, Int.reduceToNat, Int.toNat_natCast, eq_self, decide_true, decide_false, Int.reduceEq, and_true, true_and, if_false_eq, if_true_eq, List.getElem?_cons_zero, List.getElem?_cons_succ, setAll, List.length_cons, List.length_nil, List.length_set, List.getD_cons_zero, List.getD_cons_succ, Nat.le_refl, Int.le_refl, Nat.beq_refl, or_self, true_or, or_true, List.drop_zero, hD, w])
    | (refine And.intro (by omega) ?_)
    | (refine ifI (fun hc => ?_) (fun hc => ?_) <;> first | (exfalso; omega) | skip)
    | (first | (apply hK; clear hK K) | (clear hK K; apply hK; clear hK K) | (clear hK K; clear hK K; apply hK; clear hK K) | (clear hK K; clear hK K; clear hK K; apply hK; clear hK K) | (clear hK K; clear hK K; clear hK K; clear hK K; apply hK; clear hK K) | (clear hK K; clear hK K; clear hK K; clear hK K; clear hK K; apply hK; clear hK K))
    | (refine And.intro ?_ ?_)
    | fail
  refine ret_pure ?_; simp only [resL_tmp, resL_nil, tupOf, go_sem, ↓reduceIte, reduceCtorEq, Nat.reduceAdd, Nat.reduceMul, Nat.reduceSub, Nat.reduceLT, Nat.reduceLeDiff, Nat.reduceEqDiff, Nat.reduceBEq, Nat.reduceBneDiff, Int.reduceToNat, Int.toNat_natCast, eq_self, decide_true, decide_false, Int.reduceEq, and_true, true_and, if_false_eq, if_true_eq, List.getElem?_cons_zero, List.getElem?_cons_succ, setAll, List.length_cons, List.length_nil, List.length_set, List.getD_cons_zero, List.getD_cons_succ, Nat.le_refl, Int.le_refl, Nat.beq_refl, or_self, true_or, or_true, List.drop_zero, hD]
  refine congrArg (fun b => SV.sc (.bool b)) ?_
  rw [beq_iff_eq, Bool.eq_iff_iff, decide_eq_true_eq, h2, Bool.and_eq_true, Bool.and_eq_true, decide_eq_true_eq, decide_eq_true_eq, hs]

theorem ord_ok {m n k : Int} (h : Tr m n k) : ¬ (m ≤ 0 ∧ n ≤ 0 ∧ (0 < k ∨ ((m < 0 ∨ n < 0) ∧ k = 0))) := by
  rintro ⟨a, b, c⟩
  obtain ⟨h1, h2⟩ := h.1 a b
  rcases c with c | ⟨c, d⟩
  · omega
  · have := h2 d
    omega

set_option maxRecDepth 20000 in
theorem law_order (k n : Int) (s : ByteArray) (k' n' : Int) (s' : ByteArray) (k'' n'' : Int) (s'' : ByteArray) : PCall Tryd.prog 5 [.agg [I64 k, I64 n, Str s, I64 k', I64 n', Str s', I64 k'', I64 n'', Str s'']] (SB true) := by
  have aw := awake_t
  have a1 := compare_p k n s k' n' s'
  have a2 := compare_p k' n' s' k'' n'' s''
  have a3 := compare_p k n s k'' n'' s''
  have tr := cmp_tr k n s k' n' s' k'' n'' s''
  generalize cmpV k n s k' n' s' = a at *
  generalize cmpV k' n' s' k'' n'' s'' = b at *
  generalize cmpV k n s k'' n'' s'' = c at *
  have no := ord_ok tr
  clear tr
  refine Call.enter' (N := 46) (rs := [.tmp 2]) Tryd.func5 rfl rfl rfl (by decide) rfl ?_; simp only [argT]; have hD : (0 : Nat) = 0 := rfl
  repeat' first
    | (with_reducible refine And.intro (by omega) ?_)
    | (refine SW.seq_k fun K hK => ?_)
    | (refine SW.block ?_)
    | ((first
      | refine SW.region ?_
      | refine SW.regionZ (id := 3) (Checked.mixed Tryd.checked) ((.one 0 [0, 1, 4, 9, 14, 15, 16, 17] (.one 1 [1, 4, 9, 14, 15, 16, 17] (.one 2 [2, 3, 4, 9, 14, 15, 16, 17] (.one 3 [3, 4, 9, 14, 15, 16, 17] (.one 4 [4, 9, 14, 15, 16, 17] (.one 5 [5, 6, 9, 14, 15, 16, 17] (.one 6 [6, 9, 14, 15, 16, 17] (.one 7 [7, 8, 9, 14, 15, 16, 17] (.one 8 [8, 9, 14, 15, 16, 17] (.one 9 [9, 14, 15, 16, 17] (.one 10 [10, 11, 14, 15, 16, 17] (.one 11 [11, 14, 15, 16, 17] (.one 12 [12, 13, 14, 15, 16, 17] (.one 13 [13, 14, 15, 16, 17] (.one 14 [14, 15, 16, 17] (.one 15 [15, 16, 17] (.one 16 [16, 17] (.one 17 [17] .done)))))))))))))))))) : OZ) (by kernel_rfl) ?_
      | refine SW.regionD (Checked.mixed Tryd.checked) (by kernel_rfl) ?_
      | refine SW.cond ?_
      | refine SW.skip ?_
      | refine SW.exit ?_
      | refine SW.ret ?_
      | refine Call.of_pure (aw) ?_
      | refine ⟨_, aw, ?_⟩
      | refine Call.of_pure (a1) ?_
      | refine ⟨_, a1, ?_⟩
      | refine Call.of_pure (a2) ?_
      | refine ⟨_, a2, ?_⟩
      | refine Call.of_pure (a3) ?_
      | refine ⟨_, a3, ?_⟩
      | (refine allF_i fun b hb => ?_; replace hD := And.intro hb hD; clear hb; simp only [fresh_cons, fresh_nil, and_true, ne_eq, neF] at hD)
      | simp only [appK, appOsK]); try simp only [go_sem, ↓reduceIte, reduceCtorEq, Nat.reduceAdd, Nat.reduceMul, Nat.reduceSub, Nat.reduceLT, Nat.reduceLeDiff, Nat.reduceEqDiff, Nat.reduceBEq, Nat.reduceBneDiff, Int.reduceToNat, Int.toNat_natCast, eq_self, decide_true, decide_false, Int.reduceEq, and_true, true_and, if_false_eq, if_true_eq, List.getElem?_cons_zero, List.getElem?_cons_succ, setAll, List.length_cons, List.length_nil, List.length_set, List.getD_cons_zero, List.getD_cons_succ, Nat.le_refl, Int.le_refl, Nat.beq_refl, or_self, true_or, or_true, List.drop_zero, hD])
    | (refine And.intro (by omega) ?_)
    | (refine ifI (fun hc => ?_) (fun hc => ?_) <;> first | (exfalso; omega) | skip)
    | (first | (apply hK; clear hK K) | (clear hK K; apply hK; clear hK K) | (clear hK K; clear hK K; apply hK; clear hK K) | (clear hK K; clear hK K; clear hK K; apply hK; clear hK K) | (clear hK K; clear hK K; clear hK K; clear hK K; apply hK; clear hK K) | (clear hK K; clear hK K; clear hK K; clear hK K; clear hK K; apply hK; clear hK K))
    | (refine And.intro ?_ ?_)
    | fail
  all_goals
    refine ret_pure ?_; simp only [resL_tmp, resL_nil, tupOf, go_sem, ↓reduceIte, reduceCtorEq, Nat.reduceAdd, Nat.reduceMul, Nat.reduceSub, Nat.reduceLT, Nat.reduceLeDiff, Nat.reduceEqDiff, Nat.reduceBEq, Nat.reduceBneDiff, Int.reduceToNat, Int.toNat_natCast, eq_self, decide_true, decide_false, Int.reduceEq, and_true, true_and, if_false_eq, if_true_eq, List.getElem?_cons_zero, List.getElem?_cons_succ, setAll, List.length_cons, List.length_nil, List.length_set, List.getD_cons_zero, List.getD_cons_succ, Nat.le_refl, Int.le_refl, Nat.beq_refl, or_self, true_or, or_true, List.drop_zero, hD]
    first
    | rfl
    | (refine congrArg (fun b => SV.sc (.bool b)) ?_; simp only [Bool.not_eq_true', decide_eq_false_iff_not]; omega)
    | done

set_option maxRecDepth 20000 in
theorem law_make (n : Int) (s : ByteArray) : PCall Tryd.prog 8 [I64 n, Str s] (SB true) := by
  have aw := awake_t
  have ip := int_p n
  have sp := str_p s
  have se : (s.toList == s.toList) = true := barr_eq.2 rfl
  have se0 : ((⟨#[]⟩ : ByteArray).toList == (⟨#[]⟩ : ByteArray).toList) = true := barr_eq.2 rfl
  by_cases h : 200 < s.size
  · rw [if_pos h] at sp
    have hi : (200 : Int) < ((s.size : Nat) : Int) := by omega
    refine Call.enter' (N := 37) (rs := [.tmp 4]) Tryd.func8 rfl rfl rfl (by decide) rfl ?_; simp only [argT]; have hD : (0 : Nat) = 0 := rfl
    repeat' first
      | (with_reducible refine And.intro (by omega) ?_)
      | (refine SW.seq_k fun K hK => ?_)
      | (refine SW.block ?_)
      | ((first
      | refine SW.region ?_
      | refine SW.regionD (Checked.mixed Tryd.checked) (by kernel_rfl) ?_
      | refine SW.cond ?_
      | refine SW.skip ?_
      | refine SW.exit ?_
      | refine SW.ret ?_
      | refine Call.of_pure (aw) ?_
      | refine ⟨_, aw, ?_⟩
      | refine Call.of_pure (ip) ?_
      | refine ⟨_, ip, ?_⟩
      | refine Call.of_pure (sp) ?_
      | refine ⟨_, sp, ?_⟩
      | (refine allF_i fun b hb => ?_; replace hD := And.intro hb hD; clear hb; simp only [fresh_cons, fresh_nil, and_true, ne_eq, neF] at hD)
      | simp only [appK, appOsK]); try simp only [go_sem, ↓reduceIte, reduceCtorEq, Nat.reduceAdd, Nat.reduceMul, Nat.reduceSub, Nat.reduceLT, Nat.reduceLeDiff, Nat.reduceEqDiff, Nat.reduceBEq, Nat.reduceBneDiff, Int.reduceToNat, Int.toNat_natCast, eq_self, decide_true, decide_false, Int.reduceEq, and_true, true_and, if_false_eq, if_true_eq, List.getElem?_cons_zero, List.getElem?_cons_succ, setAll, List.length_cons, List.length_nil, List.length_set, List.getD_cons_zero, List.getD_cons_succ, Nat.le_refl, Int.le_refl, Nat.beq_refl, or_self, true_or, or_true, List.drop_zero, hD, se0, hi])
      | (refine And.intro (by omega) ?_)
      | (refine ifI (fun hc => ?_) (fun hc => ?_) <;> first | (exfalso; omega) | skip)
      | (first | (apply hK; clear hK K) | (clear hK K; apply hK; clear hK K) | (clear hK K; clear hK K; apply hK; clear hK K) | (clear hK K; clear hK K; clear hK K; apply hK; clear hK K) | (clear hK K; clear hK K; clear hK K; clear hK K; apply hK; clear hK K) | (clear hK K; clear hK K; clear hK K; clear hK K; clear hK K; apply hK; clear hK K))
      | (refine And.intro ?_ ?_)
      | fail
    all_goals refine ret_pure ?_; simp only [resL_tmp, resL_nil, tupOf, go_sem, ↓reduceIte, reduceCtorEq, Nat.reduceAdd, Nat.reduceMul, Nat.reduceSub, Nat.reduceLT, Nat.reduceLeDiff, Nat.reduceEqDiff, Nat.reduceBEq, Nat.reduceBneDiff, Int.reduceToNat, Int.toNat_natCast, eq_self, decide_true, decide_false, Int.reduceEq, and_true, true_and, if_false_eq, if_true_eq, List.getElem?_cons_zero, List.getElem?_cons_succ, setAll, List.length_cons, List.length_nil, List.length_set, List.getD_cons_zero, List.getD_cons_succ, Nat.le_refl, Int.le_refl, Nat.beq_refl, or_self, true_or, or_true, List.drop_zero, hD]
  · rw [if_neg h] at sp
    have hi : ¬ (200 : Int) < ((s.size : Nat) : Int) := by omega
    refine Call.enter' (N := 37) (rs := [.tmp 4]) Tryd.func8 rfl rfl rfl (by decide) rfl ?_; simp only [argT]; have hD : (0 : Nat) = 0 := rfl
    repeat' first
      | (with_reducible refine And.intro (by omega) ?_)
      | (refine SW.seq_k fun K hK => ?_)
      | (refine SW.block ?_)
      | ((first
      | refine SW.region ?_
      | refine SW.regionD (Checked.mixed Tryd.checked) (by kernel_rfl) ?_
      | refine SW.cond ?_
      | refine SW.skip ?_
      | refine SW.exit ?_
      | refine SW.ret ?_
      | refine Call.of_pure (aw) ?_
      | refine ⟨_, aw, ?_⟩
      | refine Call.of_pure (ip) ?_
      | refine ⟨_, ip, ?_⟩
      | refine Call.of_pure (sp) ?_
      | refine ⟨_, sp, ?_⟩
      | (refine allF_i fun b hb => ?_; replace hD := And.intro hb hD; clear hb; simp only [fresh_cons, fresh_nil, and_true, ne_eq, neF] at hD)
      | simp only [appK, appOsK]); try simp only [go_sem, ↓reduceIte, reduceCtorEq, Nat.reduceAdd, Nat.reduceMul, Nat.reduceSub, Nat.reduceLT, Nat.reduceLeDiff, Nat.reduceEqDiff, Nat.reduceBEq, Nat.reduceBneDiff, Int.reduceToNat, Int.toNat_natCast, eq_self, decide_true, decide_false, Int.reduceEq, and_true, true_and, if_false_eq, if_true_eq, List.getElem?_cons_zero, List.getElem?_cons_succ, setAll, List.length_cons, List.length_nil, List.length_set, List.getD_cons_zero, List.getD_cons_succ, Nat.le_refl, Int.le_refl, Nat.beq_refl, or_self, true_or, or_true, List.drop_zero, hD, se, se0, hi])
      | (refine And.intro (by omega) ?_)
      | (refine ifI (fun hc => ?_) (fun hc => ?_) <;> first | (exfalso; omega) | skip)
      | (first | (apply hK; clear hK K) | (clear hK K; apply hK; clear hK K) | (clear hK K; clear hK K; apply hK; clear hK K) | (clear hK K; clear hK K; clear hK K; apply hK; clear hK K) | (clear hK K; clear hK K; clear hK K; clear hK K; apply hK; clear hK K) | (clear hK K; clear hK K; clear hK K; clear hK K; clear hK K; apply hK; clear hK K))
      | (refine And.intro ?_ ?_)
      | fail
    all_goals refine ret_pure ?_; simp only [resL_tmp, resL_nil, tupOf, go_sem, ↓reduceIte, reduceCtorEq, Nat.reduceAdd, Nat.reduceMul, Nat.reduceSub, Nat.reduceLT, Nat.reduceLeDiff, Nat.reduceEqDiff, Nat.reduceBEq, Nat.reduceBneDiff, Int.reduceToNat, Int.toNat_natCast, eq_self, decide_true, decide_false, Int.reduceEq, and_true, true_and, if_false_eq, if_true_eq, List.getElem?_cons_zero, List.getElem?_cons_succ, setAll, List.length_cons, List.length_nil, List.length_set, List.getD_cons_zero, List.getD_cons_succ, Nat.le_refl, Int.le_refl, Nat.beq_refl, or_self, true_or, or_true, List.drop_zero, hD]

theorem fmtS_size {k n : Int} {s : ByteArray} (hv : vok k n s = true) (hn : In64 n) : (fmtS k n s).size ≤ 1000000 := by
  have h1 := itoaS_size n hn
  unfold fmtS
  rcases vok_kind hv with rfl | rfl | ⟨rfl, hs⟩ | rfl
  · rw [if_pos rfl]; decide
  · rw [if_neg (by decide), if_pos rfl]; omega
  · rw [if_neg (by decide), if_neg (by decide), if_pos rfl, mkB_size]
    have := quoteL_len s.data.toList
    rw [len_list] at this
    omega
  · rw [if_neg (by decide), if_neg (by decide), if_neg (by decide), ByteArray.size_append]
    have : (⟨#[63]⟩ : ByteArray).size = 1 := rfl
    omega

set_option maxRecDepth 20000 in
theorem law_format (k n : Int) (s : ByteArray) (hn : In64 n) : PCall Tryd.prog 6 [VS k n s] (SB true) := by
  have aw := awake_t
  have f1 := format_p k n s hn
  have f2 := format_r k n s hn
  unfold fmtV at f1 f2
  cases hv : vok k n s with
  | false =>
    rw [hv] at f1 f2
    simp only [Bool.false_eq_true, if_false] at f1 f2
    have kk : ((⟨#[]⟩ : ByteArray).toList == (⟨#[]⟩ : ByteArray).toList) = true := beq_self_eq_true _
    refine Call.enter' (N := 53) (rs := [.tmp 2]) Tryd.func6 rfl rfl rfl (by decide) rfl ?_; simp only [argT]; have hD : (0 : Nat) = 0 := rfl
    repeat' first
      | (with_reducible refine And.intro (by omega) ?_)
      | (refine SW.seq_k fun K hK => ?_)
      | (refine SW.block ?_)
      | ((first
      | refine SW.region ?_
      | refine SW.regionD (Checked.mixed Tryd.checked) (by kernel_rfl) ?_
      | refine SW.cond ?_
      | refine SW.skip ?_
      | refine SW.exit ?_
      | refine SW.ret ?_
      | refine Call.of_pure (aw) ?_
      | refine ⟨_, aw, ?_⟩
      | refine Call.of_pure (f1) ?_
      | refine ⟨_, f1, ?_⟩
      | refine Call.of_pure (f2) ?_
      | refine ⟨_, f2, ?_⟩
      | (refine allF_i fun b hb => ?_; replace hD := And.intro hb hD; clear hb; simp only [fresh_cons, fresh_nil, and_true, ne_eq, neF] at hD)
      | simp only [appK, appOsK]); try simp only [go_sem, ↓reduceIte, reduceCtorEq, Nat.reduceAdd, Nat.reduceMul, Nat.reduceSub, Nat.reduceLT, Nat.reduceLeDiff, Nat.reduceEqDiff, Nat.reduceBEq, Nat.reduceBneDiff, Int.reduceToNat, Int.toNat_natCast, eq_self, decide_true, decide_false, Int.reduceEq, and_true, true_and, if_false_eq, if_true_eq, List.getElem?_cons_zero, List.getElem?_cons_succ, setAll, List.length_cons, List.length_nil, List.length_set, List.getD_cons_zero, List.getD_cons_succ, Nat.le_refl, Int.le_refl, Nat.beq_refl, or_self, true_or, or_true, List.drop_zero, hD, kk])
      | (refine And.intro (by omega) ?_)
      | (refine ifI (fun hc => ?_) (fun hc => ?_) <;> first | (exfalso; omega) | skip)
      | (first | (apply hK; clear hK K) | (clear hK K; apply hK; clear hK K) | (clear hK K; clear hK K; apply hK; clear hK K) | (clear hK K; clear hK K; clear hK K; apply hK; clear hK K) | (clear hK K; clear hK K; clear hK K; clear hK K; apply hK; clear hK K) | (clear hK K; clear hK K; clear hK K; clear hK K; clear hK K; apply hK; clear hK K))
      | (refine And.intro ?_ ?_)
      | fail
    all_goals (refine ret_pure ?_; simp only [resL_tmp, resL_nil, tupOf, go_sem, ↓reduceIte, reduceCtorEq, Nat.reduceAdd, Nat.reduceMul, Nat.reduceSub, Nat.reduceLT, Nat.reduceLeDiff, Nat.reduceEqDiff, Nat.reduceBEq, Nat.reduceBneDiff, Int.reduceToNat, Int.toNat_natCast, eq_self, decide_true, decide_false, Int.reduceEq, and_true, true_and, if_false_eq, if_true_eq, List.getElem?_cons_zero, List.getElem?_cons_succ, setAll, List.length_cons, List.length_nil, List.length_set, List.getD_cons_zero, List.getD_cons_succ, Nat.le_refl, Int.le_refl, Nat.beq_refl, or_self, true_or, or_true, List.drop_zero, hD])
  | true =>
    rw [hv] at f1 f2
    simp only [if_true] at f1 f2
    have ps := parse_p (fmtS k n s) (fmtS_size hv hn)
    rw [parse_good (v := (k, n, s)) ⟨hv, hn, rfl⟩] at ps
    simp only at ps
    have kk : ((fmtS k n s).toList == (fmtS k n s).toList) = true := beq_self_eq_true _
    have ks : (s.toList == s.toList) = true := beq_self_eq_true _
    generalize fmtS k n s = t at *
    refine Call.enter' (N := 53) (rs := [.tmp 2]) Tryd.func6 rfl rfl rfl (by decide) rfl ?_; simp only [argT]; have hD : (0 : Nat) = 0 := rfl
    repeat' first
      | (with_reducible refine And.intro (by omega) ?_)
      | (refine SW.seq_k fun K hK => ?_)
      | (refine SW.block ?_)
      | ((first
      | refine SW.region ?_
      | refine SW.regionD (Checked.mixed Tryd.checked) (by kernel_rfl) ?_
      | refine SW.cond ?_
      | refine SW.skip ?_
      | refine SW.exit ?_
      | refine SW.ret ?_
      | refine Call.of_pure (aw) ?_
      | refine ⟨_, aw, ?_⟩
      | refine Call.of_pure (f1) ?_
      | refine ⟨_, f1, ?_⟩
      | refine Call.of_pure (f2) ?_
      | refine ⟨_, f2, ?_⟩
      | refine Call.of_pure (ps) ?_
      | refine ⟨_, ps, ?_⟩
      | (refine allF_i fun b hb => ?_; replace hD := And.intro hb hD; clear hb; simp only [fresh_cons, fresh_nil, and_true, ne_eq, neF] at hD)
      | simp only [appK, appOsK]); try simp only [go_sem, ↓reduceIte, reduceCtorEq, Nat.reduceAdd, Nat.reduceMul, Nat.reduceSub, Nat.reduceLT, Nat.reduceLeDiff, Nat.reduceEqDiff, Nat.reduceBEq, Nat.reduceBneDiff, Int.reduceToNat, Int.toNat_natCast, eq_self, decide_true, decide_false, Int.reduceEq, and_true, true_and, if_false_eq, if_true_eq, List.getElem?_cons_zero, List.getElem?_cons_succ, setAll, List.length_cons, List.length_nil, List.length_set, List.getD_cons_zero, List.getD_cons_succ, Nat.le_refl, Int.le_refl, Nat.beq_refl, or_self, true_or, or_true, List.drop_zero, hD, kk, ks])
      | (refine And.intro (by omega) ?_)
      | (refine ifI (fun hc => ?_) (fun hc => ?_) <;> first | (exfalso; omega) | skip)
      | (first | (apply hK; clear hK K) | (clear hK K; apply hK; clear hK K) | (clear hK K; clear hK K; apply hK; clear hK K) | (clear hK K; clear hK K; clear hK K; apply hK; clear hK K) | (clear hK K; clear hK K; clear hK K; clear hK K; apply hK; clear hK K) | (clear hK K; clear hK K; clear hK K; clear hK K; clear hK K; apply hK; clear hK K))
      | (refine And.intro ?_ ?_)
      | fail
    all_goals (refine ret_pure ?_; simp only [resL_tmp, resL_nil, tupOf, go_sem, ↓reduceIte, reduceCtorEq, Nat.reduceAdd, Nat.reduceMul, Nat.reduceSub, Nat.reduceLT, Nat.reduceLeDiff, Nat.reduceEqDiff, Nat.reduceBEq, Nat.reduceBneDiff, Int.reduceToNat, Int.toNat_natCast, eq_self, decide_true, decide_false, Int.reduceEq, and_true, true_and, if_false_eq, if_true_eq, List.getElem?_cons_zero, List.getElem?_cons_succ, setAll, List.length_cons, List.length_nil, List.length_set, List.getD_cons_zero, List.getD_cons_succ, Nat.le_refl, Int.le_refl, Nat.beq_refl, or_self, true_or, or_true, List.drop_zero, hD])

set_option maxRecDepth 20000 in
theorem law_parse (s : ByteArray) : PCall Tryd.prog 7 [Str s] (SB true) := by
  have aw := awake_t
  by_cases hs : 1000 < s.size
  · have h1 : (1000 : Int) < ((s.size : Nat) : Int) := by omega
    refine Call.enter' (N := 51) (rs := [.tmp 2]) Tryd.func7 rfl rfl rfl (by decide) rfl ?_; simp only [argT]; have hD : (0 : Nat) = 0 := rfl
    repeat' first
      | (with_reducible refine And.intro (by omega) ?_)
      | (refine SW.seq_k fun K hK => ?_)
      | (refine SW.block ?_)
      | ((first
      | refine SW.region ?_
      | refine SW.regionD (Checked.mixed Tryd.checked) (by kernel_rfl) ?_
      | refine SW.cond ?_
      | refine SW.skip ?_
      | refine SW.exit ?_
      | refine SW.ret ?_
      | refine Call.of_pure (aw) ?_
      | refine ⟨_, aw, ?_⟩
      | (refine allF_i fun b hb => ?_; replace hD := And.intro hb hD; clear hb; simp only [fresh_cons, fresh_nil, and_true, ne_eq, neF] at hD)
      | simp only [appK, appOsK]); try simp only [go_sem, ↓reduceIte, reduceCtorEq, Nat.reduceAdd, Nat.reduceMul, Nat.reduceSub, Nat.reduceLT, Nat.reduceLeDiff, Nat.reduceEqDiff, Nat.reduceBEq, Nat.reduceBneDiff, Int.reduceToNat, Int.toNat_natCast, eq_self, decide_true, decide_false, Int.reduceEq, and_true, true_and, if_false_eq, if_true_eq, List.getElem?_cons_zero, List.getElem?_cons_succ, setAll, List.length_cons, List.length_nil, List.length_set, List.getD_cons_zero, List.getD_cons_succ, Nat.le_refl, Int.le_refl, Nat.beq_refl, or_self, true_or, or_true, List.drop_zero, hD, h1])
      | (refine And.intro (by omega) ?_)
      | (refine ifI (fun hc => ?_) (fun hc => ?_) <;> first | (exfalso; omega) | skip)
      | (first | (apply hK; clear hK K) | (clear hK K; apply hK; clear hK K) | (clear hK K; clear hK K; apply hK; clear hK K) | (clear hK K; clear hK K; clear hK K; apply hK; clear hK K) | (clear hK K; clear hK K; clear hK K; clear hK K; apply hK; clear hK K) | (clear hK K; clear hK K; clear hK K; clear hK K; clear hK K; apply hK; clear hK K))
      | (refine And.intro ?_ ?_)
      | fail
    all_goals (refine ret_pure ?_; simp only [resL_tmp, resL_nil, tupOf, go_sem, ↓reduceIte, reduceCtorEq, Nat.reduceAdd, Nat.reduceMul, Nat.reduceSub, Nat.reduceLT, Nat.reduceLeDiff, Nat.reduceEqDiff, Nat.reduceBEq, Nat.reduceBneDiff, Int.reduceToNat, Int.toNat_natCast, eq_self, decide_true, decide_false, Int.reduceEq, and_true, true_and, if_false_eq, if_true_eq, List.getElem?_cons_zero, List.getElem?_cons_succ, setAll, List.length_cons, List.length_nil, List.length_set, List.getD_cons_zero, List.getD_cons_succ, Nat.le_refl, Int.le_refl, Nat.beq_refl, or_self, true_or, or_true, List.drop_zero, hD])
  · have h1 : ¬ (1000 : Int) < ((s.size : Nat) : Int) := by omega
    have p1 := parse_p s (by omega)
    have p2 := parse_r s (by omega)
    rcases parse_cases s with ⟨⟨k, n, t⟩, hg, hp⟩ | ⟨hb, hp⟩
    · rw [hp] at p1 p2
      simp only at p1 p2
      have f := format_p k n t hg.2.1
      have hv : vok k n t = true := hg.1
      have e : fmtS k n t = s := hg.2.2
      unfold fmtV at f
      rw [if_pos hv, e] at f
      simp only at f
      have ss : (s.toList == s.toList) = true := beq_self_eq_true _
      have tt : (t.toList == t.toList) = true := beq_self_eq_true _
      refine Call.enter' (N := 51) (rs := [.tmp 2]) Tryd.func7 rfl rfl rfl (by decide) rfl ?_; simp only [argT]; have hD : (0 : Nat) = 0 := rfl
      repeat' first
        | (with_reducible refine And.intro (by omega) ?_)
        | (refine SW.seq_k fun K hK => ?_)
        | (refine SW.block ?_)
        | ((first
      | refine SW.region ?_
      | refine SW.regionD (Checked.mixed Tryd.checked) (by kernel_rfl) ?_
      | refine SW.cond ?_
      | refine SW.skip ?_
      | refine SW.exit ?_
      | refine SW.ret ?_
      | refine Call.of_pure (aw) ?_
      | refine ⟨_, aw, ?_⟩
      | refine Call.of_pure (p1) ?_
      | refine ⟨_, p1, ?_⟩
      | refine Call.of_pure (p2) ?_
      | refine ⟨_, p2, ?_⟩
      | refine Call.of_pure (f) ?_
      | refine ⟨_, f, ?_⟩
      | (refine allF_i fun b hb => ?_; replace hD := And.intro hb hD; clear hb; simp only [fresh_cons, fresh_nil, and_true, ne_eq, neF] at hD)
      | simp only [appK, appOsK]); try simp only [go_sem, ↓reduceIte, reduceCtorEq, Nat.reduceAdd, Nat.reduceMul, Nat.reduceSub, Nat.reduceLT, Nat.reduceLeDiff, Nat.reduceEqDiff, Nat.reduceBEq, Nat.reduceBneDiff, Int.reduceToNat, Int.toNat_natCast, eq_self, decide_true, decide_false, Int.reduceEq, and_true, true_and, if_false_eq, if_true_eq, List.getElem?_cons_zero, List.getElem?_cons_succ, setAll, List.length_cons, List.length_nil, List.length_set, List.getD_cons_zero, List.getD_cons_succ, Nat.le_refl, Int.le_refl, Nat.beq_refl, or_self, true_or, or_true, List.drop_zero, hD, h1, ss, tt])
        | (refine And.intro (by omega) ?_)
        | (refine ifI (fun hc => ?_) (fun hc => ?_) <;> first | (exfalso; omega) | skip)
        | (first | (apply hK; clear hK K) | (clear hK K; apply hK; clear hK K) | (clear hK K; clear hK K; apply hK; clear hK K) | (clear hK K; clear hK K; clear hK K; apply hK; clear hK K) | (clear hK K; clear hK K; clear hK K; clear hK K; apply hK; clear hK K) | (clear hK K; clear hK K; clear hK K; clear hK K; clear hK K; apply hK; clear hK K))
        | (refine And.intro ?_ ?_)
        | fail
      all_goals (refine ret_pure ?_; simp only [resL_tmp, resL_nil, tupOf, go_sem, ↓reduceIte, reduceCtorEq, Nat.reduceAdd, Nat.reduceMul, Nat.reduceSub, Nat.reduceLT, Nat.reduceLeDiff, Nat.reduceEqDiff, Nat.reduceBEq, Nat.reduceBneDiff, Int.reduceToNat, Int.toNat_natCast, eq_self, decide_true, decide_false, Int.reduceEq, and_true, true_and, if_false_eq, if_true_eq, List.getElem?_cons_zero, List.getElem?_cons_succ, setAll, List.length_cons, List.length_nil, List.length_set, List.getD_cons_zero, List.getD_cons_succ, Nat.le_refl, Int.le_refl, Nat.beq_refl, or_self, true_or, or_true, List.drop_zero, hD])
    · rw [hp] at p1 p2
      simp only at p1 p2
      have f := format_p 0 0 ⟨#[]⟩ in64_0
      have ss : ((⟨#[]⟩ : ByteArray).toList == (⟨#[]⟩ : ByteArray).toList) = true := beq_self_eq_true _
      refine Call.enter' (N := 51) (rs := [.tmp 2]) Tryd.func7 rfl rfl rfl (by decide) rfl ?_; simp only [argT]; have hD : (0 : Nat) = 0 := rfl
      repeat' first
        | (with_reducible refine And.intro (by omega) ?_)
        | (refine SW.seq_k fun K hK => ?_)
        | (refine SW.block ?_)
        | ((first
      | refine SW.region ?_
      | refine SW.regionD (Checked.mixed Tryd.checked) (by kernel_rfl) ?_
      | refine SW.cond ?_
      | refine SW.skip ?_
      | refine SW.exit ?_
      | refine SW.ret ?_
      | refine Call.of_pure (aw) ?_
      | refine ⟨_, aw, ?_⟩
      | refine Call.of_pure (p1) ?_
      | refine ⟨_, p1, ?_⟩
      | refine Call.of_pure (p2) ?_
      | refine ⟨_, p2, ?_⟩
      | refine Call.of_pure (f) ?_
      | refine ⟨_, f, ?_⟩
      | (refine allF_i fun b hb => ?_; replace hD := And.intro hb hD; clear hb; simp only [fresh_cons, fresh_nil, and_true, ne_eq, neF] at hD)
      | simp only [appK, appOsK]); try simp only [go_sem, ↓reduceIte, reduceCtorEq, Nat.reduceAdd, Nat.reduceMul, Nat.reduceSub, Nat.reduceLT, Nat.reduceLeDiff, Nat.reduceEqDiff, Nat.reduceBEq, Nat.reduceBneDiff, Int.reduceToNat, Int.toNat_natCast, eq_self, decide_true, decide_false, Int.reduceEq, and_true, true_and, if_false_eq, if_true_eq, List.getElem?_cons_zero, List.getElem?_cons_succ, setAll, List.length_cons, List.length_nil, List.length_set, List.getD_cons_zero, List.getD_cons_succ, Nat.le_refl, Int.le_refl, Nat.beq_refl, or_self, true_or, or_true, List.drop_zero, hD, h1, ss])
        | (refine And.intro (by omega) ?_)
        | (refine ifI (fun hc => ?_) (fun hc => ?_) <;> first | (exfalso; omega) | skip)
        | (first | (apply hK; clear hK K) | (clear hK K; apply hK; clear hK K) | (clear hK K; clear hK K; apply hK; clear hK K) | (clear hK K; clear hK K; clear hK K; apply hK; clear hK K) | (clear hK K; clear hK K; clear hK K; clear hK K; apply hK; clear hK K) | (clear hK K; clear hK K; clear hK K; clear hK K; clear hK K; apply hK; clear hK K))
        | (refine And.intro ?_ ?_)
        | fail
      all_goals (refine ret_pure ?_; simp only [resL_tmp, resL_nil, tupOf, go_sem, ↓reduceIte, reduceCtorEq, Nat.reduceAdd, Nat.reduceMul, Nat.reduceSub, Nat.reduceLT, Nat.reduceLeDiff, Nat.reduceEqDiff, Nat.reduceBEq, Nat.reduceBneDiff, Int.reduceToNat, Int.toNat_natCast, eq_self, decide_true, decide_false, Int.reduceEq, and_true, true_and, if_false_eq, if_true_eq, List.getElem?_cons_zero, List.getElem?_cons_succ, setAll, List.length_cons, List.length_nil, List.length_set, List.getD_cons_zero, List.getD_cons_succ, Nat.le_refl, Int.le_refl, Nat.beq_refl, or_self, true_or, or_true, List.drop_zero, hD])
end Go.Proofs.YtpkdknfdhhgbgaaDoor
