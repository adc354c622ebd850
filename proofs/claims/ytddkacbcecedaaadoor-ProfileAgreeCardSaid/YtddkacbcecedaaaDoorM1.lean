/- Several texts in one: R1, R2, R4, O1, G1, G2. -/
import Derived.Test.YtddkacbcecedaaaDoorB1
import Derived.Test.YtddkacbcecedaaaDoorZ8
/- Contracts: Valid, Int, Str, Compare of the program; Valid, sign of the reference. -/
set_option linter.unusedSimpArgs false
set_option linter.unusedVariables false
set_option linter.unusedSectionVars false
namespace Go.Ab
open Go
/-- A value: kind, number, text. -/
abbrev VS (k n : Int) (s : ByteArray) : SV := .agg [I64 k, I64 n, Str s]
def emp (s : ByteArray) : Bool := s.toList == (⟨#[]⟩ : ByteArray).toList
/-- A valid value. -/
def vok (k n : Int) (s : ByteArray) : Bool := if k = 0 then decide (n = 0) && emp s else if k = 1 then emp s else if k = 2 then decide (n = 0) && decide (s.size ≤ 200) else if k = 3 then decide (1 ≤ n) && emp s else false
def sgn (a b : Int) : Int := if a < b then -1 else if b < a then 1 else 0
end Go.Ab
namespace Go.Proofs.YtddkacbcecedaaaDoor
open Go Go.Ab
variable [Gl] [Tabs]

set_option maxRecDepth 20000 in
theorem valid_p (k n : Int) (s : ByteArray) : PCall Tryd.prog 65 [VS k n s] (SB (vok k n s)) := by
  obtain ⟨R, hR⟩ : ∃ R, R = vok k n s := ⟨_, rfl⟩
  rw [← hR]
  unfold vok emp at hR
  have cs : ((s.size : Nat) : Int) ≤ 200 ↔ s.size ≤ 200 := by omega
  refine Call.enter' (N := 41) (rs := [.tmp 2]) Tryd.func65 rfl rfl rfl (by decide) rfl ?_; simp only [argT]; have hD : (0 : Nat) = 0 := rfl
  repeat' first | (with_reducible refine And.intro (by omega) ?_) | (refine SW.seq_k fun K hK => ?_) | (refine SW.block ?_) | ((first | refine SW.region ?_ | refine SW.regionD (Checked.mixed Tryd.checked) (by kernel_rfl) ?_ | refine SW.cond ?_ | refine SW.skip ?_ | refine SW.exit ?_ | refine SW.ret ?_ | (refine allF_i fun b hb => ?_; replace hD := And.intro hb hD; clear hb; try simp only [fresh_cons, fresh_nil, and_true, ne_eq, neF] at hD) | simp only [appK, appOsK]); try simp only [go_sem, hD]) | (refine And.intro (by omega) ?_) | (refine ifI (fun hc => ?_) (fun hc => ?_) <;> first | (exfalso; omega) | skip) | ((first | apply hK | ((iterate 1 (clear hK K)); apply hK) | ((iterate 2 (clear hK K)); apply hK) | ((iterate 3 (clear hK K)); apply hK) | ((iterate 4 (clear hK K)); apply hK) | ((iterate 5 (clear hK K)); apply hK)); clear hK K)
  all_goals
    refine ret_pure ?_; simp only [resL_tmp, resL_nil, tupOf, go_sem, hD]
    rw [hR]
    simp_all
    first | done | (intro h; exfalso; omega)

set_option maxRecDepth 20000 in
theorem valid_r (k n : Int) (s : ByteArray) : PCall Tryd.prog 61 [VS k n s] (SB (vok k n s)) := by
  obtain ⟨R, hR⟩ : ∃ R, R = vok k n s := ⟨_, rfl⟩
  rw [← hR]
  unfold vok emp at hR
  have cs : ((s.size : Nat) : Int) ≤ 200 ↔ s.size ≤ 200 := by omega
  refine Call.enter' (N := 44) (rs := [.tmp 2]) Tryd.func61 rfl rfl rfl (by decide) rfl ?_; simp only [argT]; have hD : (0 : Nat) = 0 := rfl
  repeat' first | (with_reducible refine And.intro (by omega) ?_) | (refine SW.seq_k fun K hK => ?_) | (refine SW.block ?_) | ((first | refine SW.region ?_ | refine SW.regionD (Checked.mixed Tryd.checked) (by kernel_rfl) ?_ | refine SW.cond ?_ | refine SW.skip ?_ | refine SW.exit ?_ | refine SW.ret ?_ | (refine allF_i fun b hb => ?_; replace hD := And.intro hb hD; clear hb; try simp only [fresh_cons, fresh_nil, and_true, ne_eq, neF] at hD) | simp only [appK, appOsK]); try simp only [go_sem, hD]) | (refine And.intro (by omega) ?_) | (refine ifI (fun hc => ?_) (fun hc => ?_) <;> first | (exfalso; omega) | skip) | ((first | apply hK | ((iterate 1 (clear hK K)); apply hK) | ((iterate 2 (clear hK K)); apply hK) | ((iterate 3 (clear hK K)); apply hK) | ((iterate 4 (clear hK K)); apply hK) | ((iterate 5 (clear hK K)); apply hK)); clear hK K)
  all_goals
    refine ret_pure ?_; simp only [resL_tmp, resL_nil, tupOf, go_sem, hD]
    rw [hR]
    simp_all
    first | done | (intro h; exfalso; omega)

theorem sign_r (a b : Int) : PCall Tryd.prog 42 [I64 a, I64 b] (I64 (sgn a b)) := by
  unfold sgn
  refine Call.enter' (N := 11) (rs := [.tmp 4]) Tryd.func42 rfl rfl rfl (by decide) rfl ?_; simp only [argT]; have hD : (0 : Nat) = 0 := rfl
  by_cases h1 : a < b
  · rw [if_pos h1]
    repeat' first | (with_reducible refine And.intro (by omega) ?_) | (refine SW.seq_k fun K hK => ?_) | (refine SW.block ?_) | ((first | refine SW.region ?_ | refine SW.regionD (Checked.mixed Tryd.checked) (by kernel_rfl) ?_ | refine SW.cond ?_ | refine SW.skip ?_ | refine SW.exit ?_ | refine SW.ret ?_ | (refine allF_i fun b hb => ?_; replace hD := And.intro hb hD; clear hb; try simp only [fresh_cons, fresh_nil, and_true, ne_eq, neF] at hD) | simp only [appK, appOsK]); try simp only [go_sem, hD, h1]) | (refine And.intro (by omega) ?_) | (refine ifI (fun hc => ?_) (fun hc => ?_) <;> first | (exfalso; omega) | skip) | ((first | apply hK | ((iterate 1 (clear hK K)); apply hK) | ((iterate 2 (clear hK K)); apply hK) | ((iterate 3 (clear hK K)); apply hK) | ((iterate 4 (clear hK K)); apply hK) | ((iterate 5 (clear hK K)); apply hK)); clear hK K)
    refine ret_pure ?_; simp only [resL_tmp, resL_nil, tupOf, go_sem, hD]
  · rw [if_neg h1]
    by_cases h2 : b < a
    · rw [if_pos h2]
      repeat' first | (with_reducible refine And.intro (by omega) ?_) | (refine SW.seq_k fun K hK => ?_) | (refine SW.block ?_) | ((first | refine SW.region ?_ | refine SW.regionD (Checked.mixed Tryd.checked) (by kernel_rfl) ?_ | refine SW.cond ?_ | refine SW.skip ?_ | refine SW.exit ?_ | refine SW.ret ?_ | (refine allF_i fun b hb => ?_; replace hD := And.intro hb hD; clear hb; try simp only [fresh_cons, fresh_nil, and_true, ne_eq, neF] at hD) | simp only [appK, appOsK]); try simp only [go_sem, hD, h1, h2]) | (refine And.intro (by omega) ?_) | (refine ifI (fun hc => ?_) (fun hc => ?_) <;> first | (exfalso; omega) | skip) | ((first | apply hK | ((iterate 1 (clear hK K)); apply hK) | ((iterate 2 (clear hK K)); apply hK) | ((iterate 3 (clear hK K)); apply hK) | ((iterate 4 (clear hK K)); apply hK) | ((iterate 5 (clear hK K)); apply hK)); clear hK K)
      refine ret_pure ?_; simp only [resL_tmp, resL_nil, tupOf, go_sem, hD]
    · rw [if_neg h2]
      repeat' first | (with_reducible refine And.intro (by omega) ?_) | (refine SW.seq_k fun K hK => ?_) | (refine SW.block ?_) | ((first | refine SW.region ?_ | refine SW.regionD (Checked.mixed Tryd.checked) (by kernel_rfl) ?_ | refine SW.cond ?_ | refine SW.skip ?_ | refine SW.exit ?_ | refine SW.ret ?_ | (refine allF_i fun b hb => ?_; replace hD := And.intro hb hD; clear hb; try simp only [fresh_cons, fresh_nil, and_true, ne_eq, neF] at hD) | simp only [appK, appOsK]); try simp only [go_sem, hD, h1, h2]) | (refine And.intro (by omega) ?_) | (refine ifI (fun hc => ?_) (fun hc => ?_) <;> first | (exfalso; omega) | skip) | ((first | apply hK | ((iterate 1 (clear hK K)); apply hK) | ((iterate 2 (clear hK K)); apply hK) | ((iterate 3 (clear hK K)); apply hK) | ((iterate 4 (clear hK K)); apply hK) | ((iterate 5 (clear hK K)); apply hK)); clear hK K)
      refine ret_pure ?_; simp only [resL_tmp, resL_nil, tupOf, go_sem, hD]

theorem nan_i (a : Int) : PCall Tryd.prog 93 [I64 a] (SB false) := by
  refine Call.enter' (N := 6) (rs := [.tmp 2]) Tryd.func93 rfl rfl rfl (by decide) rfl ?_; simp only [argT]; have hD : (0 : Nat) = 0 := rfl
  repeat' first | (with_reducible refine And.intro (by omega) ?_) | (refine SW.seq_k fun K hK => ?_) | (refine SW.block ?_) | ((first | refine SW.region ?_ | refine SW.regionD (Checked.mixed Tryd.checked) (by kernel_rfl) ?_ | refine SW.cond ?_ | refine SW.skip ?_ | refine SW.exit ?_ | refine SW.ret ?_ | (refine allF_i fun b hb => ?_; replace hD := And.intro hb hD; clear hb; try simp only [fresh_cons, fresh_nil, and_true, ne_eq, neF] at hD) | simp only [appK, appOsK]); try simp only [go_sem, hD]) | (refine And.intro (by omega) ?_) | (refine ifI (fun hc => ?_) (fun hc => ?_) <;> first | (exfalso; omega) | skip) | ((first | apply hK | ((iterate 1 (clear hK K)); apply hK) | ((iterate 2 (clear hK K)); apply hK) | ((iterate 3 (clear hK K)); apply hK) | ((iterate 4 (clear hK K)); apply hK) | ((iterate 5 (clear hK K)); apply hK)); clear hK K)
  refine ret_pure ?_; simp only [resL_tmp, resL_nil, tupOf, go_sem, hD]
theorem nan_l (a : Int) : PCall Tryd.prog 94 [I64 a] (SB false) := by
  refine Call.enter' (N := 6) (rs := [.tmp 2]) Tryd.func94 rfl rfl rfl (by decide) rfl ?_; simp only [argT]; have hD : (0 : Nat) = 0 := rfl
  repeat' first | (with_reducible refine And.intro (by omega) ?_) | (refine SW.seq_k fun K hK => ?_) | (refine SW.block ?_) | ((first | refine SW.region ?_ | refine SW.regionD (Checked.mixed Tryd.checked) (by kernel_rfl) ?_ | refine SW.cond ?_ | refine SW.skip ?_ | refine SW.exit ?_ | refine SW.ret ?_ | (refine allF_i fun b hb => ?_; replace hD := And.intro hb hD; clear hb; try simp only [fresh_cons, fresh_nil, and_true, ne_eq, neF] at hD) | simp only [appK, appOsK]); try simp only [go_sem, hD]) | (refine And.intro (by omega) ?_) | (refine ifI (fun hc => ?_) (fun hc => ?_) <;> first | (exfalso; omega) | skip) | ((first | apply hK | ((iterate 1 (clear hK K)); apply hK) | ((iterate 2 (clear hK K)); apply hK) | ((iterate 3 (clear hK K)); apply hK) | ((iterate 4 (clear hK K)); apply hK) | ((iterate 5 (clear hK K)); apply hK)); clear hK K)
  refine ret_pure ?_; simp only [resL_tmp, resL_nil, tupOf, go_sem, hD]
theorem cmp_i (a b : Int) : PCall Tryd.prog 75 [I64 a, I64 b] (I64 (sgn a b)) := by
  have n1 := nan_i a
  have n2 := nan_i b
  unfold sgn
  refine Call.enter' (N := 20) (rs := [.tmp 4]) Tryd.func75 rfl rfl rfl (by decide) rfl ?_; simp only [argT]; have hD : (0 : Nat) = 0 := rfl
  by_cases h1 : a < b
  · rw [if_pos h1]
    repeat' first | (with_reducible refine And.intro (by omega) ?_) | (refine SW.seq_k fun K hK => ?_) | (refine SW.block ?_) | ((first | refine SW.region ?_ | refine SW.regionD (Checked.mixed Tryd.checked) (by kernel_rfl) ?_ | refine SW.cond ?_ | refine SW.skip ?_ | refine SW.exit ?_ | refine SW.ret ?_ | refine Call.of_pure (n1) ?_ | refine ⟨_, n1, ?_⟩ | refine Call.of_pure (n2) ?_ | refine ⟨_, n2, ?_⟩ | (refine allF_i fun b hb => ?_; replace hD := And.intro hb hD; clear hb; try simp only [fresh_cons, fresh_nil, and_true, ne_eq, neF] at hD) | simp only [appK, appOsK]); try simp only [go_sem, hD, h1]) | (refine And.intro (by omega) ?_) | (refine ifI (fun hc => ?_) (fun hc => ?_) <;> first | (exfalso; omega) | skip) | ((first | apply hK | ((iterate 1 (clear hK K)); apply hK) | ((iterate 2 (clear hK K)); apply hK) | ((iterate 3 (clear hK K)); apply hK) | ((iterate 4 (clear hK K)); apply hK) | ((iterate 5 (clear hK K)); apply hK)); clear hK K)
    refine ret_pure ?_; simp only [resL_tmp, resL_nil, tupOf, go_sem, hD]
  · rw [if_neg h1]
    by_cases h2 : b < a
    · rw [if_pos h2]
      repeat' first | (with_reducible refine And.intro (by omega) ?_) | (refine SW.seq_k fun K hK => ?_) | (refine SW.block ?_) | ((first | refine SW.region ?_ | refine SW.regionD (Checked.mixed Tryd.checked) (by kernel_rfl) ?_ | refine SW.cond ?_ | refine SW.skip ?_ | refine SW.exit ?_ | refine SW.ret ?_ | refine Call.of_pure (n1) ?_ | refine ⟨_, n1, ?_⟩ | refine Call.of_pure (n2) ?_ | refine ⟨_, n2, ?_⟩ | (refine allF_i fun b hb => ?_; replace hD := And.intro hb hD; clear hb; try simp only [fresh_cons, fresh_nil, and_true, ne_eq, neF] at hD) | simp only [appK, appOsK]); try simp only [go_sem, hD, h1, h2]) | (refine And.intro (by omega) ?_) | (refine ifI (fun hc => ?_) (fun hc => ?_) <;> first | (exfalso; omega) | skip) | ((first | apply hK | ((iterate 1 (clear hK K)); apply hK) | ((iterate 2 (clear hK K)); apply hK) | ((iterate 3 (clear hK K)); apply hK) | ((iterate 4 (clear hK K)); apply hK) | ((iterate 5 (clear hK K)); apply hK)); clear hK K)
      refine ret_pure ?_; simp only [resL_tmp, resL_nil, tupOf, go_sem, hD]
    · rw [if_neg h2]
      repeat' first | (with_reducible refine And.intro (by omega) ?_) | (refine SW.seq_k fun K hK => ?_) | (refine SW.block ?_) | ((first | refine SW.region ?_ | refine SW.regionD (Checked.mixed Tryd.checked) (by kernel_rfl) ?_ | refine SW.cond ?_ | refine SW.skip ?_ | refine SW.exit ?_ | refine SW.ret ?_ | refine Call.of_pure (n1) ?_ | refine ⟨_, n1, ?_⟩ | refine Call.of_pure (n2) ?_ | refine ⟨_, n2, ?_⟩ | (refine allF_i fun b hb => ?_; replace hD := And.intro hb hD; clear hb; try simp only [fresh_cons, fresh_nil, and_true, ne_eq, neF] at hD) | simp only [appK, appOsK]); try simp only [go_sem, hD, h1, h2]) | (refine And.intro (by omega) ?_) | (refine ifI (fun hc => ?_) (fun hc => ?_) <;> first | (exfalso; omega) | skip) | ((first | apply hK | ((iterate 1 (clear hK K)); apply hK) | ((iterate 2 (clear hK K)); apply hK) | ((iterate 3 (clear hK K)); apply hK) | ((iterate 4 (clear hK K)); apply hK) | ((iterate 5 (clear hK K)); apply hK)); clear hK K)
      refine ret_pure ?_; simp only [resL_tmp, resL_nil, tupOf, go_sem, hD]
theorem cmp_l (a b : Int) : PCall Tryd.prog 76 [I64 a, I64 b] (I64 (sgn a b)) := by
  have n1 := nan_l a
  have n2 := nan_l b
  unfold sgn
  refine Call.enter' (N := 20) (rs := [.tmp 4]) Tryd.func76 rfl rfl rfl (by decide) rfl ?_; simp only [argT]; have hD : (0 : Nat) = 0 := rfl
  by_cases h1 : a < b
  · rw [if_pos h1]
    repeat' first | (with_reducible refine And.intro (by omega) ?_) | (refine SW.seq_k fun K hK => ?_) | (refine SW.block ?_) | ((first | refine SW.region ?_ | refine SW.regionD (Checked.mixed Tryd.checked) (by kernel_rfl) ?_ | refine SW.cond ?_ | refine SW.skip ?_ | refine SW.exit ?_ | refine SW.ret ?_ | refine Call.of_pure (n1) ?_ | refine ⟨_, n1, ?_⟩ | refine Call.of_pure (n2) ?_ | refine ⟨_, n2, ?_⟩ | (refine allF_i fun b hb => ?_; replace hD := And.intro hb hD; clear hb; try simp only [fresh_cons, fresh_nil, and_true, ne_eq, neF] at hD) | simp only [appK, appOsK]); try simp only [go_sem, hD, h1]) | (refine And.intro (by omega) ?_) | (refine ifI (fun hc => ?_) (fun hc => ?_) <;> first | (exfalso; omega) | skip) | ((first | apply hK | ((iterate 1 (clear hK K)); apply hK) | ((iterate 2 (clear hK K)); apply hK) | ((iterate 3 (clear hK K)); apply hK) | ((iterate 4 (clear hK K)); apply hK) | ((iterate 5 (clear hK K)); apply hK)); clear hK K)
    refine ret_pure ?_; simp only [resL_tmp, resL_nil, tupOf, go_sem, hD]
  · rw [if_neg h1]
    by_cases h2 : b < a
    · rw [if_pos h2]
      repeat' first | (with_reducible refine And.intro (by omega) ?_) | (refine SW.seq_k fun K hK => ?_) | (refine SW.block ?_) | ((first | refine SW.region ?_ | refine SW.regionD (Checked.mixed Tryd.checked) (by kernel_rfl) ?_ | refine SW.cond ?_ | refine SW.skip ?_ | refine SW.exit ?_ | refine SW.ret ?_ | refine Call.of_pure (n1) ?_ | refine ⟨_, n1, ?_⟩ | refine Call.of_pure (n2) ?_ | refine ⟨_, n2, ?_⟩ | (refine allF_i fun b hb => ?_; replace hD := And.intro hb hD; clear hb; try simp only [fresh_cons, fresh_nil, and_true, ne_eq, neF] at hD) | simp only [appK, appOsK]); try simp only [go_sem, hD, h1, h2]) | (refine And.intro (by omega) ?_) | (refine ifI (fun hc => ?_) (fun hc => ?_) <;> first | (exfalso; omega) | skip) | ((first | apply hK | ((iterate 1 (clear hK K)); apply hK) | ((iterate 2 (clear hK K)); apply hK) | ((iterate 3 (clear hK K)); apply hK) | ((iterate 4 (clear hK K)); apply hK) | ((iterate 5 (clear hK K)); apply hK)); clear hK K)
      refine ret_pure ?_; simp only [resL_tmp, resL_nil, tupOf, go_sem, hD]
    · rw [if_neg h2]
      repeat' first | (with_reducible refine And.intro (by omega) ?_) | (refine SW.seq_k fun K hK => ?_) | (refine SW.block ?_) | ((first | refine SW.region ?_ | refine SW.regionD (Checked.mixed Tryd.checked) (by kernel_rfl) ?_ | refine SW.cond ?_ | refine SW.skip ?_ | refine SW.exit ?_ | refine SW.ret ?_ | refine Call.of_pure (n1) ?_ | refine ⟨_, n1, ?_⟩ | refine Call.of_pure (n2) ?_ | refine ⟨_, n2, ?_⟩ | (refine allF_i fun b hb => ?_; replace hD := And.intro hb hD; clear hb; try simp only [fresh_cons, fresh_nil, and_true, ne_eq, neF] at hD) | simp only [appK, appOsK]); try simp only [go_sem, hD, h1, h2]) | (refine And.intro (by omega) ?_) | (refine ifI (fun hc => ?_) (fun hc => ?_) <;> first | (exfalso; omega) | skip) | ((first | apply hK | ((iterate 1 (clear hK K)); apply hK) | ((iterate 2 (clear hK K)); apply hK) | ((iterate 3 (clear hK K)); apply hK) | ((iterate 4 (clear hK K)); apply hK) | ((iterate 5 (clear hK K)); apply hK)); clear hK K)
      refine ret_pure ?_; simp only [resL_tmp, resL_nil, tupOf, go_sem, hD]
end Go.Proofs.YtddkacbcecedaaaDoor
/- Contracts: Compare and Digits of the reference; Int, Str of the program. -/
set_option linter.unusedSimpArgs false
set_option linter.unusedVariables false
set_option linter.unusedSectionVars false
namespace Go.Ab
open Go
/-- The order of values. -/
def cmpV (k n : Int) (s : ByteArray) (k' n' : Int) (s' : ByteArray) : Int :=
  if sgn k k' = 0 then (if sgn n n' = 0 then Lib.compareBytes s.data.toList s'.data.toList else sgn n n') else sgn k k'
theorem cb_step {a b : List UInt8} {i : Nat} (ha : i < a.length) (hb : i < b.length) :
    Lib.compareBytes (a.drop i) (b.drop i) = if a.getD i 0 = b.getD i 0 then Lib.compareBytes (a.drop (i + 1)) (b.drop (i + 1)) else sgn (a.getD i 0).toNat (b.getD i 0).toNat := by
  have g1 : a.getD i 0 = a[i] := by simp [List.getD_eq_getElem?_getD, ha]
  have g2 : b.getD i 0 = b[i] := by simp [List.getD_eq_getElem?_getD, hb]
  rw [List.drop_eq_getElem_cons ha, List.drop_eq_getElem_cons hb, g1, g2, Lib.compareBytes]
  generalize a[i] = x
  generalize b[i] = y
  by_cases h : x = y
  · subst h
    rw [if_pos rfl, if_neg (by simp), if_neg (by simp)]
  · rw [if_neg h]
    unfold sgn
    have hne : x.toNat ≠ y.toNat := fun e => h (UInt8.toNat_inj.1 e)
    by_cases h1 : x < y
    · have : x.toNat < y.toNat := h1
      rw [if_pos h1, if_pos (by omega)]
    · have h1' : ¬ x.toNat < y.toNat := h1
      have h2 : y < x := by show y.toNat < x.toNat; omega
      rw [if_neg h1, if_pos h2, if_neg (by omega), if_pos (by omega)]
theorem cb_end {a b : List UInt8} {i : Nat} (ha : i ≤ a.length) (hb : i ≤ b.length) (h : ¬ (i < a.length ∧ i < b.length)) : Lib.compareBytes (a.drop i) (b.drop i) = sgn a.length b.length := by
  unfold sgn
  by_cases h1 : i < a.length
  · rw [List.drop_eq_getElem_cons h1, List.drop_of_length_le (l := b) (by omega), Lib.compareBytes, if_neg (by omega), if_pos (by omega)]
  · rw [List.drop_of_length_le (l := a) (by omega)]
    by_cases h2 : i < b.length
    · rw [List.drop_eq_getElem_cons h2, Lib.compareBytes, if_pos (by omega)]
    · rw [List.drop_of_length_le (l := b) (by omega), Lib.compareBytes, if_neg (by omega), if_neg (by omega)]
end Go.Ab
namespace Go.Proofs.YtddkacbcecedaaaDoor
open Go Go.Ab
variable [Gl] [Tabs]





set_option maxRecDepth 20000 in
theorem strings_r (a b : ByteArray) (ha : a.size ≤ 9223372036854775807) (hb : b.size ≤ 9223372036854775807) : PCall Tryd.prog 43 [Str a, Str b] (I64 (Lib.compareBytes a.data.toList b.data.toList)) := by
  have la : a.data.toList.length = a.size := Array.length_toList
  have lb : b.data.toList.length = b.size := Array.length_toList
  obtain ⟨R, hR⟩ : ∃ R, R = Lib.compareBytes a.data.toList b.data.toList := ⟨_, rfl⟩
  rw [← hR]
  refine Call.enter' (N := 39) (rs := [.tmp 4]) Tryd.func43 rfl rfl rfl (by decide) rfl ?_; simp only [argT]; have hD : (0 : Nat) = 0 := rfl
  repeat' first | (with_reducible refine And.intro (by omega) ?_) | (refine SW.seq_k fun K hK => ?_) | ((first | refine SW.region ?_ | refine SW.regionD (Checked.mixed Tryd.checked) (by kernel_rfl) ?_ | refine SW.cond ?_ | refine SW.skip ?_ | refine SW.exit ?_ | refine SW.ret ?_ | (refine allF_i fun b hb => ?_; replace hD := And.intro hb hD; clear hb; try simp only [fresh_cons, fresh_nil, and_true, ne_eq, neF] at hD) | simp only [appK, appOsK]); try simp only [go_sem, hD]) | (refine And.intro (by omega) ?_) | (refine ifI (fun hc => ?_) (fun hc => ?_) <;> first | (exfalso; omega) | skip) | ((first | apply hK | ((iterate 1 (clear hK K)); apply hK) | ((iterate 2 (clear hK K)); apply hK) | ((iterate 3 (clear hK K)); apply hK) | ((iterate 4 (clear hK K)); apply hK) | ((iterate 5 (clear hK K)); apply hK)); clear hK K)
  refine SW.block ?_
  obtain ⟨I, hI⟩ : ∃ I : Nat → St → Prop, ∀ k S, I k S ↔ (∃ i : Nat, k = a.size - i ∧ i ≤ a.size ∧ i ≤ b.size ∧ R = Lib.compareBytes (a.data.toList.drop i) (b.data.toList.drop i) ∧ S = ⟨[(0, Str a), (1, Str b), (5, I64 i)], []⟩) := ⟨fun k S => _, fun _ _ => Iff.rfl⟩
  refine SW.loop' I a.size ((hI _ _).2 ⟨0, rfl, Nat.zero_le _, Nat.zero_le _, hR, rfl⟩) (by repeat' (first | exact rfl | exact trivial | exact int_eq (by omega) | exact int_eq (by (rw [i64_wrap] <;> omega)) | constructor)) ?_
  intro k S hIn
  obtain ⟨i, rfl, hi, hi2, hC, rfl⟩ := (hI _ _).1 hIn
  clear hIn hR
  have ie : ((i : Nat) : Int).toNat = i := Int.toNat_natCast _
  have i0 : (0 : Int) ≤ ((i : Nat) : Int) := by omega
  by_cases h1 : i < a.size
  · have h1i : ((i : Nat) : Int) < ((a.size : Nat) : Int) := by omega
    by_cases h2 : i < b.size
    · have h2i : ((i : Nat) : Int) < ((b.size : Nat) : Int) := by omega
      rw [cb_step (by omega) (by omega)] at hC
      have w1 : IntKind.i64.wrap ((i : Int) + 1) = ((i + 1 : Nat) : Int) := by rw [i64_wrap (by omega) (by omega)]; omega
      by_cases he : a.data.toList.getD i 0 = b.data.toList.getD i 0
      · rw [if_pos he] at hC
        have hei : decide (((a.data.toList.getD i 0).toNat : Int) = ((b.data.toList.getD i 0).toNat : Int)) = true := decide_eq_true (by rw [he])
        repeat' first | (with_reducible refine And.intro (by omega) ?_) | (refine SW.seq_k fun K hK => ?_) | (refine SW.block ?_) | ((first | refine SW.region ?_ | refine SW.regionZ (id := 4) (Checked.mixed Tryd.checked) ((.one 0 [0, 2, 6] (.one 1 [1, 2, 6] (.one 2 [2, 6] (.one 3 [3, 5, 6] (.one 4 [4, 5, 6] (.one 5 [5, 6] (.one 6 [6] .done))))))) : OZ) (by kernel_rfl) ?_ | refine SW.regionZ (id := 5) (Checked.mixed Tryd.checked) ((.one 0 [0, 2, 3, 8, 9] (.one 1 [1, 2, 3, 8, 9] (.one 2 [2, 3, 8, 9] (.one 3 [3, 8, 9] (.one 4 [4, 6, 7, 8, 9] (.one 5 [5, 6, 7, 8, 9] (.one 6 [6, 7, 8, 9] (.one 7 [7, 8, 9] (.one 8 [8, 9] (.one 9 [9] .done)))))))))) : OZ) (by kernel_rfl) ?_ | refine SW.regionD (Checked.mixed Tryd.checked) (by kernel_rfl) ?_ | refine SW.cond ?_ | refine SW.skip ?_ | refine SW.exit ?_ | refine SW.ret ?_ | (refine allF_i fun b hb => ?_; replace hD := And.intro hb hD; clear hb; try simp only [fresh_cons, fresh_nil, and_true, ne_eq, neF] at hD) | simp only [appK, appOsK]); try simp only [go_sem, hD, h1i, h2i, ie, i0, w1, hei]) | (refine And.intro (by omega) ?_) | (refine ifI (fun hc => ?_) (fun hc => ?_) <;> first | (exfalso; omega) | skip) | ((first | apply hK | ((iterate 1 (clear hK K)); apply hK) | ((iterate 2 (clear hK K)); apply hK) | ((iterate 3 (clear hK K)); apply hK) | ((iterate 4 (clear hK K)); apply hK) | ((iterate 5 (clear hK K)); apply hK)); clear hK K) | (refine And.intro ?_ ?_)
        refine Rnd.sub (a.size - (i + 1)) (by omega) ((hI _ _).2 ⟨i + 1, rfl, by omega, by omega, hC, rfl⟩) (by repeat' (first | exact rfl | exact trivial | exact int_eq (by omega) | exact int_eq (by (rw [i64_wrap] <;> omega)) | constructor))
      · rw [if_neg he] at hC
        have hei : decide (((a.data.toList.getD i 0).toNat : Int) = ((b.data.toList.getD i 0).toNat : Int)) = false := decide_eq_false (fun h => he (UInt8.toNat_inj.1 (by omega)))
        have b1 := (a.data.toList.getD i 0).toNat_lt
        have b2 := (b.data.toList.getD i 0).toNat_lt
        have w2 : IntKind.i64.wrap ((a.data.toList.getD i 0).toNat : Int) = ((a.data.toList.getD i 0).toNat : Int) := i64_wrap (by omega) (by omega)
        have w3 : IntKind.i64.wrap ((b.data.toList.getD i 0).toNat : Int) = ((b.data.toList.getD i 0).toNat : Int) := i64_wrap (by omega) (by omega)
        have sg := sign_r ((a.data.toList.getD i 0).toNat : Int) ((b.data.toList.getD i 0).toNat : Int)
        rw [← hC] at sg
        repeat' first | (with_reducible refine And.intro (by omega) ?_) | (refine SW.seq_k fun K hK => ?_) | (refine SW.block ?_) | ((first | refine SW.region ?_ | refine SW.regionZ (id := 4) (Checked.mixed Tryd.checked) ((.one 0 [0, 2, 6] (.one 1 [1, 2, 6] (.one 2 [2, 6] (.one 3 [3, 5, 6] (.one 4 [4, 5, 6] (.one 5 [5, 6] (.one 6 [6] .done))))))) : OZ) (by kernel_rfl) ?_ | refine SW.regionZ (id := 5) (Checked.mixed Tryd.checked) ((.one 0 [0, 2, 3, 8, 9] (.one 1 [1, 2, 3, 8, 9] (.one 2 [2, 3, 8, 9] (.one 3 [3, 8, 9] (.one 4 [4, 6, 7, 8, 9] (.one 5 [5, 6, 7, 8, 9] (.one 6 [6, 7, 8, 9] (.one 7 [7, 8, 9] (.one 8 [8, 9] (.one 9 [9] .done)))))))))) : OZ) (by kernel_rfl) ?_ | refine SW.regionD (Checked.mixed Tryd.checked) (by kernel_rfl) ?_ | refine SW.cond ?_ | refine SW.skip ?_ | refine SW.exit ?_ | refine SW.ret ?_ | refine Call.of_pure (sg) ?_ | refine ⟨_, sg, ?_⟩ | (refine allF_i fun b hb => ?_; replace hD := And.intro hb hD; clear hb; try simp only [fresh_cons, fresh_nil, and_true, ne_eq, neF] at hD) | simp only [appK, appOsK]); try simp only [go_sem, hD, h1i, h2i, ie, i0, w2, w3, hei]) | (refine And.intro (by omega) ?_) | (refine ifI (fun hc => ?_) (fun hc => ?_) <;> first | (exfalso; omega) | skip) | ((first | apply hK | ((iterate 1 (clear hK K)); apply hK) | ((iterate 2 (clear hK K)); apply hK) | ((iterate 3 (clear hK K)); apply hK) | ((iterate 4 (clear hK K)); apply hK) | ((iterate 5 (clear hK K)); apply hK)); clear hK K) | (refine And.intro ?_ ?_)
        refine ret_pure ?_; simp only [resL_tmp, resL_nil, tupOf, go_sem, hD]
    · have h2i : ¬ ((i : Nat) : Int) < ((b.size : Nat) : Int) := by omega
      rw [cb_end (by omega) (by omega) (by omega), la, lb] at hC
      have sg := sign_r ((a.size : Nat) : Int) ((b.size : Nat) : Int)
      rw [← hC] at sg
      have w2 : IntKind.i64.wrap ((a.size : Nat) : Int) = ((a.size : Nat) : Int) := i64_wrap (by omega) (by omega)
      have w3 : IntKind.i64.wrap ((b.size : Nat) : Int) = ((b.size : Nat) : Int) := i64_wrap (by omega) (by omega)
      repeat' first | (with_reducible refine And.intro (by omega) ?_) | (refine SW.seq_k fun K hK => ?_) | (refine SW.block ?_) | ((first | refine SW.region ?_ | refine SW.regionZ (id := 4) (Checked.mixed Tryd.checked) ((.one 0 [0, 2, 6] (.one 1 [1, 2, 6] (.one 2 [2, 6] (.one 3 [3, 5, 6] (.one 4 [4, 5, 6] (.one 5 [5, 6] (.one 6 [6] .done))))))) : OZ) (by kernel_rfl) ?_ | refine SW.regionZ (id := 5) (Checked.mixed Tryd.checked) ((.one 0 [0, 2, 3, 8, 9] (.one 1 [1, 2, 3, 8, 9] (.one 2 [2, 3, 8, 9] (.one 3 [3, 8, 9] (.one 4 [4, 6, 7, 8, 9] (.one 5 [5, 6, 7, 8, 9] (.one 6 [6, 7, 8, 9] (.one 7 [7, 8, 9] (.one 8 [8, 9] (.one 9 [9] .done)))))))))) : OZ) (by kernel_rfl) ?_ | refine SW.regionD (Checked.mixed Tryd.checked) (by kernel_rfl) ?_ | refine SW.cond ?_ | refine SW.skip ?_ | refine SW.exit ?_ | refine SW.ret ?_ | refine Call.of_pure (sg) ?_ | refine ⟨_, sg, ?_⟩ | (refine allF_i fun b hb => ?_; replace hD := And.intro hb hD; clear hb; try simp only [fresh_cons, fresh_nil, and_true, ne_eq, neF] at hD) | simp only [appK, appOsK]); try simp only [go_sem, hD, h1i, h2i, w2, w3]) | (refine And.intro (by omega) ?_) | (refine ifI (fun hc => ?_) (fun hc => ?_) <;> first | (exfalso; omega) | skip) | ((first | apply hK | ((iterate 1 (clear hK K)); apply hK) | ((iterate 2 (clear hK K)); apply hK) | ((iterate 3 (clear hK K)); apply hK) | ((iterate 4 (clear hK K)); apply hK) | ((iterate 5 (clear hK K)); apply hK)); clear hK K) | (refine And.intro ?_ ?_)
      refine ret_pure ?_; simp only [resL_tmp, resL_nil, tupOf, go_sem, hD]
  · have h1i : ¬ ((i : Nat) : Int) < ((a.size : Nat) : Int) := by omega
    rw [cb_end (by omega) (by omega) (by omega), la, lb] at hC
    have sg := sign_r ((a.size : Nat) : Int) ((b.size : Nat) : Int)
    rw [← hC] at sg
    repeat' first | (with_reducible refine And.intro (by omega) ?_) | (refine SW.seq_k fun K hK => ?_) | (refine SW.block ?_) | ((first | refine SW.region ?_ | refine SW.regionZ (id := 4) (Checked.mixed Tryd.checked) ((.one 0 [0, 2, 6] (.one 1 [1, 2, 6] (.one 2 [2, 6] (.one 3 [3, 5, 6] (.one 4 [4, 5, 6] (.one 5 [5, 6] (.one 6 [6] .done))))))) : OZ) (by kernel_rfl) ?_ | refine SW.regionZ (id := 5) (Checked.mixed Tryd.checked) ((.one 0 [0, 2, 3, 8, 9] (.one 1 [1, 2, 3, 8, 9] (.one 2 [2, 3, 8, 9] (.one 3 [3, 8, 9] (.one 4 [4, 6, 7, 8, 9] (.one 5 [5, 6, 7, 8, 9] (.one 6 [6, 7, 8, 9] (.one 7 [7, 8, 9] (.one 8 [8, 9] (.one 9 [9] .done)))))))))) : OZ) (by kernel_rfl) ?_ | refine SW.regionD (Checked.mixed Tryd.checked) (by kernel_rfl) ?_ | refine SW.cond ?_ | refine SW.skip ?_ | refine SW.exit ?_ | refine SW.ret ?_ | refine Call.of_pure (sg) ?_ | refine ⟨_, sg, ?_⟩ | (refine allF_i fun b hb => ?_; replace hD := And.intro hb hD; clear hb; try simp only [fresh_cons, fresh_nil, and_true, ne_eq, neF] at hD) | simp only [appK, appOsK]); try simp only [go_sem, hD, h1i]) | (refine And.intro (by omega) ?_) | (refine ifI (fun hc => ?_) (fun hc => ?_) <;> first | (exfalso; omega) | skip) | ((first | apply hK | ((iterate 1 (clear hK K)); apply hK) | ((iterate 2 (clear hK K)); apply hK) | ((iterate 3 (clear hK K)); apply hK) | ((iterate 4 (clear hK K)); apply hK) | ((iterate 5 (clear hK K)); apply hK)); clear hK K) | (refine And.intro ?_ ?_)
    refine ret_pure ?_; simp only [resL_tmp, resL_nil, tupOf, go_sem, hD]

set_option maxRecDepth 20000 in
theorem compare_r (k n : Int) (s : ByteArray) (k' n' : Int) (s' : ByteArray) (hs : s.size ≤ 9223372036854775807) (hs' : s'.size ≤ 9223372036854775807) : PCall Tryd.prog 24 [VS k n s, VS k' n' s'] (I64 (cmpV k n s k' n' s')) := by
  have s1 := sign_r k k'
  have s2 := sign_r n n'
  have s3 := strings_r s s' hs hs'
  obtain ⟨R, hR⟩ : ∃ R, R = cmpV k n s k' n' s' := ⟨_, rfl⟩
  rw [← hR]
  unfold cmpV at hR
  refine Call.enter' (N := 28) (rs := [.tmp 4]) Tryd.func24 rfl rfl rfl (by decide) rfl ?_; simp only [argT]; have hD : (0 : Nat) = 0 := rfl
  by_cases h1 : sgn k k' = 0
  · rw [if_pos h1] at hR
    rw [h1] at s1
    by_cases h2 : sgn n n' = 0
    · rw [if_pos h2] at hR
      rw [h2] at s2
      repeat' first | (with_reducible refine And.intro (by omega) ?_) | (refine SW.seq_k fun K hK => ?_) | (refine SW.block ?_) | ((first | refine SW.region ?_ | refine SW.regionD (Checked.mixed Tryd.checked) (by kernel_rfl) ?_ | refine SW.cond ?_ | refine SW.skip ?_ | refine SW.exit ?_ | refine SW.ret ?_ | refine Call.of_pure (s1) ?_ | refine ⟨_, s1, ?_⟩ | refine Call.of_pure (s2) ?_ | refine ⟨_, s2, ?_⟩ | refine Call.of_pure (s3) ?_ | refine ⟨_, s3, ?_⟩ | (refine allF_i fun b hb => ?_; replace hD := And.intro hb hD; clear hb; try simp only [fresh_cons, fresh_nil, and_true, ne_eq, neF] at hD) | simp only [appK, appOsK]); try simp only [go_sem, hD]) | (refine And.intro (by omega) ?_) | (refine ifI (fun hc => ?_) (fun hc => ?_) <;> first | (exfalso; omega) | skip) | ((first | apply hK | ((iterate 1 (clear hK K)); apply hK) | ((iterate 2 (clear hK K)); apply hK) | ((iterate 3 (clear hK K)); apply hK) | ((iterate 4 (clear hK K)); apply hK) | ((iterate 5 (clear hK K)); apply hK)); clear hK K)
      refine ret_pure ?_; simp only [resL_tmp, resL_nil, tupOf, go_sem, hD]
      rw [hR]
    · rw [if_neg h2] at hR
      repeat' first | (with_reducible refine And.intro (by omega) ?_) | (refine SW.seq_k fun K hK => ?_) | (refine SW.block ?_) | ((first | refine SW.region ?_ | refine SW.regionD (Checked.mixed Tryd.checked) (by kernel_rfl) ?_ | refine SW.cond ?_ | refine SW.skip ?_ | refine SW.exit ?_ | refine SW.ret ?_ | refine Call.of_pure (s1) ?_ | refine ⟨_, s1, ?_⟩ | refine Call.of_pure (s2) ?_ | refine ⟨_, s2, ?_⟩ | refine Call.of_pure (s3) ?_ | refine ⟨_, s3, ?_⟩ | (refine allF_i fun b hb => ?_; replace hD := And.intro hb hD; clear hb; try simp only [fresh_cons, fresh_nil, and_true, ne_eq, neF] at hD) | simp only [appK, appOsK]); try simp only [go_sem, hD, h2]) | (refine And.intro (by omega) ?_) | (refine ifI (fun hc => ?_) (fun hc => ?_) <;> first | (exfalso; omega) | skip) | ((first | apply hK | ((iterate 1 (clear hK K)); apply hK) | ((iterate 2 (clear hK K)); apply hK) | ((iterate 3 (clear hK K)); apply hK) | ((iterate 4 (clear hK K)); apply hK) | ((iterate 5 (clear hK K)); apply hK)); clear hK K)
      refine ret_pure ?_; simp only [resL_tmp, resL_nil, tupOf, go_sem, hD]
      rw [hR]
  · rw [if_neg h1] at hR
    repeat' first | (with_reducible refine And.intro (by omega) ?_) | (refine SW.seq_k fun K hK => ?_) | (refine SW.block ?_) | ((first | refine SW.region ?_ | refine SW.regionD (Checked.mixed Tryd.checked) (by kernel_rfl) ?_ | refine SW.cond ?_ | refine SW.skip ?_ | refine SW.exit ?_ | refine SW.ret ?_ | refine Call.of_pure (s1) ?_ | refine ⟨_, s1, ?_⟩ | refine Call.of_pure (s2) ?_ | refine ⟨_, s2, ?_⟩ | refine Call.of_pure (s3) ?_ | refine ⟨_, s3, ?_⟩ | (refine allF_i fun b hb => ?_; replace hD := And.intro hb hD; clear hb; try simp only [fresh_cons, fresh_nil, and_true, ne_eq, neF] at hD) | simp only [appK, appOsK]); try simp only [go_sem, hD, h1]) | (refine And.intro (by omega) ?_) | (refine ifI (fun hc => ?_) (fun hc => ?_) <;> first | (exfalso; omega) | skip) | ((first | apply hK | ((iterate 1 (clear hK K)); apply hK) | ((iterate 2 (clear hK K)); apply hK) | ((iterate 3 (clear hK K)); apply hK) | ((iterate 4 (clear hK K)); apply hK) | ((iterate 5 (clear hK K)); apply hK)); clear hK K)
    refine ret_pure ?_; simp only [resL_tmp, resL_nil, tupOf, go_sem, hD]
    rw [hR]
end Go.Proofs.YtddkacbcecedaaaDoor
/- Contracts: cmp.Or, Compare of the program. -/
set_option linter.unusedSimpArgs false
set_option linter.unusedVariables false
set_option linter.unusedSectionVars false
namespace Go.Ab
open Go
/-- The first number that is not 0. -/
def orS : List Int → Int
  | [] => 0
  | x :: l => if x = 0 then orS l else x
theorem orS_step {l : List Int} {j : Nat} (h : j < l.length) : orS (l.drop j) = if l.getD j 0 = 0 then orS (l.drop (j + 1)) else l.getD j 0 := by
  have g : l.getD j 0 = l[j] := by simp [List.getD_eq_getElem?_getD, h]
  rw [List.drop_eq_getElem_cons h, g]
  rfl
theorem orS_end {l : List Int} {j : Nat} (h : ¬ j < l.length) : orS (l.drop j) = 0 := by
  rw [List.drop_of_length_le (by omega)]
  rfl
end Go.Ab
namespace Go.Proofs.YtddkacbcecedaaaDoor
open Go Go.Ab
variable [Gl] [Tabs]

theorem or_c (l : List Int) (hl : l.length ≤ 9223372036854775807) : PCall Tryd.prog 74 [ints .i64 l] (I64 (orS l)) := by
  obtain ⟨R, hR⟩ : ∃ R, R = orS l := ⟨_, rfl⟩
  rw [← hR]
  refine Call.enter' (N := 18) (rs := [.tmp 2]) Tryd.func74 rfl rfl rfl (by decide) rfl ?_; simp only [argT]; have hD : (0 : Nat) = 0 := rfl
  repeat' first | (with_reducible refine And.intro (by omega) ?_) | (refine SW.seq_k fun K hK => ?_) | (refine SW.block ?_) | ((first | refine SW.region ?_ | refine SW.regionD (Checked.mixed Tryd.checked) (by kernel_rfl) ?_ | refine SW.cond ?_ | refine SW.skip ?_ | refine SW.exit ?_ | refine SW.ret ?_ | (refine allF_i fun b hb => ?_; replace hD := And.intro hb hD; clear hb; try simp only [fresh_cons, fresh_nil, and_true, ne_eq, neF] at hD) | simp only [appK, appOsK]); try simp only [go_sem, hD]) | (refine And.intro (by omega) ?_) | (refine ifI (fun hc => ?_) (fun hc => ?_) <;> first | (exfalso; omega) | skip) | ((first | apply hK | ((iterate 1 (clear hK K)); apply hK) | ((iterate 2 (clear hK K)); apply hK) | ((iterate 3 (clear hK K)); apply hK) | ((iterate 4 (clear hK K)); apply hK) | ((iterate 5 (clear hK K)); apply hK)); clear hK K)
  obtain ⟨Ij, hIj⟩ : ∃ I : Nat → St → Prop, ∀ n S, I n S ↔ (∃ j : Nat, n = l.length - j ∧ j ≤ l.length ∧ (R = orS (l.drop j)) ∧ S = ⟨[(8, I64 j), (7, I64 l.length), (6, ints .i64 l), (3, I64 0)], []⟩) := ⟨fun n S => _, fun _ _ => Iff.rfl⟩
  refine SW.loop' Ij (l.length) ((hIj _ _).2 ⟨0, rfl, Nat.zero_le _, hR, rfl⟩) (by repeat' (first | exact rfl | exact trivial | exact int_eq (by omega) | exact int_eq (by (rw [i64_wrap] <;> omega)) | constructor)) ?_
  intro n S hIn
  obtain ⟨j, rfl, hj, hC, rfl⟩ := (hIj _ _).1 hIn
  clear hIn
  clear hR
  have ie : ((j : Nat) : Int).toNat = j := Int.toNat_natCast _
  have i0 : (0 : Int) ≤ ((j : Nat) : Int) := by omega
  by_cases h1 : j < l.length
  · have h1i : ((j : Nat) : Int) < ((l.length : Nat) : Int) := by omega
    rw [orS_step h1] at hC
    by_cases hz : l.getD j 0 = 0
    · rw [if_pos hz] at hC
      repeat' first | (with_reducible refine And.intro (by omega) ?_) | (refine SW.seq_k fun K hK => ?_) | (refine SW.block ?_) | ((first | refine SW.region ?_ | refine SW.regionD (Checked.mixed Tryd.checked) (by kernel_rfl) ?_ | refine SW.cond ?_ | refine SW.skip ?_ | refine SW.exit ?_ | refine SW.ret ?_ | (refine allF_i fun b hb => ?_; replace hD := And.intro hb hD; clear hb; try simp only [fresh_cons, fresh_nil, and_true, ne_eq, neF] at hD) | simp only [appK, appOsK]); try simp only [go_sem, hD, h1i, ie, i0, hz]) | (refine And.intro (by omega) ?_) | (refine ifI (fun hc => ?_) (fun hc => ?_) <;> first | (exfalso; omega) | skip) | ((first | apply hK | ((iterate 1 (clear hK K)); apply hK) | ((iterate 2 (clear hK K)); apply hK) | ((iterate 3 (clear hK K)); apply hK) | ((iterate 4 (clear hK K)); apply hK) | ((iterate 5 (clear hK K)); apply hK)); clear hK K)
      refine Rnd.sub (l.length - (j + 1)) (by omega) ((hIj _ _).2 ⟨j + 1, rfl, by omega, hC, rfl⟩) (by repeat' (first | exact rfl | exact trivial | exact int_eq (by omega) | exact int_eq (by (rw [i64_wrap] <;> omega)) | constructor))
    · rw [if_neg hz] at hC
      subst hC
      repeat' first | (with_reducible refine And.intro (by omega) ?_) | (refine SW.seq_k fun K hK => ?_) | (refine SW.block ?_) | ((first | refine SW.region ?_ | refine SW.regionD (Checked.mixed Tryd.checked) (by kernel_rfl) ?_ | refine SW.cond ?_ | refine SW.skip ?_ | refine SW.exit ?_ | refine SW.ret ?_ | (refine allF_i fun b hb => ?_; replace hD := And.intro hb hD; clear hb; try simp only [fresh_cons, fresh_nil, and_true, ne_eq, neF] at hD) | simp only [appK, appOsK]); try simp only [go_sem, hD, h1i, ie, i0, hz]) | (refine And.intro (by omega) ?_) | (refine ifI (fun hc => ?_) (fun hc => ?_) <;> first | (exfalso; omega) | skip) | ((first | apply hK | ((iterate 1 (clear hK K)); apply hK) | ((iterate 2 (clear hK K)); apply hK) | ((iterate 3 (clear hK K)); apply hK) | ((iterate 4 (clear hK K)); apply hK) | ((iterate 5 (clear hK K)); apply hK)); clear hK K)
      refine ret_pure ?_; simp only [resL_tmp, resL_nil, tupOf, go_sem, hD]
  · have h1i : ¬ ((j : Nat) : Int) < ((l.length : Nat) : Int) := by omega
    rw [orS_end h1] at hC
    subst hC
    repeat' first | (with_reducible refine And.intro (by omega) ?_) | (refine SW.seq_k fun K hK => ?_) | (refine SW.block ?_) | ((first | refine SW.region ?_ | refine SW.regionD (Checked.mixed Tryd.checked) (by kernel_rfl) ?_ | refine SW.cond ?_ | refine SW.skip ?_ | refine SW.exit ?_ | refine SW.ret ?_ | (refine allF_i fun b hb => ?_; replace hD := And.intro hb hD; clear hb; try simp only [fresh_cons, fresh_nil, and_true, ne_eq, neF] at hD) | simp only [appK, appOsK]); try simp only [go_sem, hD, h1i]) | (refine And.intro (by omega) ?_) | (refine ifI (fun hc => ?_) (fun hc => ?_) <;> first | (exfalso; omega) | skip) | ((first | apply hK | ((iterate 1 (clear hK K)); apply hK) | ((iterate 2 (clear hK K)); apply hK) | ((iterate 3 (clear hK K)); apply hK) | ((iterate 4 (clear hK K)); apply hK) | ((iterate 5 (clear hK K)); apply hK)); clear hK K)
    refine ret_pure ?_; simp only [resL_tmp, resL_nil, tupOf, go_sem, hD]

theorem compare_p (k n : Int) (s : ByteArray) (k' n' : Int) (s' : ByteArray) : PCall Tryd.prog 54 [VS k n s, VS k' n' s'] (I64 (cmpV k n s k' n' s')) := by
  have c1 := cmp_i k k'
  have c2 := cmp_l n n'
  have c3 := compare_c s s'
  have hc : cmpV k n s k' n' s' = orS [sgn k k', sgn n n', Lib.compareBytes s.data.toList s'.data.toList] := by
    unfold cmpV orS orS orS orS
    by_cases h1 : sgn k k' = 0
    · rw [if_pos h1, if_pos h1]
      by_cases h2 : sgn n n' = 0
      · rw [if_pos h2, if_pos h2]
        split <;> simp_all
      · rw [if_neg h2, if_neg h2]
    · rw [if_neg h1, if_neg h1]
  have orc := or_c [sgn k k', sgn n n', Lib.compareBytes s.data.toList s'.data.toList] (by simp)
  rw [← hc] at orc
  refine Call.enter' (N := 22) (rs := [.tmp 4]) Tryd.func54 rfl rfl rfl (by decide) rfl ?_; simp only [argT]; have hD : (0 : Nat) = 0 := rfl
  repeat' first | (with_reducible refine And.intro (by omega) ?_) | (refine SW.seq_k fun K hK => ?_) | (refine SW.block ?_) | ((first | refine SW.region ?_ | refine SW.regionY [16] (id := 1) (Checked.mixed Tryd.checked) ((.one 0 [0, 1, 4, 9, 14, 15, 16, 17] (.one 1 [1, 4, 9, 14, 15, 16, 17] (.one 2 [2, 3, 4, 9, 14, 15, 16, 17] (.one 3 [3, 4, 9, 14, 15, 16, 17] (.one 4 [4, 9, 14, 15, 16, 17] (.one 5 [5, 6, 9, 14, 15, 16, 17] (.one 6 [6, 9, 14, 15, 16, 17] (.one 7 [7, 8, 9, 14, 15, 16, 17] (.one 8 [8, 9, 14, 15, 16, 17] (.one 9 [9, 14, 15, 16, 17] (.one 10 [10, 11, 14, 15, 16, 17] (.one 11 [11, 14, 15, 16, 17] (.one 12 [12, 13, 14, 15, 16, 17] (.one 13 [13, 14, 15, 16, 17] (.one 14 [14, 15, 16, 17] (.alt 15 false (.alt 16 true (.one 17 [17] .done) .nil) .nil)))))))))))))))) : OY) (by kernel_rfl) ?_ | refine SW.regionD (Checked.mixed Tryd.checked) (by kernel_rfl) ?_ | refine SW.cond ?_ | refine SW.skip ?_ | refine SW.exit ?_ | refine SW.ret ?_ | refine Call.of_pure (c1) ?_ | refine ⟨_, c1, ?_⟩ | refine Call.of_pure (c2) ?_ | refine ⟨_, c2, ?_⟩ | refine Call.of_pure (c3) ?_ | refine ⟨_, c3, ?_⟩ | (refine allF_i fun b hb => ?_; replace hD := And.intro hb hD; clear hb; try simp only [fresh_cons, fresh_nil, and_true, ne_eq, neF] at hD) | simp only [appK, appOsK]); try simp only [go_sem, hD]) | (refine And.intro (by omega) ?_) | (refine ifI (fun hc => ?_) (fun hc => ?_) <;> first | (exfalso; omega) | skip) | ((first | apply hK | ((iterate 1 (clear hK K)); apply hK) | ((iterate 2 (clear hK K)); apply hK) | ((iterate 3 (clear hK K)); apply hK) | ((iterate 4 (clear hK K)); apply hK) | ((iterate 5 (clear hK K)); apply hK)); clear hK K) | (refine And.intro ?_ ?_)
  refine Ab.Call.freeze_ints 0 .i64 [sgn k k', sgn n n', Lib.compareBytes s.data.toList s'.data.toList] (by simp) rfl rfl (by rw [find_cons, if_pos rfl]) (by simp [Blk.cells]) ?_
  refine Call.of_pure orc ?_
  simp only [go_sem, hD]
  repeat' first | (with_reducible refine And.intro (by omega) ?_) | (refine SW.seq_k fun K hK => ?_) | (refine SW.block ?_) | ((first | refine SW.region ?_ | refine SW.regionZ (id := 1) (Checked.mixed Tryd.checked) ((.one 0 [0, 1, 4, 9, 14, 15, 16, 17] (.one 1 [1, 4, 9, 14, 15, 16, 17] (.one 2 [2, 3, 4, 9, 14, 15, 16, 17] (.one 3 [3, 4, 9, 14, 15, 16, 17] (.one 4 [4, 9, 14, 15, 16, 17] (.one 5 [5, 6, 9, 14, 15, 16, 17] (.one 6 [6, 9, 14, 15, 16, 17] (.one 7 [7, 8, 9, 14, 15, 16, 17] (.one 8 [8, 9, 14, 15, 16, 17] (.one 9 [9, 14, 15, 16, 17] (.one 10 [10, 11, 14, 15, 16, 17] (.one 11 [11, 14, 15, 16, 17] (.one 12 [12, 13, 14, 15, 16, 17] (.one 13 [13, 14, 15, 16, 17] (.one 14 [14, 15, 16, 17] (.alt 15 (.one 16 [16, 17] (.one 17 [17] .done)) .nil)))))))))))))))) : OZ) (by kernel_rfl) ?_ | refine SW.regionD (Checked.mixed Tryd.checked) (by kernel_rfl) ?_ | refine SW.cond ?_ | refine SW.skip ?_ | refine SW.exit ?_ | refine SW.ret ?_ | (refine allF_i fun b hb => ?_; replace hD := And.intro hb hD; clear hb; try simp only [fresh_cons, fresh_nil, and_true, ne_eq, neF] at hD) | simp only [appK, appOsK]); try simp only [go_sem, hD]) | (refine And.intro (by omega) ?_) | (refine ifI (fun hc => ?_) (fun hc => ?_) <;> first | (exfalso; omega) | skip) | ((first | apply hK | ((iterate 1 (clear hK K)); apply hK) | ((iterate 2 (clear hK K)); apply hK) | ((iterate 3 (clear hK K)); apply hK) | ((iterate 4 (clear hK K)); apply hK) | ((iterate 5 (clear hK K)); apply hK)); clear hK K) | (refine And.intro ?_ ?_)
  refine ret_pure ?_; simp only [resL_tmp, resL_nil, tupOf, go_sem, hD]
end Go.Proofs.YtddkacbcecedaaaDoor
/- Plain law: the order of values. -/
set_option linter.unusedSimpArgs false
set_option linter.unusedVariables false
set_option linter.unusedSectionVars false
namespace Go.Ab
open Go
theorem sgn_swap (a b : Int) : sgn b a = -sgn a b := by
  unfold sgn
  rcases Int.lt_trichotomy a b with h | h | h
  · rw [if_neg (by omega), if_pos h, if_pos h]; rfl
  · rw [if_neg (by omega), if_neg (by omega), if_neg (by omega), if_neg (by omega)]; rfl
  · rw [if_pos h, if_neg (by omega), if_pos h]
theorem sgn_zero {a b : Int} : sgn a b = 0 ↔ a = b := by
  unfold sgn
  constructor
  · intro h
    split at h
    · cases h
    · split at h
      · cases h
      · omega
  · rintro rfl
    rw [if_neg (by omega), if_neg (by omega)]
theorem sgn_cases (a b : Int) : (sgn a b = -1 ∧ a < b) ∨ (sgn a b = 0 ∧ a = b) ∨ (sgn a b = 1 ∧ b < a) := by
  unfold sgn
  rcases Int.lt_trichotomy a b with h | h | h
  · exact .inl ⟨by rw [if_pos h], h⟩
  · exact .inr (.inl ⟨by rw [if_neg (by omega), if_neg (by omega)], h⟩)
  · exact .inr (.inr ⟨by rw [if_neg (by omega), if_pos h], h⟩)
theorem cb_cases : ∀ (a b : List UInt8), Lib.compareBytes a b = -1 ∨ (Lib.compareBytes a b = 0 ∧ a = b) ∨ Lib.compareBytes a b = 1
  | [], [] => .inr (.inl ⟨rfl, rfl⟩)
  | [], _ :: _ => .inl rfl
  | _ :: _, [] => .inr (.inr rfl)
  | x :: a, y :: b => by
    unfold Lib.compareBytes
    split
    · exact .inl rfl
    · split
      · exact .inr (.inr rfl)
      · rcases cb_cases a b with h | ⟨h, e⟩ | h
        · exact .inl h
        · refine .inr (.inl ⟨h, ?_⟩)
          have : x = y := UInt8.toNat_inj.1 (by simp only [UInt8.lt_iff_toNat_lt] at *; omega)
          rw [e, this]
        · exact .inr (.inr h)
theorem cb_swap : ∀ (a b : List UInt8), Lib.compareBytes b a = -Lib.compareBytes a b
  | [], [] => rfl
  | [], _ :: _ => rfl
  | _ :: _, [] => rfl
  | x :: a, y :: b => by
    unfold Lib.compareBytes
    by_cases h1 : x < y
    · rw [if_pos h1, if_neg (by simp only [UInt8.lt_iff_toNat_lt] at *; omega), if_pos h1]; rfl
    · by_cases h2 : y < x
      · rw [if_pos h2, if_neg h1, if_pos h2]
      · rw [if_neg h2, if_neg h1, if_neg h1, if_neg h2, cb_swap a b]
/-- One comparison behind another. -/
def lex (s t : Int) : Int := if s = 0 then t else s
/-- Transitive. -/
def Tr (m n k : Int) : Prop := (m ≤ 0 → n ≤ 0 → k ≤ 0 ∧ (k = 0 → m = 0 ∧ n = 0)) ∧ (m = 0 → n = 0 → k = 0)
theorem Tr.lex {m n k m' n' k' : Int} (h : Tr m n k) (h' : Tr m' n' k') : Tr (lex m m') (lex n n') (lex k k') := by
  unfold Tr Ab.lex at *
  obtain ⟨h1, h2⟩ := h
  obtain ⟨h3, h4⟩ := h'
  refine ⟨fun a b => ?_, fun a b => ?_⟩
  · have hm : m ≤ 0 := by split at a <;> omega
    have hn : n ≤ 0 := by split at b <;> omega
    obtain ⟨k1, k2⟩ := h1 hm hn
    by_cases hk : k = 0
    · obtain ⟨rfl, rfl⟩ := k2 hk
      rw [if_pos rfl] at a b
      obtain ⟨k3, k4⟩ := h3 a b
      rw [if_pos hk, if_pos rfl, if_pos rfl]
      exact ⟨k3, k4⟩
    · rw [if_neg hk]
      exact ⟨k1, fun x => absurd x hk⟩
  · have hm : m = 0 ∧ m' = 0 := by split at a <;> omega
    have hn : n = 0 ∧ n' = 0 := by split at b <;> omega
    rw [if_pos (h2 hm.1 hn.1)]
    exact h4 hm.2 hn.2
theorem sgn_tr (a b c : Int) : Tr (sgn a b) (sgn b c) (sgn a c) := by
  unfold Tr
  rcases sgn_cases a b with h1 | h1 | h1 <;> rcases sgn_cases b c with h2 | h2 | h2 <;> rcases sgn_cases a c with h3 | h3 | h3 <;> omega
theorem cb_lex (x y : UInt8) (a b : List UInt8) : Lib.compareBytes (x :: a) (y :: b) = lex (sgn x.toNat y.toNat) (Lib.compareBytes a b) := by
  show (if x < y then (-1 : Int) else if y < x then 1 else Lib.compareBytes a b) = _
  unfold lex
  simp only [UInt8.lt_iff_toNat_lt]
  rcases Nat.lt_trichotomy x.toNat y.toNat with h | h | h
  · rw [if_pos h, show sgn (x.toNat : Int) y.toNat = -1 by unfold sgn; rw [if_pos (by omega)], if_neg (by decide)]
  · rw [if_neg (by omega), if_neg (by omega), show sgn (x.toNat : Int) y.toNat = 0 by unfold sgn; rw [if_neg (by omega), if_neg (by omega)], if_pos rfl]
  · rw [if_neg (by omega), if_pos h, show sgn (x.toNat : Int) y.toNat = 1 by unfold sgn; rw [if_neg (by omega), if_pos (by omega)], if_neg (by decide)]
theorem cb_tr : ∀ (a b c : List UInt8), Tr (Lib.compareBytes a b) (Lib.compareBytes b c) (Lib.compareBytes a c)
  | [], [], [] => by unfold Tr; decide
  | [], [], _ :: _ => by
    have e : Lib.compareBytes [] [] = 0 := rfl
    show Tr 0 (-1) (-1)
    unfold Tr; decide
  | [], _ :: _, [] => by
    show Tr (-1) 1 0
    unfold Tr; decide
  | _ :: _, [], [] => by
    show Tr 1 0 1
    unfold Tr; decide
  | [], y :: b, z :: c => by
    show Tr (-1) (Lib.compareBytes (y :: b) (z :: c)) (-1)
    unfold Tr
    omega
  | _ :: _, [], _ :: _ => by
    show Tr 1 (-1) _
    unfold Tr
    omega
  | x :: a, y :: b, [] => by
    show Tr (Lib.compareBytes (x :: a) (y :: b)) 1 1
    unfold Tr
    omega
  | x :: a, y :: b, z :: c => by
    rw [cb_lex, cb_lex, cb_lex]
    exact (sgn_tr _ _ _).lex (cb_tr a b c)
theorem cmpV_lex (k n : Int) (s : ByteArray) (k' n' : Int) (s' : ByteArray) : cmpV k n s k' n' s' = lex (sgn k k') (lex (sgn n n') (Lib.compareBytes s.data.toList s'.data.toList)) := rfl
theorem cmp_tr (k n : Int) (s : ByteArray) (k' n' : Int) (s' : ByteArray) (k'' n'' : Int) (s'' : ByteArray) : Tr (cmpV k n s k' n' s') (cmpV k' n' s' k'' n'' s'') (cmpV k n s k'' n'' s'') := by
  rw [cmpV_lex, cmpV_lex, cmpV_lex]
  exact (sgn_tr _ _ _).lex ((sgn_tr _ _ _).lex (cb_tr _ _ _))
theorem lex_neg (a b : Int) : lex (-a) (-b) = -lex a b := by
  unfold lex
  split <;> split <;> omega
theorem cmp_swap (k n : Int) (s : ByteArray) (k' n' : Int) (s' : ByteArray) : cmpV k' n' s' k n s = -cmpV k n s k' n' s' := by
  rw [cmpV_lex, cmpV_lex, sgn_swap k k', sgn_swap n n', cb_swap, lex_neg, lex_neg]
theorem cmp_cases (k n : Int) (s : ByteArray) (k' n' : Int) (s' : ByteArray) : (cmpV k n s k' n' s' = -1 ∨ cmpV k n s k' n' s' = 0 ∨ cmpV k n s k' n' s' = 1) ∧ (cmpV k n s k' n' s' = 0 ↔ k = k' ∧ n = n' ∧ s = s') := by
  rw [cmpV_lex]
  unfold lex
  have hb : s.data.toList = s'.data.toList ↔ s = s' := by
    constructor
    · intro h
      cases s; cases s'
      simp only at h
      rw [Array.toList_inj.1 h]
    · intro h; rw [h]
  have hcb : Lib.compareBytes s.data.toList s'.data.toList = 0 ↔ s = s' := by
    rw [← hb]
    constructor
    · intro h
      rcases cb_cases s.data.toList s'.data.toList with x | x | x
      · omega
      · exact x.2
      · omega
    · intro h
      rcases cb_cases s.data.toList s'.data.toList with x | x | x
      · have := cb_swap s.data.toList s'.data.toList; rw [h] at this x; omega
      · exact x.1
      · have := cb_swap s.data.toList s'.data.toList; rw [h] at this x; omega
  have hc3 := cb_cases s.data.toList s'.data.toList
  rcases sgn_cases k k' with ⟨h1, h2⟩ | ⟨h1, h2⟩ | ⟨h1, h2⟩
  · rw [if_neg (by omega)]
    exact ⟨by omega, by omega⟩
  · rw [if_pos h1]
    rcases sgn_cases n n' with ⟨g1, g2⟩ | ⟨g1, g2⟩ | ⟨g1, g2⟩
    · rw [if_neg (by omega)]
      exact ⟨by omega, by omega⟩
    · rw [if_pos g1]
      refine ⟨?_, by rw [hcb]; exact ⟨fun h => ⟨h2, g2, h⟩, fun h => h.2.2⟩⟩
      rcases hc3 with x | x | x
      · exact .inl x
      · exact .inr (.inl x.1)
      · exact .inr (.inr x)
    · rw [if_neg (by omega)]
      exact ⟨by omega, by omega⟩
  · rw [if_neg (by omega)]
    exact ⟨by omega, by omega⟩
end Go.Ab
/- Contracts: names. -/
set_option linter.unusedSimpArgs false
set_option linter.unusedVariables false
set_option linter.unusedSectionVars false
namespace Go.Ab.A34
open Go Go.Ab
def isL (c : UInt8) : Bool := (decide (97 ≤ c.toNat) && decide (c.toNat ≤ 122)) || ((decide (65 ≤ c.toNat) && decide (c.toNat ≤ 90)) || decide (c.toNat = 95))
def isD (c : UInt8) : Bool := decide (48 ≤ c.toNat) && decide (c.toNat ≤ 57)
def isW (c : UInt8) : Bool := isL c || isD c
def nullL : List UInt8 := [110, 117, 108, 108]
/-- A name: a letter, then letters and digits, at most 24 bytes, not null. -/
def nameB (l : List UInt8) : Bool := match l with
  | [] => false
  | c :: _ => decide (l.length ≤ 24) && !decide (l = nullL) && isL c && l.all isW
theorem all_step {l : List UInt8} {i : Nat} (h : i < l.length) : (l.drop i).all isW = (isW (l.getD i 0) && (l.drop (i + 1)).all isW) := by
  have g : l.getD i 0 = l[i] := by simp [List.getD_eq_getElem?_getD, h]
  rw [List.drop_eq_getElem_cons h, List.all_cons, g]
theorem all_end {l : List UInt8} {i : Nat} (h : l.length ≤ i) : (l.drop i).all isW = true := by
  rw [List.drop_of_length_le h]
  rfl
theorem not_LD (c : UInt8) (h : isD c = true) : isL c = false := by
  unfold isD isL at *
  simp only [Bool.and_eq_true, decide_eq_true_eq] at h
  rw [Bool.eq_false_iff]
  simp only [Bool.or_eq_true, Bool.and_eq_true, decide_eq_true_eq, ne_eq]
  omega
theorem ba_ext {a b : ByteArray} (h : a.data.toList = b.data.toList) : a = b := by
  cases a; cases b
  simp only at h
  rw [Array.toList_inj.1 h]
end Go.Ab.A34
namespace Go.Proofs.YtddkacbcecedaaaDoor
open Go Go.Ab Go.Ab.A34
variable [Gl] [Tabs]
abbrev B8 (c : UInt8) : SV := .sc (.int .u8 (c.toNat : Int))

theorem letter_c (c : UInt8) : PCall Tryd.prog 59 [B8 c] (SB (isL c)) := by
  obtain ⟨R, hR⟩ : ∃ R, R = isL c := ⟨_, rfl⟩
  rw [← hR]
  unfold isL at hR
  refine Call.enter' (N := 21) (rs := [.tmp 2]) Tryd.func59 rfl rfl rfl (by decide) rfl ?_; simp only [argT]; have hD : (0 : Nat) = 0 := rfl
  repeat' first | (with_reducible refine And.intro (by omega) ?_) | (refine SW.seq_k fun K hK => ?_) | (refine SW.block ?_) | ((first | refine SW.region ?_ | refine SW.regionD (Checked.mixed Tryd.checked) (by kernel_rfl) ?_ | refine SW.cond ?_ | refine SW.skip ?_ | refine SW.exit ?_ | refine SW.ret ?_ | (refine allF_i fun b hb => ?_; replace hD := And.intro hb hD; clear hb; try simp only [fresh_cons, fresh_nil, and_true, ne_eq, neF] at hD) | simp only [appK, appOsK]); try simp only [go_sem, hD]) | (refine And.intro (by omega) ?_) | (refine ifI (fun hc => ?_) (fun hc => ?_) <;> first | (exfalso; omega) | skip) | ((first | apply hK | ((iterate 1 (clear hK K)); apply hK) | ((iterate 2 (clear hK K)); apply hK) | ((iterate 3 (clear hK K)); apply hK) | ((iterate 4 (clear hK K)); apply hK) | ((iterate 5 (clear hK K)); apply hK)); clear hK K)
  all_goals
    refine ret_pure ?_; simp only [resL_tmp, resL_nil, tupOf, go_sem, hD]
    rw [hR]
    refine congrArg (fun b => SV.sc (.bool b)) ?_
    rw [Bool.eq_iff_iff]
    simp only [Bool.or_eq_true, Bool.and_eq_true, decide_eq_true_eq, Bool.false_eq_true, true_iff, false_iff]
    omega

theorem len_list (s : ByteArray) : s.data.toList.length = s.size := Array.length_toList
theorem bempty (s : ByteArray) : (s.toList == (⟨#[]⟩ : ByteArray).toList) = decide (s.data.toList = []) := by
  rw [Bool.eq_iff_iff, decide_eq_true_eq, barr_eq]
  constructor
  · intro h; rw [h]
  · intro h; exact ba_ext h
theorem bnull (s : ByteArray) : (s.toList == (⟨#[110, 117, 108, 108]⟩ : ByteArray).toList) = decide (s.data.toList = nullL) := by
  rw [Bool.eq_iff_iff, decide_eq_true_eq, barr_eq]
  constructor
  · intro h; rw [h]; rfl
  · intro h; exact ba_ext h
/-- What nameB asks, one after the other. -/
theorem name_cases (l : List UInt8) : (l = [] ∧ nameB l = false) ∨ (l ≠ [] ∧ ((24 < l.length ∧ nameB l = false) ∨ (l.length ≤ 24 ∧ ((l = nullL ∧ nameB l = false) ∨ (¬ l = nullL ∧ ((isL (l.getD 0 0) = false ∧ nameB l = false) ∨ (isL (l.getD 0 0) = true ∧ nameB l = l.all isW))))))) := by
  cases l with
  | nil => exact .inl ⟨rfl, rfl⟩
  | cons c r =>
    refine .inr ⟨by simp, ?_⟩
    unfold nameB
    simp only
    by_cases h : (c :: r).length ≤ 24
    · refine .inr ⟨h, ?_⟩
      rw [decide_eq_true h, Bool.true_and]
      by_cases h2 : c :: r = nullL
      · exact .inl ⟨h2, by rw [decide_eq_true h2]; rfl⟩
      · refine .inr ⟨h2, ?_⟩
        rw [decide_eq_false h2, Bool.not_false, Bool.true_and]
        show (isL c = false ∧ _) ∨ (isL c = true ∧ _)
        cases isL c with
        | false => exact .inl ⟨rfl, rfl⟩
        | true => exact .inr ⟨rfl, by rw [Bool.true_and]⟩
    · exact .inl ⟨by omega, by rw [decide_eq_false h]; rfl⟩

set_option maxHeartbeats 1000000 in
set_option maxRecDepth 20000 in
theorem isName_p (s : ByteArray) : PCall Tryd.prog 56 [Str s] (SB (nameB s.data.toList)) := by
  have ls : s.data.toList.length = s.size := Array.length_toList
  have b1 := bempty s
  have b2 := bnull s
  have h0l := letter_c (s.data.toList.getD 0 0)
  rcases name_cases s.data.toList with ⟨h1, h2⟩ | ⟨h1, ⟨h2, h3⟩ | ⟨h2, ⟨h3, h4⟩ | ⟨h3, h4⟩⟩⟩
  · rw [h2]
    rw [decide_eq_true h1] at b1
    refine Call.enter' (N := 58) (rs := [.tmp 2]) Tryd.func56 rfl rfl rfl (by decide) rfl ?_; simp only [argT]; have hD : (0 : Nat) = 0 := rfl
    repeat' first | (with_reducible refine And.intro (by omega) ?_) | (refine SW.seq_k fun K hK => ?_) | (refine SW.block ?_) | ((first | refine SW.region ?_ | refine SW.regionD (Checked.mixed Tryd.checked) (by kernel_rfl) ?_ | refine SW.cond ?_ | refine SW.skip ?_ | refine SW.exit ?_ | refine SW.ret ?_ | (refine allF_i fun b hb => ?_; replace hD := And.intro hb hD; clear hb; try simp only [fresh_cons, fresh_nil, and_true, ne_eq, neF] at hD) | simp only [appK, appOsK]); try simp only [go_sem, hD, b1]) | (refine And.intro (by omega) ?_) | (refine ifI (fun hc => ?_) (fun hc => ?_) <;> first | (exfalso; omega) | skip) | ((first | apply hK | ((iterate 1 (clear hK K)); apply hK) | ((iterate 2 (clear hK K)); apply hK) | ((iterate 3 (clear hK K)); apply hK) | ((iterate 4 (clear hK K)); apply hK) | ((iterate 5 (clear hK K)); apply hK)); clear hK K)
    refine ret_pure ?_; simp only [resL_tmp, resL_nil, tupOf, go_sem, hD]
  · rw [h3]
    rw [decide_eq_false h1] at b1
    have h24i : (24 : Int) < ((s.size : Nat) : Int) := by omega
    refine Call.enter' (N := 58) (rs := [.tmp 2]) Tryd.func56 rfl rfl rfl (by decide) rfl ?_; simp only [argT]; have hD : (0 : Nat) = 0 := rfl
    repeat' first | (with_reducible refine And.intro (by omega) ?_) | (refine SW.seq_k fun K hK => ?_) | (refine SW.block ?_) | ((first | refine SW.region ?_ | refine SW.regionD (Checked.mixed Tryd.checked) (by kernel_rfl) ?_ | refine SW.cond ?_ | refine SW.skip ?_ | refine SW.exit ?_ | refine SW.ret ?_ | (refine allF_i fun b hb => ?_; replace hD := And.intro hb hD; clear hb; try simp only [fresh_cons, fresh_nil, and_true, ne_eq, neF] at hD) | simp only [appK, appOsK]); try simp only [go_sem, hD, b1, h24i]) | (refine And.intro (by omega) ?_) | (refine ifI (fun hc => ?_) (fun hc => ?_) <;> first | (exfalso; omega) | skip) | ((first | apply hK | ((iterate 1 (clear hK K)); apply hK) | ((iterate 2 (clear hK K)); apply hK) | ((iterate 3 (clear hK K)); apply hK) | ((iterate 4 (clear hK K)); apply hK) | ((iterate 5 (clear hK K)); apply hK)); clear hK K)
    refine ret_pure ?_; simp only [resL_tmp, resL_nil, tupOf, go_sem, hD]
  · rw [h4]
    rw [decide_eq_false h1] at b1
    rw [decide_eq_true h3] at b2
    have h24i : ¬ (24 : Int) < ((s.size : Nat) : Int) := by omega
    refine Call.enter' (N := 58) (rs := [.tmp 2]) Tryd.func56 rfl rfl rfl (by decide) rfl ?_; simp only [argT]; have hD : (0 : Nat) = 0 := rfl
    repeat' first | (with_reducible refine And.intro (by omega) ?_) | (refine SW.seq_k fun K hK => ?_) | (refine SW.block ?_) | ((first | refine SW.region ?_ | refine SW.regionD (Checked.mixed Tryd.checked) (by kernel_rfl) ?_ | refine SW.cond ?_ | refine SW.skip ?_ | refine SW.exit ?_ | refine SW.ret ?_ | (refine allF_i fun b hb => ?_; replace hD := And.intro hb hD; clear hb; try simp only [fresh_cons, fresh_nil, and_true, ne_eq, neF] at hD) | simp only [appK, appOsK]); try simp only [go_sem, hD, b1, h24i, b2]) | (refine And.intro (by omega) ?_) | (refine ifI (fun hc => ?_) (fun hc => ?_) <;> first | (exfalso; omega) | skip) | ((first | apply hK | ((iterate 1 (clear hK K)); apply hK) | ((iterate 2 (clear hK K)); apply hK) | ((iterate 3 (clear hK K)); apply hK) | ((iterate 4 (clear hK K)); apply hK) | ((iterate 5 (clear hK K)); apply hK)); clear hK K)
    refine ret_pure ?_; simp only [resL_tmp, resL_nil, tupOf, go_sem, hD]
  · rw [decide_eq_false h1] at b1
    rw [decide_eq_false h3] at b2
    have h24i : ¬ (24 : Int) < ((s.size : Nat) : Int) := by omega
    obtain ⟨R, hR⟩ : ∃ R, R = nameB s.data.toList := ⟨_, rfl⟩
    rw [← hR] at h4 ⊢
    have h5 : (isL (s.data.toList.getD 0 0) = true ∧ R = (s.data.toList.drop 0).all isW) ∨ (0 = 0 ∧ R = false ∧ isL (s.data.toList.getD 0 0) = false) := by
      rcases h4 with ⟨a, b⟩ | ⟨a, b⟩
      · exact .inr ⟨rfl, b, a⟩
      · exact .inl ⟨a, b⟩
    have h0 : 0 < s.size := by
      rcases Nat.eq_zero_or_pos s.size with h | h
      · exact absurd (List.eq_nil_of_length_eq_zero (by rw [ls]; exact h)) h1
      · exact h
    clear h4 hR
    refine Call.enter' (N := 58) (rs := [.tmp 2]) Tryd.func56 rfl rfl rfl (by decide) rfl ?_; simp only [argT]; have hD : (0 : Nat) = 0 := rfl
    repeat' first | (with_reducible refine And.intro (by omega) ?_) | (refine SW.seq_k fun K hK => ?_) | (refine SW.block ?_) | ((first | refine SW.region ?_ | refine SW.regionD (Checked.mixed Tryd.checked) (by kernel_rfl) ?_ | refine SW.cond ?_ | refine SW.skip ?_ | refine SW.exit ?_ | refine SW.ret ?_ | (refine allF_i fun b hb => ?_; replace hD := And.intro hb hD; clear hb; try simp only [fresh_cons, fresh_nil, and_true, ne_eq, neF] at hD) | simp only [appK, appOsK]); try simp only [go_sem, hD, b1, h24i, b2]) | (refine And.intro (by omega) ?_) | (refine ifI (fun hc => ?_) (fun hc => ?_) <;> first | (exfalso; omega) | skip) | ((first | apply hK | ((iterate 1 (clear hK K)); apply hK) | ((iterate 2 (clear hK K)); apply hK) | ((iterate 3 (clear hK K)); apply hK) | ((iterate 4 (clear hK K)); apply hK) | ((iterate 5 (clear hK K)); apply hK)); clear hK K)
    obtain ⟨I, hI⟩ : ∃ I : Nat → St → Prop, ∀ k S, I k S ↔ (∃ (i : Nat) , k = s.size - i ∧ i ≤ s.size ∧ ((isL (s.data.toList.getD 0 0) = true ∧ R = (s.data.toList.drop i).all isW) ∨ (i = 0 ∧ R = false ∧ isL (s.data.toList.getD 0 0) = false)) ∧ S = ⟨[(0, Str s), (18, I64 s.size), (19, I64 i)], []⟩) := ⟨fun k S => _, fun _ _ => Iff.rfl⟩
    refine SW.loop' I (s.size) ((hI _ _).2 ⟨0, rfl, Nat.zero_le _, h5, rfl⟩) (by repeat' (first | exact rfl | exact trivial | exact int_eq (by omega) | exact int_eq (by (rw [i64_wrap] <;> omega)) | constructor)) ?_
    intro k S hIn
    obtain ⟨i, rfl, hi, hC, rfl⟩ := (hI _ _).1 hIn
    clear hIn
    have ie : ((i : Nat) : Int).toNat = i := Int.toNat_natCast _
    have i0 : (0 : Int) ≤ ((i : Nat) : Int) := by omega
    clear h5
    by_cases hlt : i < s.size
    · have hli : ((i : Nat) : Int) < (((s.size) : Nat) : Int) := by omega
      have w1 : IntKind.i64.wrap ((i : Int) + 1) = ((i + 1 : Nat) : Int) := by rw [i64_wrap (by omega) (by omega)]; omega
      obtain ⟨c, gc⟩ : ∃ c, s.data.toList.getD i 0 = c := ⟨_, rfl⟩
      have st := all_step (l := s.data.toList) (i := i) (by omega)
      rw [gc] at st
      cases q1 : isL c with
      | true =>
        have hC2 : (isL (s.data.toList.getD 0 0) = true ∧ R = (s.data.toList.drop (i + 1)).all isW) ∨ (i + 1 = 0 ∧ R = false ∧ isL (s.data.toList.getD 0 0) = false) := by
          rcases hC with ⟨a, b⟩ | ⟨rfl, b, d⟩
          · exact .inl ⟨a, by rw [b, st]; unfold isW; rw [q1]; rfl⟩
          · rw [gc, q1] at d
            cases d
        clear hC
        have q2 := q1
        unfold isL at q2
        simp only [Bool.or_eq_true, Bool.and_eq_true, decide_eq_true_eq] at q2
        repeat' first | (with_reducible refine And.intro (by omega) ?_) | (refine SW.seq_k fun K hK => ?_) | (refine SW.block ?_) | ((first | refine SW.region ?_ | refine SW.regionD (Checked.mixed Tryd.checked) (by kernel_rfl) ?_ | refine SW.cond ?_ | refine SW.skip ?_ | refine SW.exit ?_ | refine SW.ret ?_ | (refine allF_i fun b hb => ?_; replace hD := And.intro hb hD; clear hb; try simp only [fresh_cons, fresh_nil, and_true, ne_eq, neF] at hD) | simp only [appK, appOsK]); try simp only [go_sem, hD, hli, ie, i0, w1, gc]) | (refine And.intro (by omega) ?_) | (refine ifI (fun hc => ?_) (fun hc => ?_) <;> first | (exfalso; omega) | skip) | ((first | apply hK | ((iterate 1 (clear hK K)); apply hK) | ((iterate 2 (clear hK K)); apply hK) | ((iterate 3 (clear hK K)); apply hK) | ((iterate 4 (clear hK K)); apply hK) | ((iterate 5 (clear hK K)); apply hK)); clear hK K)
        all_goals
          refine Rnd.sub (s.size - (i + 1)) (by omega) ((hI _ _).2 ⟨i + 1, rfl, by omega, hC2, rfl⟩) (by repeat' (first | exact rfl | exact trivial | exact int_eq (by omega) | exact int_eq (by (rw [i64_wrap] <;> omega)) | constructor))
      | false =>
        have q2 := q1
        unfold isL at q2
        simp only [Bool.or_eq_false_iff, Bool.and_eq_false_iff, decide_eq_false_iff_not] at q2
        by_cases hz : 0 < i ∧ isD c = true
        · obtain ⟨z1, z2⟩ := hz
          have hC2 : (isL (s.data.toList.getD 0 0) = true ∧ R = (s.data.toList.drop (i + 1)).all isW) ∨ (i + 1 = 0 ∧ R = false ∧ isL (s.data.toList.getD 0 0) = false) := by
            rcases hC with ⟨a, b⟩ | ⟨rfl, b, d⟩
            · exact .inl ⟨a, by rw [b, st]; unfold isW; rw [q1, z2]; rfl⟩
            · exact absurd z1 (Nat.lt_irrefl 0)
          clear hC
          unfold isD at z2
          simp only [Bool.and_eq_true, decide_eq_true_eq] at z2
          have z3 : ¬ ((i : Nat) : Int) = 0 := by omega
          repeat' first | (with_reducible refine And.intro (by omega) ?_) | (refine SW.seq_k fun K hK => ?_) | (refine SW.block ?_) | ((first | refine SW.region ?_ | refine SW.regionD (Checked.mixed Tryd.checked) (by kernel_rfl) ?_ | refine SW.cond ?_ | refine SW.skip ?_ | refine SW.exit ?_ | refine SW.ret ?_ | (refine allF_i fun b hb => ?_; replace hD := And.intro hb hD; clear hb; try simp only [fresh_cons, fresh_nil, and_true, ne_eq, neF] at hD) | simp only [appK, appOsK]); try simp only [go_sem, hD, hli, ie, i0, w1, gc, z3]) | (refine And.intro (by omega) ?_) | (refine ifI (fun hc => ?_) (fun hc => ?_) <;> first | (exfalso; omega) | skip) | ((first | apply hK | ((iterate 1 (clear hK K)); apply hK) | ((iterate 2 (clear hK K)); apply hK) | ((iterate 3 (clear hK K)); apply hK) | ((iterate 4 (clear hK K)); apply hK) | ((iterate 5 (clear hK K)); apply hK)); clear hK K)
          all_goals
            refine Rnd.sub (s.size - (i + 1)) (by omega) ((hI _ _).2 ⟨i + 1, rfl, by omega, hC2, rfl⟩) (by repeat' (first | exact rfl | exact trivial | exact int_eq (by omega) | exact int_eq (by (rw [i64_wrap] <;> omega)) | constructor))
        · have hC2 : R = false := by
            rcases hC with ⟨a, b⟩ | ⟨rfl, b, d⟩
            · rcases Nat.eq_zero_or_pos i with rfl | h
              · rw [gc, q1] at a
                cases a
              · have : isD c = false := by
                  rw [Bool.eq_false_iff]
                  exact fun x => hz ⟨h, x⟩
                rw [b, st]
                unfold isW
                rw [q1, this]
                rfl
            · exact b
          clear hC
          subst hC2
          rcases Nat.eq_zero_or_pos i with rfl | h
          · repeat' first | (with_reducible refine And.intro (by omega) ?_) | (refine SW.seq_k fun K hK => ?_) | (refine SW.block ?_) | ((first | refine SW.region ?_ | refine SW.regionD (Checked.mixed Tryd.checked) (by kernel_rfl) ?_ | refine SW.cond ?_ | refine SW.skip ?_ | refine SW.exit ?_ | refine SW.ret ?_ | (refine allF_i fun b hb => ?_; replace hD := And.intro hb hD; clear hb; try simp only [fresh_cons, fresh_nil, and_true, ne_eq, neF] at hD) | simp only [appK, appOsK]); try simp only [go_sem, hD, hli, ie, i0, w1, gc]) | (refine And.intro (by omega) ?_) | (refine ifI (fun hc => ?_) (fun hc => ?_) <;> first | (exfalso; omega) | skip) | ((first | apply hK | ((iterate 1 (clear hK K)); apply hK) | ((iterate 2 (clear hK K)); apply hK) | ((iterate 3 (clear hK K)); apply hK) | ((iterate 4 (clear hK K)); apply hK) | ((iterate 5 (clear hK K)); apply hK)); clear hK K)
            all_goals
              refine ret_pure ?_; simp only [resL_tmp, resL_nil, tupOf, go_sem, hD]
          · have z2 : isD c = false := by
              rw [Bool.eq_false_iff]
              exact fun x => hz ⟨h, x⟩
            unfold isD at z2
            simp only [Bool.and_eq_false_iff, decide_eq_false_iff_not] at z2
            have z3 : ¬ ((i : Nat) : Int) = 0 := by omega
            repeat' first | (with_reducible refine And.intro (by omega) ?_) | (refine SW.seq_k fun K hK => ?_) | (refine SW.block ?_) | ((first | refine SW.region ?_ | refine SW.regionD (Checked.mixed Tryd.checked) (by kernel_rfl) ?_ | refine SW.cond ?_ | refine SW.skip ?_ | refine SW.exit ?_ | refine SW.ret ?_ | (refine allF_i fun b hb => ?_; replace hD := And.intro hb hD; clear hb; try simp only [fresh_cons, fresh_nil, and_true, ne_eq, neF] at hD) | simp only [appK, appOsK]); try simp only [go_sem, hD, hli, ie, i0, w1, gc, z3]) | (refine And.intro (by omega) ?_) | (refine ifI (fun hc => ?_) (fun hc => ?_) <;> first | (exfalso; omega) | skip) | ((first | apply hK | ((iterate 1 (clear hK K)); apply hK) | ((iterate 2 (clear hK K)); apply hK) | ((iterate 3 (clear hK K)); apply hK) | ((iterate 4 (clear hK K)); apply hK) | ((iterate 5 (clear hK K)); apply hK)); clear hK K)
            all_goals
              refine ret_pure ?_; simp only [resL_tmp, resL_nil, tupOf, go_sem, hD]
    · have hli : ¬ ((i : Nat) : Int) < (((s.size) : Nat) : Int) := by omega
      have hC2 : R = true := by
        rcases hC with ⟨a, b⟩ | ⟨rfl, b, d⟩
        · rw [b, all_end (l := s.data.toList) (i := i) (by omega)]
        · exfalso; omega
      subst hC2
      repeat' first | (with_reducible refine And.intro (by omega) ?_) | (refine SW.seq_k fun K hK => ?_) | (refine SW.block ?_) | ((first | refine SW.region ?_ | refine SW.regionD (Checked.mixed Tryd.checked) (by kernel_rfl) ?_ | refine SW.cond ?_ | refine SW.skip ?_ | refine SW.exit ?_ | refine SW.ret ?_ | (refine allF_i fun b hb => ?_; replace hD := And.intro hb hD; clear hb; try simp only [fresh_cons, fresh_nil, and_true, ne_eq, neF] at hD) | simp only [appK, appOsK]); try simp only [go_sem, hD, hli]) | (refine And.intro (by omega) ?_) | (refine ifI (fun hc => ?_) (fun hc => ?_) <;> first | (exfalso; omega) | skip) | ((first | apply hK | ((iterate 1 (clear hK K)); apply hK) | ((iterate 2 (clear hK K)); apply hK) | ((iterate 3 (clear hK K)); apply hK) | ((iterate 4 (clear hK K)); apply hK) | ((iterate 5 (clear hK K)); apply hK)); clear hK K)
      refine ret_pure ?_; simp only [resL_tmp, resL_nil, tupOf, go_sem, hD]

set_option maxHeartbeats 1000000 in
set_option maxRecDepth 20000 in
theorem name_r (s : ByteArray) : PCall Tryd.prog 38 [Str s] (SB (nameB s.data.toList)) := by
  have ls : s.data.toList.length = s.size := Array.length_toList
  have b2 := bnull s
  have h0l := letter_c (s.data.toList.getD 0 0)
  rcases name_cases s.data.toList with ⟨h1, h2⟩ | ⟨h1, h2⟩
  · rw [h2]
    have hz : ((s.size : Nat) : Int) = 0 := by rw [← ls, h1]; rfl
    refine Call.enter' (N := 45) (rs := [.tmp 2]) Tryd.func38 rfl rfl rfl (by decide) rfl ?_; simp only [argT]; have hD : (0 : Nat) = 0 := rfl
    repeat' first | (with_reducible refine And.intro (by omega) ?_) | (refine SW.seq_k fun K hK => ?_) | (refine SW.block ?_) | ((first | refine SW.region ?_ | refine SW.regionD (Checked.mixed Tryd.checked) (by kernel_rfl) ?_ | refine SW.cond ?_ | refine SW.skip ?_ | refine SW.exit ?_ | refine SW.ret ?_ | (refine allF_i fun b hb => ?_; replace hD := And.intro hb hD; clear hb; try simp only [fresh_cons, fresh_nil, and_true, ne_eq, neF] at hD) | simp only [appK, appOsK]); try simp only [go_sem, hD, hz]) | (refine And.intro (by omega) ?_) | (refine ifI (fun hc => ?_) (fun hc => ?_) <;> first | (exfalso; omega) | skip) | ((first | apply hK | ((iterate 1 (clear hK K)); apply hK) | ((iterate 2 (clear hK K)); apply hK) | ((iterate 3 (clear hK K)); apply hK) | ((iterate 4 (clear hK K)); apply hK) | ((iterate 5 (clear hK K)); apply hK)); clear hK K)
    refine ret_pure ?_; simp only [resL_tmp, resL_nil, tupOf, go_sem, hD]
  · have h0 : 0 < s.size := by
      rcases Nat.eq_zero_or_pos s.size with h | h
      · exact absurd (List.eq_nil_of_length_eq_zero (by rw [ls]; exact h)) h1
      · exact h
    have hz : ¬ ((s.size : Nat) : Int) = 0 := by omega
    have hz1 : (0 : Int) < ((s.size : Nat) : Int) := by omega
    rcases h2 with ⟨h2, h3⟩ | ⟨h2, h3⟩
    · rw [h3]
      have h24i : (24 : Int) < ((s.size : Nat) : Int) := by omega
      refine Call.enter' (N := 45) (rs := [.tmp 2]) Tryd.func38 rfl rfl rfl (by decide) rfl ?_; simp only [argT]; have hD : (0 : Nat) = 0 := rfl
      repeat' first | (with_reducible refine And.intro (by omega) ?_) | (refine SW.seq_k fun K hK => ?_) | (refine SW.block ?_) | ((first | refine SW.region ?_ | refine SW.regionD (Checked.mixed Tryd.checked) (by kernel_rfl) ?_ | refine SW.cond ?_ | refine SW.skip ?_ | refine SW.exit ?_ | refine SW.ret ?_ | (refine allF_i fun b hb => ?_; replace hD := And.intro hb hD; clear hb; try simp only [fresh_cons, fresh_nil, and_true, ne_eq, neF] at hD) | simp only [appK, appOsK]); try simp only [go_sem, hD, hz, h24i]) | (refine And.intro (by omega) ?_) | (refine ifI (fun hc => ?_) (fun hc => ?_) <;> first | (exfalso; omega) | skip) | ((first | apply hK | ((iterate 1 (clear hK K)); apply hK) | ((iterate 2 (clear hK K)); apply hK) | ((iterate 3 (clear hK K)); apply hK) | ((iterate 4 (clear hK K)); apply hK) | ((iterate 5 (clear hK K)); apply hK)); clear hK K)
      refine ret_pure ?_; simp only [resL_tmp, resL_nil, tupOf, go_sem, hD]
    · have h24i : ¬ (24 : Int) < ((s.size : Nat) : Int) := by omega
      rcases h3 with ⟨h3, h4⟩ | ⟨h3, ⟨h4, h5⟩ | ⟨h4, h5⟩⟩
      · rw [h4]
        rw [decide_eq_true h3] at b2
        cases q : isL (s.data.toList.getD 0 0) with
        | true =>
          rw [q] at h0l
          refine Call.enter' (N := 45) (rs := [.tmp 2]) Tryd.func38 rfl rfl rfl (by decide) rfl ?_; simp only [argT]; have hD : (0 : Nat) = 0 := rfl
          repeat' first | (with_reducible refine And.intro (by omega) ?_) | (refine SW.seq_k fun K hK => ?_) | (refine SW.block ?_) | ((first | refine SW.region ?_ | refine SW.regionD (Checked.mixed Tryd.checked) (by kernel_rfl) ?_ | refine SW.cond ?_ | refine SW.skip ?_ | refine SW.exit ?_ | refine SW.ret ?_ | refine Call.of_pure (h0l) ?_ | refine ⟨_, h0l, ?_⟩ | (refine allF_i fun b hb => ?_; replace hD := And.intro hb hD; clear hb; try simp only [fresh_cons, fresh_nil, and_true, ne_eq, neF] at hD) | simp only [appK, appOsK]); try simp only [go_sem, hD, hz, hz1, h24i, b2]) | (refine And.intro (by omega) ?_) | (refine ifI (fun hc => ?_) (fun hc => ?_) <;> first | (exfalso; omega) | skip) | ((first | apply hK | ((iterate 1 (clear hK K)); apply hK) | ((iterate 2 (clear hK K)); apply hK) | ((iterate 3 (clear hK K)); apply hK) | ((iterate 4 (clear hK K)); apply hK) | ((iterate 5 (clear hK K)); apply hK)); clear hK K)
          refine ret_pure ?_; simp only [resL_tmp, resL_nil, tupOf, go_sem, hD]
        | false =>
          rw [q] at h0l
          refine Call.enter' (N := 45) (rs := [.tmp 2]) Tryd.func38 rfl rfl rfl (by decide) rfl ?_; simp only [argT]; have hD : (0 : Nat) = 0 := rfl
          repeat' first | (with_reducible refine And.intro (by omega) ?_) | (refine SW.seq_k fun K hK => ?_) | (refine SW.block ?_) | ((first | refine SW.region ?_ | refine SW.regionD (Checked.mixed Tryd.checked) (by kernel_rfl) ?_ | refine SW.cond ?_ | refine SW.skip ?_ | refine SW.exit ?_ | refine SW.ret ?_ | refine Call.of_pure (h0l) ?_ | refine ⟨_, h0l, ?_⟩ | (refine allF_i fun b hb => ?_; replace hD := And.intro hb hD; clear hb; try simp only [fresh_cons, fresh_nil, and_true, ne_eq, neF] at hD) | simp only [appK, appOsK]); try simp only [go_sem, hD, hz, hz1, h24i, b2]) | (refine And.intro (by omega) ?_) | (refine ifI (fun hc => ?_) (fun hc => ?_) <;> first | (exfalso; omega) | skip) | ((first | apply hK | ((iterate 1 (clear hK K)); apply hK) | ((iterate 2 (clear hK K)); apply hK) | ((iterate 3 (clear hK K)); apply hK) | ((iterate 4 (clear hK K)); apply hK) | ((iterate 5 (clear hK K)); apply hK)); clear hK K)
          refine ret_pure ?_; simp only [resL_tmp, resL_nil, tupOf, go_sem, hD]
      · rw [h5]
        rw [h4] at h0l
        refine Call.enter' (N := 45) (rs := [.tmp 2]) Tryd.func38 rfl rfl rfl (by decide) rfl ?_; simp only [argT]; have hD : (0 : Nat) = 0 := rfl
        repeat' first | (with_reducible refine And.intro (by omega) ?_) | (refine SW.seq_k fun K hK => ?_) | (refine SW.block ?_) | ((first | refine SW.region ?_ | refine SW.regionD (Checked.mixed Tryd.checked) (by kernel_rfl) ?_ | refine SW.cond ?_ | refine SW.skip ?_ | refine SW.exit ?_ | refine SW.ret ?_ | refine Call.of_pure (h0l) ?_ | refine ⟨_, h0l, ?_⟩ | (refine allF_i fun b hb => ?_; replace hD := And.intro hb hD; clear hb; try simp only [fresh_cons, fresh_nil, and_true, ne_eq, neF] at hD) | simp only [appK, appOsK]); try simp only [go_sem, hD, hz, hz1, h24i, b2]) | (refine And.intro (by omega) ?_) | (refine ifI (fun hc => ?_) (fun hc => ?_) <;> first | (exfalso; omega) | skip) | ((first | apply hK | ((iterate 1 (clear hK K)); apply hK) | ((iterate 2 (clear hK K)); apply hK) | ((iterate 3 (clear hK K)); apply hK) | ((iterate 4 (clear hK K)); apply hK) | ((iterate 5 (clear hK K)); apply hK)); clear hK K)
        refine ret_pure ?_; simp only [resL_tmp, resL_nil, tupOf, go_sem, hD]
      · obtain ⟨R, hR⟩ : ∃ R, R = nameB s.data.toList := ⟨_, rfl⟩
        rw [← hR] at h5 ⊢
        rw [h4] at h0l
        rw [decide_eq_false h3] at b2
        refine Call.enter' (N := 45) (rs := [.tmp 2]) Tryd.func38 rfl rfl rfl (by decide) rfl ?_; simp only [argT]; have hD : (0 : Nat) = 0 := rfl
        repeat' first | (with_reducible refine And.intro (by omega) ?_) | (refine SW.seq_k fun K hK => ?_) | (refine SW.block ?_) | ((first | refine SW.region ?_ | refine SW.regionD (Checked.mixed Tryd.checked) (by kernel_rfl) ?_ | refine SW.cond ?_ | refine SW.skip ?_ | refine SW.exit ?_ | refine SW.ret ?_ | refine Call.of_pure (h0l) ?_ | refine ⟨_, h0l, ?_⟩ | (refine allF_i fun b hb => ?_; replace hD := And.intro hb hD; clear hb; try simp only [fresh_cons, fresh_nil, and_true, ne_eq, neF] at hD) | simp only [appK, appOsK]); try simp only [go_sem, hD, hz, hz1, h24i, b2]) | (refine And.intro (by omega) ?_) | (refine ifI (fun hc => ?_) (fun hc => ?_) <;> first | (exfalso; omega) | skip) | ((first | apply hK | ((iterate 1 (clear hK K)); apply hK) | ((iterate 2 (clear hK K)); apply hK) | ((iterate 3 (clear hK K)); apply hK) | ((iterate 4 (clear hK K)); apply hK) | ((iterate 5 (clear hK K)); apply hK)); clear hK K)
        obtain ⟨I, hI⟩ : ∃ I : Nat → St → Prop, ∀ k S, I k S ↔ (∃ (i : Nat) , k = s.size - i ∧ i ≤ s.size ∧ R = (s.data.toList.drop i).all isW ∧ S = ⟨[(0, Str s), (3, I64 i)], []⟩) := ⟨fun k S => _, fun _ _ => Iff.rfl⟩
        refine SW.loop' I (s.size) ((hI _ _).2 ⟨0, rfl, Nat.zero_le _, h5, rfl⟩) (by repeat' (first | exact rfl | exact trivial | exact int_eq (by omega) | exact int_eq (by (rw [i64_wrap] <;> omega)) | constructor)) ?_
        intro k S hIn
        obtain ⟨i, rfl, hi, hC, rfl⟩ := (hI _ _).1 hIn
        clear hIn
        have ie : ((i : Nat) : Int).toNat = i := Int.toNat_natCast _
        have i0 : (0 : Int) ≤ ((i : Nat) : Int) := by omega
        clear h5 hR
        by_cases hlt : i < s.size
        · have hli : ((i : Nat) : Int) < (((s.size) : Nat) : Int) := by omega
          have w1 : IntKind.i64.wrap ((i : Int) + 1) = ((i + 1 : Nat) : Int) := by rw [i64_wrap (by omega) (by omega)]; omega
          rw [all_step (by omega)] at hC
          obtain ⟨c, gc⟩ : ∃ c, s.data.toList.getD i 0 = c := ⟨_, rfl⟩
          rw [gc] at hC
          have lc := letter_c c
          cases q1 : isL c with
          | true =>
            rw [q1] at lc
            have hC2 : R = (s.data.toList.drop (i + 1)).all isW := by rw [hC]; unfold isW; rw [q1]; rfl
            repeat' first | (with_reducible refine And.intro (by omega) ?_) | (refine SW.seq_k fun K hK => ?_) | (refine SW.block ?_) | ((first | refine SW.region ?_ | refine SW.regionD (Checked.mixed Tryd.checked) (by kernel_rfl) ?_ | refine SW.cond ?_ | refine SW.skip ?_ | refine SW.exit ?_ | refine SW.ret ?_ | refine Call.of_pure (lc) ?_ | refine ⟨_, lc, ?_⟩ | (refine allF_i fun b hb => ?_; replace hD := And.intro hb hD; clear hb; try simp only [fresh_cons, fresh_nil, and_true, ne_eq, neF] at hD) | simp only [appK, appOsK]); try simp only [go_sem, hD, hli, ie, i0, w1, gc]) | (refine And.intro (by omega) ?_) | (refine ifI (fun hc => ?_) (fun hc => ?_) <;> first | (exfalso; omega) | skip) | ((first | apply hK | ((iterate 1 (clear hK K)); apply hK) | ((iterate 2 (clear hK K)); apply hK) | ((iterate 3 (clear hK K)); apply hK) | ((iterate 4 (clear hK K)); apply hK) | ((iterate 5 (clear hK K)); apply hK)); clear hK K)
            refine Rnd.sub (s.size - (i + 1)) (by omega) ((hI _ _).2 ⟨i + 1, rfl, by omega, hC2, rfl⟩) (by repeat' (first | exact rfl | exact trivial | exact int_eq (by omega) | exact int_eq (by (rw [i64_wrap] <;> omega)) | constructor))
          | false =>
            rw [q1] at lc
            cases q2 : isD c with
            | true =>
              have hC2 : R = (s.data.toList.drop (i + 1)).all isW := by rw [hC]; unfold isW; rw [q1, q2]; rfl
              unfold isD at q2
              simp only [Bool.and_eq_true, decide_eq_true_eq] at q2
              repeat' first | (with_reducible refine And.intro (by omega) ?_) | (refine SW.seq_k fun K hK => ?_) | (refine SW.block ?_) | ((first | refine SW.region ?_ | refine SW.regionD (Checked.mixed Tryd.checked) (by kernel_rfl) ?_ | refine SW.cond ?_ | refine SW.skip ?_ | refine SW.exit ?_ | refine SW.ret ?_ | refine Call.of_pure (lc) ?_ | refine ⟨_, lc, ?_⟩ | (refine allF_i fun b hb => ?_; replace hD := And.intro hb hD; clear hb; try simp only [fresh_cons, fresh_nil, and_true, ne_eq, neF] at hD) | simp only [appK, appOsK]); try simp only [go_sem, hD, hli, ie, i0, w1, gc]) | (refine And.intro (by omega) ?_) | (refine ifI (fun hc => ?_) (fun hc => ?_) <;> first | (exfalso; omega) | skip) | ((first | apply hK | ((iterate 1 (clear hK K)); apply hK) | ((iterate 2 (clear hK K)); apply hK) | ((iterate 3 (clear hK K)); apply hK) | ((iterate 4 (clear hK K)); apply hK) | ((iterate 5 (clear hK K)); apply hK)); clear hK K)
              refine Rnd.sub (s.size - (i + 1)) (by omega) ((hI _ _).2 ⟨i + 1, rfl, by omega, hC2, rfl⟩) (by repeat' (first | exact rfl | exact trivial | exact int_eq (by omega) | exact int_eq (by (rw [i64_wrap] <;> omega)) | constructor))
            | false =>
              have hC2 : R = false := by rw [hC]; unfold isW; rw [q1, q2]; rfl
              subst hC2
              unfold isD at q2
              simp only [Bool.and_eq_false_iff, decide_eq_false_iff_not] at q2
              repeat' first | (with_reducible refine And.intro (by omega) ?_) | (refine SW.seq_k fun K hK => ?_) | (refine SW.block ?_) | ((first | refine SW.region ?_ | refine SW.regionD (Checked.mixed Tryd.checked) (by kernel_rfl) ?_ | refine SW.cond ?_ | refine SW.skip ?_ | refine SW.exit ?_ | refine SW.ret ?_ | refine Call.of_pure (lc) ?_ | refine ⟨_, lc, ?_⟩ | (refine allF_i fun b hb => ?_; replace hD := And.intro hb hD; clear hb; try simp only [fresh_cons, fresh_nil, and_true, ne_eq, neF] at hD) | simp only [appK, appOsK]); try simp only [go_sem, hD, hli, ie, i0, w1, gc]) | (refine And.intro (by omega) ?_) | (refine ifI (fun hc => ?_) (fun hc => ?_) <;> first | (exfalso; omega) | skip) | ((first | apply hK | ((iterate 1 (clear hK K)); apply hK) | ((iterate 2 (clear hK K)); apply hK) | ((iterate 3 (clear hK K)); apply hK) | ((iterate 4 (clear hK K)); apply hK) | ((iterate 5 (clear hK K)); apply hK)); clear hK K)
              all_goals
                refine ret_pure ?_; simp only [resL_tmp, resL_nil, tupOf, go_sem, hD]
        · have hli : ¬ ((i : Nat) : Int) < (((s.size) : Nat) : Int) := by omega
          rw [all_end (l := s.data.toList) (i := i) (by omega)] at hC
          subst hC
          repeat' first | (with_reducible refine And.intro (by omega) ?_) | (refine SW.seq_k fun K hK => ?_) | (refine SW.block ?_) | ((first | refine SW.region ?_ | refine SW.regionD (Checked.mixed Tryd.checked) (by kernel_rfl) ?_ | refine SW.cond ?_ | refine SW.skip ?_ | refine SW.exit ?_ | refine SW.ret ?_ | (refine allF_i fun b hb => ?_; replace hD := And.intro hb hD; clear hb; try simp only [fresh_cons, fresh_nil, and_true, ne_eq, neF] at hD) | simp only [appK, appOsK]); try simp only [go_sem, hD, hli]) | (refine And.intro (by omega) ?_) | (refine ifI (fun hc => ?_) (fun hc => ?_) <;> first | (exfalso; omega) | skip) | ((first | apply hK | ((iterate 1 (clear hK K)); apply hK) | ((iterate 2 (clear hK K)); apply hK) | ((iterate 3 (clear hK K)); apply hK) | ((iterate 4 (clear hK K)); apply hK) | ((iterate 5 (clear hK K)); apply hK)); clear hK K)
          refine ret_pure ?_; simp only [resL_tmp, resL_nil, tupOf, go_sem, hD]
end Go.Proofs.YtddkacbcecedaaaDoor
/- Contracts: lists of names. -/
set_option linter.unusedSimpArgs false
set_option linter.unusedVariables false
set_option linter.unusedSectionVars false
namespace Go.Ab.A34
open Go Go.Ab
/-- Where a text stands in a list. -/
def posS (x : ByteArray) : Nat → List ByteArray → Int
  | _, [] => -1
  | i, y :: l => if x = y then (i : Int) else posS x (i + 1) l
theorem posS_mem (x : ByteArray) : ∀ (l : List ByteArray) (i : Nat), (0 ≤ posS x i l ↔ x ∈ l)
  | [], i => by
    unfold posS
    simp
  | y :: l, i => by
    unfold posS
    by_cases h : x = y
    · rw [if_pos h]
      simp [h]
    · rw [if_neg h, posS_mem x l (i + 1), List.mem_cons]
      exact ⟨.inr, fun h2 => h2.resolve_left h⟩
theorem posS_step {x : ByteArray} {l : List ByteArray} {i : Nat} (h : i < l.length) : posS x i (l.drop i) = if x = l.getD i ⟨#[]⟩ then (i : Int) else posS x (i + 1) (l.drop (i + 1)) := by
  have g : l.getD i ⟨#[]⟩ = l[i] := by simp [List.getD_eq_getElem?_getD, h]
  rw [List.drop_eq_getElem_cons h, g]
  rfl
/-- Names, all different. -/
def namesF (l : List ByteArray) : Nat → Nat → Bool
  | 0, _ => true
  | g + 1, i => nameB (l.getD i ⟨#[]⟩).data.toList && (!decide (0 ≤ posS (l.getD i ⟨#[]⟩) 0 (l.take i))) && namesF l g (i + 1)
def namesB (l : List ByteArray) : Bool := namesF l l.length 0
def sF (l : List ByteArray) (i : Nat) : List SV := [.sc (.string (l.getD i ⟨#[]⟩))]
abbrev SL (l : List ByteArray) : SV := .fl l.length 1 (sF l)
theorem getD_take {α : Type} (l : List α) (n i : Nat) (d : α) (h : i < n) : (l.take n).getD i d = l.getD i d := by
  rw [List.getD_eq_getElem?_getD, List.getD_eq_getElem?_getD, List.getElem?_take, if_pos h]
end Go.Ab.A34
namespace Go.Proofs.YtddkacbcecedaaaDoor
open Go Go.Ab Go.Ab.A34
variable [Gl] [Tabs]

theorem index_c (x : ByteArray) (l : List ByteArray) (n : Nat) (hl : n ≤ 1000000) (hn : l.length = n) (f : Nat → List SV) (hf : ∀ i, i < n → f i = [Str (l.getD i ⟨#[]⟩)]) : PCall Tryd.prog 78 [.fl n 1 f, Str x] (I64 (posS x 0 l)) := by
  subst hn
  obtain ⟨R, hR⟩ : ∃ R, R = posS x 0 l := ⟨_, rfl⟩
  rw [← hR]
  refine Call.enter' (N := 19) (rs := [.tmp 4]) Tryd.func78 rfl rfl rfl (by decide) rfl ?_; simp only [argT]; have hD : (0 : Nat) = 0 := rfl
  repeat' first | (with_reducible refine And.intro (by omega) ?_) | (refine SW.seq_k fun K hK => ?_) | (refine SW.block ?_) | ((first | refine SW.region ?_ | refine SW.regionD (Checked.mixed Tryd.checked) (by kernel_rfl) ?_ | refine SW.cond ?_ | refine SW.skip ?_ | refine SW.exit ?_ | refine SW.ret ?_ | (refine allF_i fun b hb => ?_; replace hD := And.intro hb hD; clear hb; try simp only [fresh_cons, fresh_nil, and_true, ne_eq, neF] at hD) | simp only [appK, appOsK]); try simp only [go_sem, hD]) | (refine And.intro (by omega) ?_) | (refine ifI (fun hc => ?_) (fun hc => ?_) <;> first | (exfalso; omega) | skip) | ((first | apply hK | ((iterate 1 (clear hK K)); apply hK) | ((iterate 2 (clear hK K)); apply hK) | ((iterate 3 (clear hK K)); apply hK) | ((iterate 4 (clear hK K)); apply hK) | ((iterate 5 (clear hK K)); apply hK)); clear hK K)
  obtain ⟨I, hI⟩ : ∃ I : Nat → St → Prop, ∀ k S, I k S ↔ (∃ (i : Nat) , k = l.length - i ∧ i ≤ l.length ∧ R = posS x i (l.drop i) ∧ S = ⟨[(0, .fl l.length 1 f), (1, Str x), (7, I64 l.length), (8, I64 i)], []⟩) := ⟨fun k S => _, fun _ _ => Iff.rfl⟩
  refine SW.loop' I (l.length) ((hI _ _).2 ⟨0, rfl, Nat.zero_le _, by rw [List.drop_zero]; exact hR, rfl⟩) (by repeat' (first | exact rfl | exact trivial | exact int_eq (by omega) | exact int_eq (by (rw [i64_wrap] <;> omega)) | constructor)) ?_
  intro k S hIn
  obtain ⟨i, rfl, hi, hC, rfl⟩ := (hI _ _).1 hIn
  clear hIn
  have ie : ((i : Nat) : Int).toNat = i := Int.toNat_natCast _
  have i0 : (0 : Int) ≤ ((i : Nat) : Int) := by omega
  clear hR
  by_cases hlt : i < l.length
  · have hli : ((i : Nat) : Int) < (((l.length) : Nat) : Int) := by omega
    have w1 : IntKind.i64.wrap ((i : Int) + 1) = ((i + 1 : Nat) : Int) := by rw [i64_wrap (by omega) (by omega)]; omega
    rw [posS_step hlt] at hC
    have fi := hf i hlt
    by_cases he : x = l.getD i ⟨#[]⟩
    · rw [if_pos he] at hC
      have ee : (x.toList == (l.getD i ⟨#[]⟩).toList) = true := barr_eq.2 he
      subst hC
      repeat' first | (with_reducible refine And.intro (by omega) ?_) | (refine SW.seq_k fun K hK => ?_) | (refine SW.block ?_) | ((first | refine SW.region ?_ | refine SW.regionD (Checked.mixed Tryd.checked) (by kernel_rfl) ?_ | refine SW.cond ?_ | refine SW.skip ?_ | refine SW.exit ?_ | refine SW.ret ?_ | (refine allF_i fun b hb => ?_; replace hD := And.intro hb hD; clear hb; try simp only [fresh_cons, fresh_nil, and_true, ne_eq, neF] at hD) | simp only [appK, appOsK]); try simp only [go_sem, hD, hli, ie, i0, w1, fi, ee]) | (refine And.intro (by omega) ?_) | (refine ifI (fun hc => ?_) (fun hc => ?_) <;> first | (exfalso; omega) | skip) | ((first | apply hK | ((iterate 1 (clear hK K)); apply hK) | ((iterate 2 (clear hK K)); apply hK) | ((iterate 3 (clear hK K)); apply hK) | ((iterate 4 (clear hK K)); apply hK) | ((iterate 5 (clear hK K)); apply hK)); clear hK K)
      refine ret_pure ?_; simp only [resL_tmp, resL_nil, tupOf, go_sem, hD]
    · rw [if_neg he] at hC
      have ee : (x.toList == (l.getD i ⟨#[]⟩).toList) = false := by rw [Bool.eq_false_iff]; exact fun h => he (barr_eq.1 h)
      repeat' first | (with_reducible refine And.intro (by omega) ?_) | (refine SW.seq_k fun K hK => ?_) | (refine SW.block ?_) | ((first | refine SW.region ?_ | refine SW.regionD (Checked.mixed Tryd.checked) (by kernel_rfl) ?_ | refine SW.cond ?_ | refine SW.skip ?_ | refine SW.exit ?_ | refine SW.ret ?_ | (refine allF_i fun b hb => ?_; replace hD := And.intro hb hD; clear hb; try simp only [fresh_cons, fresh_nil, and_true, ne_eq, neF] at hD) | simp only [appK, appOsK]); try simp only [go_sem, hD, hli, ie, i0, w1, fi, ee]) | (refine And.intro (by omega) ?_) | (refine ifI (fun hc => ?_) (fun hc => ?_) <;> first | (exfalso; omega) | skip) | ((first | apply hK | ((iterate 1 (clear hK K)); apply hK) | ((iterate 2 (clear hK K)); apply hK) | ((iterate 3 (clear hK K)); apply hK) | ((iterate 4 (clear hK K)); apply hK) | ((iterate 5 (clear hK K)); apply hK)); clear hK K)
      refine Rnd.sub (l.length - (i + 1)) (by omega) ((hI _ _).2 ⟨i + 1, rfl, by omega, hC, rfl⟩) (by repeat' (first | exact rfl | exact trivial | exact int_eq (by omega) | exact int_eq (by (rw [i64_wrap] <;> omega)) | constructor))
  · have hli : ¬ ((i : Nat) : Int) < (((l.length) : Nat) : Int) := by omega
    rw [List.drop_of_length_le (by omega)] at hC
    have hC2 : R = -1 := hC
    subst hC2
    repeat' first | (with_reducible refine And.intro (by omega) ?_) | (refine SW.seq_k fun K hK => ?_) | (refine SW.block ?_) | ((first | refine SW.region ?_ | refine SW.regionD (Checked.mixed Tryd.checked) (by kernel_rfl) ?_ | refine SW.cond ?_ | refine SW.skip ?_ | refine SW.exit ?_ | refine SW.ret ?_ | (refine allF_i fun b hb => ?_; replace hD := And.intro hb hD; clear hb; try simp only [fresh_cons, fresh_nil, and_true, ne_eq, neF] at hD) | simp only [appK, appOsK]); try simp only [go_sem, hD, hli]) | (refine And.intro (by omega) ?_) | (refine ifI (fun hc => ?_) (fun hc => ?_) <;> first | (exfalso; omega) | skip) | ((first | apply hK | ((iterate 1 (clear hK K)); apply hK) | ((iterate 2 (clear hK K)); apply hK) | ((iterate 3 (clear hK K)); apply hK) | ((iterate 4 (clear hK K)); apply hK) | ((iterate 5 (clear hK K)); apply hK)); clear hK K)
    refine ret_pure ?_; simp only [resL_tmp, resL_nil, tupOf, go_sem, hD]

theorem contains_c (x : ByteArray) (l : List ByteArray) (n : Nat) (hl : n ≤ 1000000) (hn : l.length = n) (f : Nat → List SV) (hf : ∀ i, i < n → f i = [Str (l.getD i ⟨#[]⟩)]) : PCall Tryd.prog 57 [.fl n 1 f, Str x] (SB (decide (0 ≤ posS x 0 l))) := by
  have ix := index_c x l n hl hn f hf
  refine Call.enter' (N := 9) (rs := [.tmp 4]) Tryd.func57 rfl rfl rfl (by decide) rfl ?_; simp only [argT]; have hD : (0 : Nat) = 0 := rfl
  repeat' first | (with_reducible refine And.intro (by omega) ?_) | (refine SW.seq_k fun K hK => ?_) | (refine SW.block ?_) | ((first | refine SW.region ?_ | refine SW.regionD (Checked.mixed Tryd.checked) (by kernel_rfl) ?_ | refine SW.cond ?_ | refine SW.skip ?_ | refine SW.exit ?_ | refine SW.ret ?_ | refine Call.of_pure (ix) ?_ | refine ⟨_, ix, ?_⟩ | (refine allF_i fun b hb => ?_; replace hD := And.intro hb hD; clear hb; try simp only [fresh_cons, fresh_nil, and_true, ne_eq, neF] at hD) | simp only [appK, appOsK]); try simp only [go_sem, hD]) | (refine And.intro (by omega) ?_) | (refine ifI (fun hc => ?_) (fun hc => ?_) <;> first | (exfalso; omega) | skip) | ((first | apply hK | ((iterate 1 (clear hK K)); apply hK) | ((iterate 2 (clear hK K)); apply hK) | ((iterate 3 (clear hK K)); apply hK) | ((iterate 4 (clear hK K)); apply hK) | ((iterate 5 (clear hK K)); apply hK)); clear hK K)
  refine ret_pure ?_; simp only [resL_tmp, resL_nil, tupOf, go_sem, hD]

theorem attr_r (x : ByteArray) (l : List ByteArray) (n : Nat) (hl : n ≤ 1000000) (hn : l.length = n) (f : Nat → List SV) (hf : ∀ i, i < n → f i = [Str (l.getD i ⟨#[]⟩)]) : PCall Tryd.prog 60 [.fl n 1 f, Str x] (I64 (posS x 0 l)) := by
  subst hn
  obtain ⟨R, hR⟩ : ∃ R, R = posS x 0 l := ⟨_, rfl⟩
  rw [← hR]
  refine Call.enter' (N := 19) (rs := [.tmp 4]) Tryd.func60 rfl rfl rfl (by decide) rfl ?_; simp only [argT]; have hD : (0 : Nat) = 0 := rfl
  repeat' first | (with_reducible refine And.intro (by omega) ?_) | (refine SW.seq_k fun K hK => ?_) | (refine SW.block ?_) | ((first | refine SW.region ?_ | refine SW.regionD (Checked.mixed Tryd.checked) (by kernel_rfl) ?_ | refine SW.cond ?_ | refine SW.skip ?_ | refine SW.exit ?_ | refine SW.ret ?_ | (refine allF_i fun b hb => ?_; replace hD := And.intro hb hD; clear hb; try simp only [fresh_cons, fresh_nil, and_true, ne_eq, neF] at hD) | simp only [appK, appOsK]); try simp only [go_sem, hD]) | (refine And.intro (by omega) ?_) | (refine ifI (fun hc => ?_) (fun hc => ?_) <;> first | (exfalso; omega) | skip) | ((first | apply hK | ((iterate 1 (clear hK K)); apply hK) | ((iterate 2 (clear hK K)); apply hK) | ((iterate 3 (clear hK K)); apply hK) | ((iterate 4 (clear hK K)); apply hK) | ((iterate 5 (clear hK K)); apply hK)); clear hK K)
  obtain ⟨I, hI⟩ : ∃ I : Nat → St → Prop, ∀ k S, I k S ↔ (∃ (i : Nat) , k = l.length - i ∧ i ≤ l.length ∧ R = posS x i (l.drop i) ∧ S = ⟨[(0, .fl l.length 1 f), (1, Str x), (5, I64 i)], []⟩) := ⟨fun k S => _, fun _ _ => Iff.rfl⟩
  refine SW.loop' I (l.length) ((hI _ _).2 ⟨0, rfl, Nat.zero_le _, by rw [List.drop_zero]; exact hR, rfl⟩) (by repeat' (first | exact rfl | exact trivial | exact int_eq (by omega) | exact int_eq (by (rw [i64_wrap] <;> omega)) | constructor)) ?_
  intro k S hIn
  obtain ⟨i, rfl, hi, hC, rfl⟩ := (hI _ _).1 hIn
  clear hIn
  have ie : ((i : Nat) : Int).toNat = i := Int.toNat_natCast _
  have i0 : (0 : Int) ≤ ((i : Nat) : Int) := by omega
  clear hR
  by_cases hlt : i < l.length
  · have hli : ((i : Nat) : Int) < (((l.length) : Nat) : Int) := by omega
    have w1 : IntKind.i64.wrap ((i : Int) + 1) = ((i + 1 : Nat) : Int) := by rw [i64_wrap (by omega) (by omega)]; omega
    rw [posS_step hlt] at hC
    have fi := hf i hlt
    by_cases he : x = l.getD i ⟨#[]⟩
    · rw [if_pos he] at hC
      have ee : ((l.getD i ⟨#[]⟩).toList == x.toList) = true := barr_eq.2 he.symm
      subst hC
      repeat' first | (with_reducible refine And.intro (by omega) ?_) | (refine SW.seq_k fun K hK => ?_) | (refine SW.block ?_) | ((first | refine SW.region ?_ | refine SW.regionD (Checked.mixed Tryd.checked) (by kernel_rfl) ?_ | refine SW.cond ?_ | refine SW.skip ?_ | refine SW.exit ?_ | refine SW.ret ?_ | (refine allF_i fun b hb => ?_; replace hD := And.intro hb hD; clear hb; try simp only [fresh_cons, fresh_nil, and_true, ne_eq, neF] at hD) | simp only [appK, appOsK]); try simp only [go_sem, hD, hli, ie, i0, w1, fi, ee]) | (refine And.intro (by omega) ?_) | (refine ifI (fun hc => ?_) (fun hc => ?_) <;> first | (exfalso; omega) | skip) | ((first | apply hK | ((iterate 1 (clear hK K)); apply hK) | ((iterate 2 (clear hK K)); apply hK) | ((iterate 3 (clear hK K)); apply hK) | ((iterate 4 (clear hK K)); apply hK) | ((iterate 5 (clear hK K)); apply hK)); clear hK K)
      refine ret_pure ?_; simp only [resL_tmp, resL_nil, tupOf, go_sem, hD]
    · rw [if_neg he] at hC
      have ee : ((l.getD i ⟨#[]⟩).toList == x.toList) = false := by rw [Bool.eq_false_iff]; exact fun h => he (barr_eq.1 h).symm
      repeat' first | (with_reducible refine And.intro (by omega) ?_) | (refine SW.seq_k fun K hK => ?_) | (refine SW.block ?_) | ((first | refine SW.region ?_ | refine SW.regionD (Checked.mixed Tryd.checked) (by kernel_rfl) ?_ | refine SW.cond ?_ | refine SW.skip ?_ | refine SW.exit ?_ | refine SW.ret ?_ | (refine allF_i fun b hb => ?_; replace hD := And.intro hb hD; clear hb; try simp only [fresh_cons, fresh_nil, and_true, ne_eq, neF] at hD) | simp only [appK, appOsK]); try simp only [go_sem, hD, hli, ie, i0, w1, fi, ee]) | (refine And.intro (by omega) ?_) | (refine ifI (fun hc => ?_) (fun hc => ?_) <;> first | (exfalso; omega) | skip) | ((first | apply hK | ((iterate 1 (clear hK K)); apply hK) | ((iterate 2 (clear hK K)); apply hK) | ((iterate 3 (clear hK K)); apply hK) | ((iterate 4 (clear hK K)); apply hK) | ((iterate 5 (clear hK K)); apply hK)); clear hK K)
      refine Rnd.sub (l.length - (i + 1)) (by omega) ((hI _ _).2 ⟨i + 1, rfl, by omega, hC, rfl⟩) (by repeat' (first | exact rfl | exact trivial | exact int_eq (by omega) | exact int_eq (by (rw [i64_wrap] <;> omega)) | constructor))
  · have hli : ¬ ((i : Nat) : Int) < (((l.length) : Nat) : Int) := by omega
    rw [List.drop_of_length_le (by omega)] at hC
    have hC2 : R = -1 := hC
    subst hC2
    repeat' first | (with_reducible refine And.intro (by omega) ?_) | (refine SW.seq_k fun K hK => ?_) | (refine SW.block ?_) | ((first | refine SW.region ?_ | refine SW.regionD (Checked.mixed Tryd.checked) (by kernel_rfl) ?_ | refine SW.cond ?_ | refine SW.skip ?_ | refine SW.exit ?_ | refine SW.ret ?_ | (refine allF_i fun b hb => ?_; replace hD := And.intro hb hD; clear hb; try simp only [fresh_cons, fresh_nil, and_true, ne_eq, neF] at hD) | simp only [appK, appOsK]); try simp only [go_sem, hD, hli]) | (refine And.intro (by omega) ?_) | (refine ifI (fun hc => ?_) (fun hc => ?_) <;> first | (exfalso; omega) | skip) | ((first | apply hK | ((iterate 1 (clear hK K)); apply hK) | ((iterate 2 (clear hK K)); apply hK) | ((iterate 3 (clear hK K)); apply hK) | ((iterate 4 (clear hK K)); apply hK) | ((iterate 5 (clear hK K)); apply hK)); clear hK K)
    refine ret_pure ?_; simp only [resL_tmp, resL_nil, tupOf, go_sem, hD]

theorem sF_take {l : List ByteArray} {i j : Nat} (hj : j < i) : sF l j = [Str ((l.take i).getD j ⟨#[]⟩)] := by
  rw [getD_take _ _ _ _ hj]
  rfl

set_option maxHeartbeats 1000000 in
set_option maxRecDepth 20000 in
theorem names_r (l : List ByteArray) (hl : l.length ≤ 1000000) : PCall Tryd.prog 39 [SL l] (SB (namesB l)) := by
  obtain ⟨R, hR⟩ : ∃ R, R = namesB l := ⟨_, rfl⟩
  rw [← hR]
  unfold namesB at hR
  refine Call.enter' (N := 27) (rs := [.tmp 2]) Tryd.func39 rfl rfl rfl (by decide) rfl ?_; simp only [argT]; have hD : (0 : Nat) = 0 := rfl
  repeat' first | (with_reducible refine And.intro (by omega) ?_) | (refine SW.seq_k fun K hK => ?_) | (refine SW.block ?_) | ((first | refine SW.region ?_ | refine SW.regionD (Checked.mixed Tryd.checked) (by kernel_rfl) ?_ | refine SW.cond ?_ | refine SW.skip ?_ | refine SW.exit ?_ | refine SW.ret ?_ | (refine allF_i fun b hb => ?_; replace hD := And.intro hb hD; clear hb; try simp only [fresh_cons, fresh_nil, and_true, ne_eq, neF] at hD) | simp only [appK, appOsK]); try simp only [go_sem, hD]) | (refine And.intro (by omega) ?_) | (refine ifI (fun hc => ?_) (fun hc => ?_) <;> first | (exfalso; omega) | skip) | ((first | apply hK | ((iterate 1 (clear hK K)); apply hK) | ((iterate 2 (clear hK K)); apply hK) | ((iterate 3 (clear hK K)); apply hK) | ((iterate 4 (clear hK K)); apply hK) | ((iterate 5 (clear hK K)); apply hK)); clear hK K)
  obtain ⟨I, hI⟩ : ∃ I : Nat → St → Prop, ∀ k S, I k S ↔ (∃ (i : Nat) , k = l.length - i ∧ i ≤ l.length ∧ R = namesF l (l.length - i) i ∧ S = ⟨[(0, SL l), (3, I64 i)], []⟩) := ⟨fun k S => _, fun _ _ => Iff.rfl⟩
  refine SW.loop' I (l.length) ((hI _ _).2 ⟨0, rfl, Nat.zero_le _, hR, rfl⟩) (by repeat' (first | exact rfl | exact trivial | exact int_eq (by omega) | exact int_eq (by (rw [i64_wrap] <;> omega)) | constructor)) ?_
  intro k S hIn
  obtain ⟨i, rfl, hi, hC, rfl⟩ := (hI _ _).1 hIn
  clear hIn
  have ie : ((i : Nat) : Int).toNat = i := Int.toNat_natCast _
  have i0 : (0 : Int) ≤ ((i : Nat) : Int) := by omega
  clear hR
  by_cases hlt : i < l.length
  · have hli : ((i : Nat) : Int) < (((l.length) : Nat) : Int) := by omega
    have w1 : IntKind.i64.wrap ((i : Int) + 1) = ((i + 1 : Nat) : Int) := by rw [i64_wrap (by omega) (by omega)]; omega
    have e : l.length - i = (l.length - (i + 1)) + 1 := by omega
    rw [e, namesF] at hC
    have iz : (((i : Nat) : Int) - 0).toNat = i := by omega
    have il : ((i : Nat) : Int) ≤ ((l.length : Nat) : Int) := by omega
    have fi : sF l i = [Str (l.getD i ⟨#[]⟩)] := rfl
    have nm := name_r (l.getD i ⟨#[]⟩)
    have at' := attr_r (l.getD i ⟨#[]⟩) (l.take i) i (by omega) (by rw [List.length_take]; omega) (sF l) (fun j hj => sF_take (l := l) hj)
    generalize posS (l.getD i ⟨#[]⟩) 0 (l.take i) = q at *
    cases q1 : nameB (l.getD i ⟨#[]⟩).data.toList with
    | false =>
      rw [q1] at nm hC
      have hC2 : R = false := hC
      subst hC2
      repeat' first | (with_reducible refine And.intro (by omega) ?_) | (refine SW.seq_k fun K hK => ?_) | (refine SW.block ?_) | ((first | refine SW.region ?_ | refine SW.regionD (Checked.mixed Tryd.checked) (by kernel_rfl) ?_ | refine SW.cond ?_ | refine SW.skip ?_ | refine SW.exit ?_ | refine SW.ret ?_ | refine Call.of_pure (nm) ?_ | refine ⟨_, nm, ?_⟩ | refine Call.of_pure (at') ?_ | refine ⟨_, at', ?_⟩ | (refine allF_i fun b hb => ?_; replace hD := And.intro hb hD; clear hb; try simp only [fresh_cons, fresh_nil, and_true, ne_eq, neF] at hD) | simp only [appK, appOsK]); try simp only [go_sem, hD, hli, ie, i0, w1, fi, iz, il]) | (refine And.intro (by omega) ?_) | (refine ifI (fun hc => ?_) (fun hc => ?_) <;> first | (exfalso; omega) | skip) | ((first | apply hK | ((iterate 1 (clear hK K)); apply hK) | ((iterate 2 (clear hK K)); apply hK) | ((iterate 3 (clear hK K)); apply hK) | ((iterate 4 (clear hK K)); apply hK) | ((iterate 5 (clear hK K)); apply hK)); clear hK K)
      refine ret_pure ?_; simp only [resL_tmp, resL_nil, tupOf, go_sem, hD]
    | true =>
      rw [q1] at nm hC
      rw [Bool.true_and] at hC
      by_cases hq : 0 ≤ q
      · rw [decide_eq_true hq] at hC
        have hC2 : R = false := hC
        subst hC2
        repeat' first | (with_reducible refine And.intro (by omega) ?_) | (refine SW.seq_k fun K hK => ?_) | (refine SW.block ?_) | ((first | refine SW.region ?_ | refine SW.regionD (Checked.mixed Tryd.checked) (by kernel_rfl) ?_ | refine SW.cond ?_ | refine SW.skip ?_ | refine SW.exit ?_ | refine SW.ret ?_ | refine Call.of_pure (nm) ?_ | refine ⟨_, nm, ?_⟩ | refine Call.of_pure (at') ?_ | refine ⟨_, at', ?_⟩ | (refine allF_i fun b hb => ?_; replace hD := And.intro hb hD; clear hb; try simp only [fresh_cons, fresh_nil, and_true, ne_eq, neF] at hD) | simp only [appK, appOsK]); try simp only [go_sem, hD, hli, ie, i0, w1, fi, iz, il, hq]) | (refine And.intro (by omega) ?_) | (refine ifI (fun hc => ?_) (fun hc => ?_) <;> first | (exfalso; omega) | skip) | ((first | apply hK | ((iterate 1 (clear hK K)); apply hK) | ((iterate 2 (clear hK K)); apply hK) | ((iterate 3 (clear hK K)); apply hK) | ((iterate 4 (clear hK K)); apply hK) | ((iterate 5 (clear hK K)); apply hK)); clear hK K)
        refine ret_pure ?_; simp only [resL_tmp, resL_nil, tupOf, go_sem, hD]
      · rw [decide_eq_false hq, Bool.not_false, Bool.true_and] at hC
        repeat' first | (with_reducible refine And.intro (by omega) ?_) | (refine SW.seq_k fun K hK => ?_) | (refine SW.block ?_) | ((first | refine SW.region ?_ | refine SW.regionD (Checked.mixed Tryd.checked) (by kernel_rfl) ?_ | refine SW.cond ?_ | refine SW.skip ?_ | refine SW.exit ?_ | refine SW.ret ?_ | refine Call.of_pure (nm) ?_ | refine ⟨_, nm, ?_⟩ | refine Call.of_pure (at') ?_ | refine ⟨_, at', ?_⟩ | (refine allF_i fun b hb => ?_; replace hD := And.intro hb hD; clear hb; try simp only [fresh_cons, fresh_nil, and_true, ne_eq, neF] at hD) | simp only [appK, appOsK]); try simp only [go_sem, hD, hli, ie, i0, w1, fi, iz, il, hq]) | (refine And.intro (by omega) ?_) | (refine ifI (fun hc => ?_) (fun hc => ?_) <;> first | (exfalso; omega) | skip) | ((first | apply hK | ((iterate 1 (clear hK K)); apply hK) | ((iterate 2 (clear hK K)); apply hK) | ((iterate 3 (clear hK K)); apply hK) | ((iterate 4 (clear hK K)); apply hK) | ((iterate 5 (clear hK K)); apply hK)); clear hK K)
        refine Rnd.sub (l.length - (i + 1)) (by omega) ((hI _ _).2 ⟨i + 1, rfl, by omega, hC, rfl⟩) (by repeat' (first | exact rfl | exact trivial | exact int_eq (by omega) | exact int_eq (by (rw [i64_wrap] <;> omega)) | constructor))
  · have hli : ¬ ((i : Nat) : Int) < (((l.length) : Nat) : Int) := by omega
    have e : l.length - i = 0 := by omega
    rw [e] at hC
    have hC2 : R = true := hC
    subst hC2
    repeat' first | (with_reducible refine And.intro (by omega) ?_) | (refine SW.seq_k fun K hK => ?_) | (refine SW.block ?_) | ((first | refine SW.region ?_ | refine SW.regionD (Checked.mixed Tryd.checked) (by kernel_rfl) ?_ | refine SW.cond ?_ | refine SW.skip ?_ | refine SW.exit ?_ | refine SW.ret ?_ | (refine allF_i fun b hb => ?_; replace hD := And.intro hb hD; clear hb; try simp only [fresh_cons, fresh_nil, and_true, ne_eq, neF] at hD) | simp only [appK, appOsK]); try simp only [go_sem, hD, hli]) | (refine And.intro (by omega) ?_) | (refine ifI (fun hc => ?_) (fun hc => ?_) <;> first | (exfalso; omega) | skip) | ((first | apply hK | ((iterate 1 (clear hK K)); apply hK) | ((iterate 2 (clear hK K)); apply hK) | ((iterate 3 (clear hK K)); apply hK) | ((iterate 4 (clear hK K)); apply hK) | ((iterate 5 (clear hK K)); apply hK)); clear hK K)
    refine ret_pure ?_; simp only [resL_tmp, resL_nil, tupOf, go_sem, hD]
end Go.Proofs.YtddkacbcecedaaaDoor
