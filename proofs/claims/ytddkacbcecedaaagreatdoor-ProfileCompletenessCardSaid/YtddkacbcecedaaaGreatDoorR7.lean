/- Contracts: Format of the program and of the reference. -/
import Derived.Test.YtddkacbcecedaaaGreatDoorR6
import Derived.Test.YtddkacbcecedaaaGreatDoorR3
set_option linter.unusedSimpArgs false
set_option linter.unusedVariables false
set_option linter.unusedSectionVars false
namespace Go.Ab
open Go Go.Ab.A01
/-- The text of a valid value. -/
def fmtS (k n : Int) (s : ByteArray) : ByteArray := if k = 0 then ⟨#[110, 117, 108, 108]⟩ else if k = 1 then itoaS n else if k = 2 then mkB (quoteL s.data.toList) else ⟨#[63]⟩ ++ itoaS n
/-- Format. -/
def fmtV (k n : Int) (s : ByteArray) : ByteArray × Int := if vok k n s = true then (fmtS k n s, 0) else (⟨#[]⟩, 1)
theorem vok_kind {k n : Int} {s : ByteArray} (h : vok k n s = true) : k = 0 ∨ k = 1 ∨ (k = 2 ∧ s.size ≤ 200) ∨ k = 3 := by
  unfold vok at h
  split at h
  · exact .inl (by assumption)
  · split at h
    · exact .inr (.inl (by assumption))
    · split at h
      · refine .inr (.inr (.inl ⟨by assumption, ?_⟩))
        simp only [Bool.and_eq_true, decide_eq_true_eq] at h
        exact h.2
      · split at h
        · exact .inr (.inr (.inr (by assumption)))
        · cases h
end Go.Ab
namespace Go.Proofs.YtddkacbcecedaaaGreatDoor
open Go Go.Ab Go.Ab.A01
variable [Gl] [Tabs]

theorem itoaS_size (n : Int) (h : In64 n) : (itoaS n).size ≤ 21 := by
  show (Lib.itoa n).toArray.size ≤ 21
  rw [List.size_toArray]
  rcases Int.lt_or_le n 0 with h0 | h0
  · have e : n = -((n.natAbs : Nat) : Int) := by omega
    rw [e, Lib.itoa_neg _ (by omega), List.length_cons, Lib.decDigits_length]
    have := Lib.nDigits_le20 n.natAbs (by unfold In64 at h; omega)
    omega
  · have e : n = ((n.natAbs : Nat) : Int) := by omega
    rw [e, Lib.itoa_nonneg, Lib.decDigits_length]
    have := Lib.nDigits_le20 n.natAbs (by unfold In64 at h; omega)
    omega

set_option maxRecDepth 20000 in
theorem format_p (k n : Int) (s : ByteArray) (hn : In64 n) : PCall Tryz.prog 20 [VS k n s] (.tup [Str (fmtV k n s).1, I64 (fmtV k n s).2]) := by
  have v := valid_p k n s
  have f1 := fmtInt_c n hn
  have s1 := itoaS_size n hn
  cases hv : vok k n s with
  | false =>
    rw [hv] at v
    have e : fmtV k n s = (⟨#[]⟩, 1) := by rw [fmtV, if_neg (by rw [hv]; simp)]
    rw [e]
    refine Call.enter' (N := 25) (rs := [.tmp 2, .tmp 3]) Tryz.func20 rfl rfl rfl (by decide) rfl ?_; simp only [argT]; have hD : (0 : Nat) = 0 := rfl
    repeat' first | (with_reducible refine And.intro (by omega) ?_) | (refine SW.seq_k fun K hK => ?_) | (refine SW.block ?_) | ((first | refine SW.region ?_ | refine SW.regionD (Checked.mixed Tryz.checked) (by kernel_rfl) ?_ | refine SW.cond ?_ | refine SW.skip ?_ | refine SW.exit ?_ | refine SW.ret ?_ | refine Call.of_pure (v) ?_ | refine ⟨_, v, ?_⟩ | (refine allF_i fun b hb => ?_; replace hD := And.intro hb hD; clear hb; try simp only [fresh_cons, fresh_nil, and_true, ne_eq, neF] at hD) | simp only [appK, appOsK]); try simp only [go_sem, hD]) | (refine And.intro (by omega) ?_) | (refine ifI (fun hc => ?_) (fun hc => ?_) <;> first | (exfalso; omega) | skip) | ((first | apply hK | ((iterate 1 (clear hK K)); apply hK) | ((iterate 2 (clear hK K)); apply hK) | ((iterate 3 (clear hK K)); apply hK) | ((iterate 4 (clear hK K)); apply hK) | ((iterate 5 (clear hK K)); apply hK)); clear hK K)
    refine ret_pure ?_; simp only [resL_tmp, resL_nil, tupOf, go_sem, hD]
  | true =>
    rw [hv] at v
    have e : fmtV k n s = (fmtS k n s, 0) := by rw [fmtV, if_pos hv]
    rw [e]
    clear e
    unfold fmtS
    rcases vok_kind hv with rfl | rfl | ⟨rfl, hs⟩ | rfl
    · rw [if_pos rfl]
      refine Call.enter' (N := 25) (rs := [.tmp 2, .tmp 3]) Tryz.func20 rfl rfl rfl (by decide) rfl ?_; simp only [argT]; have hD : (0 : Nat) = 0 := rfl
      repeat' first | (with_reducible refine And.intro (by omega) ?_) | (refine SW.seq_k fun K hK => ?_) | (refine SW.block ?_) | ((first | refine SW.region ?_ | refine SW.regionD (Checked.mixed Tryz.checked) (by kernel_rfl) ?_ | refine SW.cond ?_ | refine SW.skip ?_ | refine SW.exit ?_ | refine SW.ret ?_ | refine Call.of_pure (v) ?_ | refine ⟨_, v, ?_⟩ | refine Call.of_pure (f1) ?_ | refine ⟨_, f1, ?_⟩ | (refine allF_i fun b hb => ?_; replace hD := And.intro hb hD; clear hb; try simp only [fresh_cons, fresh_nil, and_true, ne_eq, neF] at hD) | simp only [appK, appOsK]); try simp only [go_sem, hD]) | (refine And.intro (by omega) ?_) | (refine ifI (fun hc => ?_) (fun hc => ?_) <;> first | (exfalso; omega) | skip) | ((first | apply hK | ((iterate 1 (clear hK K)); apply hK) | ((iterate 2 (clear hK K)); apply hK) | ((iterate 3 (clear hK K)); apply hK) | ((iterate 4 (clear hK K)); apply hK) | ((iterate 5 (clear hK K)); apply hK)); clear hK K)
      refine ret_pure ?_; simp only [resL_tmp, resL_nil, tupOf, go_sem, hD]
    · rw [if_neg (by decide), if_pos rfl]
      refine Call.enter' (N := 25) (rs := [.tmp 2, .tmp 3]) Tryz.func20 rfl rfl rfl (by decide) rfl ?_; simp only [argT]; have hD : (0 : Nat) = 0 := rfl
      repeat' first | (with_reducible refine And.intro (by omega) ?_) | (refine SW.seq_k fun K hK => ?_) | (refine SW.block ?_) | ((first | refine SW.region ?_ | refine SW.regionD (Checked.mixed Tryz.checked) (by kernel_rfl) ?_ | refine SW.cond ?_ | refine SW.skip ?_ | refine SW.exit ?_ | refine SW.ret ?_ | refine Call.of_pure (v) ?_ | refine ⟨_, v, ?_⟩ | refine Call.of_pure (f1) ?_ | refine ⟨_, f1, ?_⟩ | (refine allF_i fun b hb => ?_; replace hD := And.intro hb hD; clear hb; try simp only [fresh_cons, fresh_nil, and_true, ne_eq, neF] at hD) | simp only [appK, appOsK]); try simp only [go_sem, hD]) | (refine And.intro (by omega) ?_) | (refine ifI (fun hc => ?_) (fun hc => ?_) <;> first | (exfalso; omega) | skip) | ((first | apply hK | ((iterate 1 (clear hK K)); apply hK) | ((iterate 2 (clear hK K)); apply hK) | ((iterate 3 (clear hK K)); apply hK) | ((iterate 4 (clear hK K)); apply hK) | ((iterate 5 (clear hK K)); apply hK)); clear hK K)
      refine ret_pure ?_; simp only [resL_tmp, resL_nil, tupOf, go_sem, hD]
    · rw [if_neg (by decide), if_neg (by decide), if_pos rfl]
      have f2 := quoted_p s (by omega)
      refine Call.enter' (N := 25) (rs := [.tmp 2, .tmp 3]) Tryz.func20 rfl rfl rfl (by decide) rfl ?_; simp only [argT]; have hD : (0 : Nat) = 0 := rfl
      repeat' first | (with_reducible refine And.intro (by omega) ?_) | (refine SW.seq_k fun K hK => ?_) | (refine SW.block ?_) | ((first | refine SW.region ?_ | refine SW.regionD (Checked.mixed Tryz.checked) (by kernel_rfl) ?_ | refine SW.cond ?_ | refine SW.skip ?_ | refine SW.exit ?_ | refine SW.ret ?_ | refine Call.of_pure (v) ?_ | refine ⟨_, v, ?_⟩ | refine Call.of_pure (f1) ?_ | refine ⟨_, f1, ?_⟩ | refine Call.of_pure (f2) ?_ | refine ⟨_, f2, ?_⟩ | (refine allF_i fun b hb => ?_; replace hD := And.intro hb hD; clear hb; try simp only [fresh_cons, fresh_nil, and_true, ne_eq, neF] at hD) | simp only [appK, appOsK]); try simp only [go_sem, hD]) | (refine And.intro (by omega) ?_) | (refine ifI (fun hc => ?_) (fun hc => ?_) <;> first | (exfalso; omega) | skip) | ((first | apply hK | ((iterate 1 (clear hK K)); apply hK) | ((iterate 2 (clear hK K)); apply hK) | ((iterate 3 (clear hK K)); apply hK) | ((iterate 4 (clear hK K)); apply hK) | ((iterate 5 (clear hK K)); apply hK)); clear hK K)
      refine ret_pure ?_; simp only [resL_tmp, resL_nil, tupOf, go_sem, hD]
    · rw [if_neg (by decide), if_neg (by decide), if_neg (by decide)]
      refine Call.enter' (N := 25) (rs := [.tmp 2, .tmp 3]) Tryz.func20 rfl rfl rfl (by decide) rfl ?_; simp only [argT]; have hD : (0 : Nat) = 0 := rfl
      repeat' first | (with_reducible refine And.intro (by omega) ?_) | (refine SW.seq_k fun K hK => ?_) | (refine SW.block ?_) | ((first | refine SW.region ?_ | refine SW.regionD (Checked.mixed Tryz.checked) (by kernel_rfl) ?_ | refine SW.cond ?_ | refine SW.skip ?_ | refine SW.exit ?_ | refine SW.ret ?_ | refine Call.of_pure (v) ?_ | refine ⟨_, v, ?_⟩ | refine Call.of_pure (f1) ?_ | refine ⟨_, f1, ?_⟩ | (refine allF_i fun b hb => ?_; replace hD := And.intro hb hD; clear hb; try simp only [fresh_cons, fresh_nil, and_true, ne_eq, neF] at hD) | simp only [appK, appOsK]); try simp only [go_sem, hD]) | (refine And.intro (by omega) ?_) | (refine ifI (fun hc => ?_) (fun hc => ?_) <;> first | (exfalso; omega) | skip) | ((first | apply hK | ((iterate 1 (clear hK K)); apply hK) | ((iterate 2 (clear hK K)); apply hK) | ((iterate 3 (clear hK K)); apply hK) | ((iterate 4 (clear hK K)); apply hK) | ((iterate 5 (clear hK K)); apply hK)); clear hK K)
      refine ret_pure ?_; simp only [resL_tmp, resL_nil, tupOf, go_sem, hD]

end Go.Proofs.YtddkacbcecedaaaGreatDoor