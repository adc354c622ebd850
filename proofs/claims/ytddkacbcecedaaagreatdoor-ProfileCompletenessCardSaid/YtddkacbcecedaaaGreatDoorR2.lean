/- Contracts: Compare and Digits of the reference; Int, Str of the program. -/
import Derived.Test.YtddkacbcecedaaaGreatDoorR1
set_option linter.unusedSimpArgs false
set_option linter.unusedVariables false
set_option linter.unusedSectionVars false
namespace Go.Ab
open Go
/-- The order of values. -/
def cmpV (k n : Int) (s : ByteArray) (k' n' : Int) (s' : ByteArray) : Int :=
  if sgn k k' = 0 then (if sgn n n' = 0 then Lib.compareBytes s.data.toList s'.data.toList else sgn n n') else sgn k k'
theorem cb_step {a b : List UInt8} {i : Nat} (ha : i < a.length) (hb : i < b.length) :
    Lib.compareBytes (a.drop i) (b.drop i) = if a.getD i 0 = b.getD i 0 then Lib.compareBytes (a.drop (i + 1)) (b.drop (i + 1)) else sgn (a.getD i 0).toNat (b.getD i 0).toNat := by
  have g1 : a.getD i 0 = a[i] := by simp [List.getD_eq_getElem?_getD, ha]
  have g2 : b.getD i 0 = b[i] := by simp [List.getD_eq_getElem?_getD, hb]
  rw [List.drop_eq_getElem_cons ha, List.drop_eq_getElem_cons hb, g1, g2, Lib.compareBytes]
  generalize a[i] = x
  generalize b[i] = y
  by_cases h : x = y
  · subst h
    rw [if_pos rfl, if_neg (by simp), if_neg (by simp)]
  · rw [if_neg h]
    unfold sgn
    have hne : x.toNat ≠ y.toNat := fun e => h (UInt8.toNat_inj.1 e)
    by_cases h1 : x < y
    · have : x.toNat < y.toNat := h1
      rw [if_pos h1, if_pos (by omega)]
    · have h1' : ¬ x.toNat < y.toNat := h1
      have h2 : y < x := by show y.toNat < x.toNat; omega
      rw [if_neg h1, if_pos h2, if_neg (by omega), if_pos (by omega)]
theorem cb_end {a b : List UInt8} {i : Nat} (ha : i ≤ a.length) (hb : i ≤ b.length) (h : ¬ (i < a.length ∧ i < b.length)) : Lib.compareBytes (a.drop i) (b.drop i) = sgn a.length b.length := by
  unfold sgn
  by_cases h1 : i < a.length
  · rw [List.drop_eq_getElem_cons h1, List.drop_of_length_le (l := b) (by omega), Lib.compareBytes, if_neg (by omega), if_pos (by omega)]
  · rw [List.drop_of_length_le (l := a) (by omega)]
    by_cases h2 : i < b.length
    · rw [List.drop_eq_getElem_cons h2, Lib.compareBytes, if_pos (by omega)]
    · rw [List.drop_of_length_le (l := b) (by omega), Lib.compareBytes, if_neg (by omega), if_neg (by omega)]
end Go.Ab
namespace Go.Proofs.YtddkacbcecedaaaGreatDoor
open Go Go.Ab
variable [Gl] [Tabs]





set_option maxRecDepth 20000 in
theorem strings_r (a b : ByteArray) (ha : a.size ≤ 9223372036854775807) (hb : b.size ≤ 9223372036854775807) : PCall Tryz.prog 109 [Str a, Str b] (I64 (Lib.compareBytes a.data.toList b.data.toList)) := by
  have la : a.data.toList.length = a.size := Array.length_toList
  have lb : b.data.toList.length = b.size := Array.length_toList
  obtain ⟨R, hR⟩ : ∃ R, R = Lib.compareBytes a.data.toList b.data.toList := ⟨_, rfl⟩
  rw [← hR]
  refine Call.enter' (N := 39) (rs := [.tmp 4]) Tryz.func109 rfl rfl rfl (by decide) rfl ?_; simp only [argT]; have hD : (0 : Nat) = 0 := rfl
  repeat' first | (with_reducible refine And.intro (by omega) ?_) | (refine SW.seq_k fun K hK => ?_) | ((first | refine SW.region ?_ | refine SW.regionD (Checked.mixed Tryz.checked) (by kernel_rfl) ?_ | refine SW.cond ?_ | refine SW.skip ?_ | refine SW.exit ?_ | refine SW.ret ?_ | (refine allF_i fun b hb => ?_; replace hD := And.intro hb hD; clear hb; try simp only [fresh_cons, fresh_nil, and_true, ne_eq, neF] at hD) | simp only [appK, appOsK]); try simp only [go_sem, hD]) | (refine And.intro (by omega) ?_) | (refine ifI (fun hc => ?_) (fun hc => ?_) <;> first | (exfalso; omega) | skip) | ((first | apply hK | ((iterate 1 (clear hK K)); apply hK) | ((iterate 2 (clear hK K)); apply hK) | ((iterate 3 (clear hK K)); apply hK) | ((iterate 4 (clear hK K)); apply hK) | ((iterate 5 (clear hK K)); apply hK)); clear hK K)
  refine SW.block ?_
  obtain ⟨I, hI⟩ : ∃ I : Nat → St → Prop, ∀ k S, I k S ↔ (∃ i : Nat, k = a.size - i ∧ i ≤ a.size ∧ i ≤ b.size ∧ R = Lib.compareBytes (a.data.toList.drop i) (b.data.toList.drop i) ∧ S = ⟨[(0, Str a), (1, Str b), (5, I64 i)], []⟩) := ⟨fun k S => _, fun _ _ => Iff.rfl⟩
  refine SW.loop' I a.size ((hI _ _).2 ⟨0, rfl, Nat.zero_le _, Nat.zero_le _, hR, rfl⟩) (by repeat' (first | exact rfl | exact trivial | exact int_eq (by omega) | exact int_eq (by (rw [i64_wrap] <;> omega)) | constructor)) ?_
  intro k S hIn
  obtain ⟨i, rfl, hi, hi2, hC, rfl⟩ := (hI _ _).1 hIn
  clear hIn hR
  have ie : ((i : Nat) : Int).toNat = i := Int.toNat_natCast _
  have i0 : (0 : Int) ≤ ((i : Nat) : Int) := by omega
  by_cases h1 : i < a.size
  · have h1i : ((i : Nat) : Int) < ((a.size : Nat) : Int) := by omega
    by_cases h2 : i < b.size
    · have h2i : ((i : Nat) : Int) < ((b.size : Nat) : Int) := by omega
      rw [cb_step (by omega) (by omega)] at hC
      have w1 : IntKind.i64.wrap ((i : Int) + 1) = ((i + 1 : Nat) : Int) := by rw [i64_wrap (by omega) (by omega)]; omega
      by_cases he : a.data.toList.getD i 0 = b.data.toList.getD i 0
      · rw [if_pos he] at hC
        have hei : decide (((a.data.toList.getD i 0).toNat : Int) = ((b.data.toList.getD i 0).toNat : Int)) = true := decide_eq_true (by rw [he])
        repeat' first | (with_reducible refine And.intro (by omega) ?_) | (refine SW.seq_k fun K hK => ?_) | (refine SW.block ?_) | ((first | refine SW.region ?_ | refine SW.regionZ (id := 4) (Checked.mixed Tryz.checked) ((.one 0 [0, 2, 6] (.one 1 [1, 2, 6] (.one 2 [2, 6] (.one 3 [3, 5, 6] (.one 4 [4, 5, 6] (.one 5 [5, 6] (.one 6 [6] .done))))))) : OZ) (by kernel_rfl) ?_ | refine SW.regionZ (id := 5) (Checked.mixed Tryz.checked) ((.one 0 [0, 2, 3, 8, 9] (.one 1 [1, 2, 3, 8, 9] (.one 2 [2, 3, 8, 9] (.one 3 [3, 8, 9] (.one 4 [4, 6, 7, 8, 9] (.one 5 [5, 6, 7, 8, 9] (.one 6 [6, 7, 8, 9] (.one 7 [7, 8, 9] (.one 8 [8, 9] (.one 9 [9] .done)))))))))) : OZ) (by kernel_rfl) ?_ | refine SW.regionD (Checked.mixed Tryz.checked) (by kernel_rfl) ?_ | refine SW.cond ?_ | refine SW.skip ?_ | refine SW.exit ?_ | refine SW.ret ?_ | (refine allF_i fun b hb => ?_; replace hD := And.intro hb hD; clear hb; try simp only [fresh_cons, fresh_nil, and_true, ne_eq, neF] at hD) | simp only [appK, appOsK]); try simp only [go_sem, hD, h1i, h2i, ie, i0, w1, hei]) | (refine And.intro (by omega) ?_) | (refine ifI (fun hc => ?_) (fun hc => ?_) <;> first | (exfalso; omega) | skip) | ((first | apply hK | ((iterate 1 (clear hK K)); apply hK) | ((iterate 2 (clear hK K)); apply hK) | ((iterate 3 (clear hK K)); apply hK) | ((iterate 4 (clear hK K)); apply hK) | ((iterate 5 (clear hK K)); apply hK)); clear hK K) | (refine And.intro ?_ ?_)
        refine Rnd.sub (a.size - (i + 1)) (by omega) ((hI _ _).2 ⟨i + 1, rfl, by omega, by omega, hC, rfl⟩) (by repeat' (first | exact rfl | exact trivial | exact int_eq (by omega) | exact int_eq (by (rw [i64_wrap] <;> omega)) | constructor))
      · rw [if_neg he] at hC
        have hei : decide (((a.data.toList.getD i 0).toNat : Int) = ((b.data.toList.getD i 0).toNat : Int)) = false := decide_eq_false (fun h => he (UInt8.toNat_inj.1 (by omega)))
        have b1 := (a.data.toList.getD i 0).toNat_lt
        have b2 := (b.data.toList.getD i 0).toNat_lt
        have w2 : IntKind.i64.wrap ((a.data.toList.getD i 0).toNat : Int) = ((a.data.toList.getD i 0).toNat : Int) := i64_wrap (by omega) (by omega)
        have w3 : IntKind.i64.wrap ((b.data.toList.getD i 0).toNat : Int) = ((b.data.toList.getD i 0).toNat : Int) := i64_wrap (by omega) (by omega)
        have sg := sign_r ((a.data.toList.getD i 0).toNat : Int) ((b.data.toList.getD i 0).toNat : Int)
        rw [← hC] at sg
        repeat' first | (with_reducible refine And.intro (by omega) ?_) | (refine SW.seq_k fun K hK => ?_) | (refine SW.block ?_) | ((first | refine SW.region ?_ | refine SW.regionZ (id := 4) (Checked.mixed Tryz.checked) ((.one 0 [0, 2, 6] (.one 1 [1, 2, 6] (.one 2 [2, 6] (.one 3 [3, 5, 6] (.one 4 [4, 5, 6] (.one 5 [5, 6] (.one 6 [6] .done))))))) : OZ) (by kernel_rfl) ?_ | refine SW.regionZ (id := 5) (Checked.mixed Tryz.checked) ((.one 0 [0, 2, 3, 8, 9] (.one 1 [1, 2, 3, 8, 9] (.one 2 [2, 3, 8, 9] (.one 3 [3, 8, 9] (.one 4 [4, 6, 7, 8, 9] (.one 5 [5, 6, 7, 8, 9] (.one 6 [6, 7, 8, 9] (.one 7 [7, 8, 9] (.one 8 [8, 9] (.one 9 [9] .done)))))))))) : OZ) (by kernel_rfl) ?_ | refine SW.regionD (Checked.mixed Tryz.checked) (by kernel_rfl) ?_ | refine SW.cond ?_ | refine SW.skip ?_ | refine SW.exit ?_ | refine SW.ret ?_ | refine Call.of_pure (sg) ?_ | refine ⟨_, sg, ?_⟩ | (refine allF_i fun b hb => ?_; replace hD := And.intro hb hD; clear hb; try simp only [fresh_cons, fresh_nil, and_true, ne_eq, neF] at hD) | simp only [appK, appOsK]); try simp only [go_sem, hD, h1i, h2i, ie, i0, w2, w3, hei]) | (refine And.intro (by omega) ?_) | (refine ifI (fun hc => ?_) (fun hc => ?_) <;> first | (exfalso; omega) | skip) | ((first | apply hK | ((iterate 1 (clear hK K)); apply hK) | ((iterate 2 (clear hK K)); apply hK) | ((iterate 3 (clear hK K)); apply hK) | ((iterate 4 (clear hK K)); apply hK) | ((iterate 5 (clear hK K)); apply hK)); clear hK K) | (refine And.intro ?_ ?_)
        refine ret_pure ?_; simp only [resL_tmp, resL_nil, tupOf, go_sem, hD]
    · have h2i : ¬ ((i : Nat) : Int) < ((b.size : Nat) : Int) := by omega
      rw [cb_end (by omega) (by omega) (by omega), la, lb] at hC
      have sg := sign_r ((a.size : Nat) : Int) ((b.size : Nat) : Int)
      rw [← hC] at sg
      have w2 : IntKind.i64.wrap ((a.size : Nat) : Int) = ((a.size : Nat) : Int) := i64_wrap (by omega) (by omega)
      have w3 : IntKind.i64.wrap ((b.size : Nat) : Int) = ((b.size : Nat) : Int) := i64_wrap (by omega) (by omega)
      repeat' first | (with_reducible refine And.intro (by omega) ?_) | (refine SW.seq_k fun K hK => ?_) | (refine SW.block ?_) | ((first | refine SW.region ?_ | refine SW.regionZ (id := 4) (Checked.mixed Tryz.checked) ((.one 0 [0, 2, 6] (.one 1 [1, 2, 6] (.one 2 [2, 6] (.one 3 [3, 5, 6] (.one 4 [4, 5, 6] (.one 5 [5, 6] (.one 6 [6] .done))))))) : OZ) (by kernel_rfl) ?_ | refine SW.regionZ (id := 5) (Checked.mixed Tryz.checked) ((.one 0 [0, 2, 3, 8, 9] (.one 1 [1, 2, 3, 8, 9] (.one 2 [2, 3, 8, 9] (.one 3 [3, 8, 9] (.one 4 [4, 6, 7, 8, 9] (.one 5 [5, 6, 7, 8, 9] (.one 6 [6, 7, 8, 9] (.one 7 [7, 8, 9] (.one 8 [8, 9] (.one 9 [9] .done)))))))))) : OZ) (by kernel_rfl) ?_ | refine SW.regionD (Checked.mixed Tryz.checked) (by kernel_rfl) ?_ | refine SW.cond ?_ | refine SW.skip ?_ | refine SW.exit ?_ | refine SW.ret ?_ | refine Call.of_pure (sg) ?_ | refine ⟨_, sg, ?_⟩ | (refine allF_i fun b hb => ?_; replace hD := And.intro hb hD; clear hb; try simp only [fresh_cons, fresh_nil, and_true, ne_eq, neF] at hD) | simp only [appK, appOsK]); try simp only [go_sem, hD, h1i, h2i, w2, w3]) | (refine And.intro (by omega) ?_) | (refine ifI (fun hc => ?_) (fun hc => ?_) <;> first | (exfalso; omega) | skip) | ((first | apply hK | ((iterate 1 (clear hK K)); apply hK) | ((iterate 2 (clear hK K)); apply hK) | ((iterate 3 (clear hK K)); apply hK) | ((iterate 4 (clear hK K)); apply hK) | ((iterate 5 (clear hK K)); apply hK)); clear hK K) | (refine And.intro ?_ ?_)
      refine ret_pure ?_; simp only [resL_tmp, resL_nil, tupOf, go_sem, hD]
  · have h1i : ¬ ((i : Nat) : Int) < ((a.size : Nat) : Int) := by omega
    rw [cb_end (by omega) (by omega) (by omega), la, lb] at hC
    have sg := sign_r ((a.size : Nat) : Int) ((b.size : Nat) : Int)
    rw [← hC] at sg
    repeat' first | (with_reducible refine And.intro (by omega) ?_) | (refine SW.seq_k fun K hK => ?_) | (refine SW.block ?_) | ((first | refine SW.region ?_ | refine SW.regionZ (id := 4) (Checked.mixed Tryz.checked) ((.one 0 [0, 2, 6] (.one 1 [1, 2, 6] (.one 2 [2, 6] (.one 3 [3, 5, 6] (.one 4 [4, 5, 6] (.one 5 [5, 6] (.one 6 [6] .done))))))) : OZ) (by kernel_rfl) ?_ | refine SW.regionZ (id := 5) (Checked.mixed Tryz.checked) ((.one 0 [0, 2, 3, 8, 9] (.one 1 [1, 2, 3, 8, 9] (.one 2 [2, 3, 8, 9] (.one 3 [3, 8, 9] (.one 4 [4, 6, 7, 8, 9] (.one 5 [5, 6, 7, 8, 9] (.one 6 [6, 7, 8, 9] (.one 7 [7, 8, 9] (.one 8 [8, 9] (.one 9 [9] .done)))))))))) : OZ) (by kernel_rfl) ?_ | refine SW.regionD (Checked.mixed Tryz.checked) (by kernel_rfl) ?_ | refine SW.cond ?_ | refine SW.skip ?_ | refine SW.exit ?_ | refine SW.ret ?_ | refine Call.of_pure (sg) ?_ | refine ⟨_, sg, ?_⟩ | (refine allF_i fun b hb => ?_; replace hD := And.intro hb hD; clear hb; try simp only [fresh_cons, fresh_nil, and_true, ne_eq, neF] at hD) | simp only [appK, appOsK]); try simp only [go_sem, hD, h1i]) | (refine And.intro (by omega) ?_) | (refine ifI (fun hc => ?_) (fun hc => ?_) <;> first | (exfalso; omega) | skip) | ((first | apply hK | ((iterate 1 (clear hK K)); apply hK) | ((iterate 2 (clear hK K)); apply hK) | ((iterate 3 (clear hK K)); apply hK) | ((iterate 4 (clear hK K)); apply hK) | ((iterate 5 (clear hK K)); apply hK)); clear hK K) | (refine And.intro ?_ ?_)
    refine ret_pure ?_; simp only [resL_tmp, resL_nil, tupOf, go_sem, hD]

set_option maxRecDepth 20000 in
theorem compare_r (k n : Int) (s : ByteArray) (k' n' : Int) (s' : ByteArray) (hs : s.size ≤ 9223372036854775807) (hs' : s'.size ≤ 9223372036854775807) : PCall Tryz.prog 87 [VS k n s, VS k' n' s'] (I64 (cmpV k n s k' n' s')) := by
  have s1 := sign_r k k'
  have s2 := sign_r n n'
  have s3 := strings_r s s' hs hs'
  obtain ⟨R, hR⟩ : ∃ R, R = cmpV k n s k' n' s' := ⟨_, rfl⟩
  rw [← hR]
  unfold cmpV at hR
  refine Call.enter' (N := 28) (rs := [.tmp 4]) Tryz.func87 rfl rfl rfl (by decide) rfl ?_; simp only [argT]; have hD : (0 : Nat) = 0 := rfl
  by_cases h1 : sgn k k' = 0
  · rw [if_pos h1] at hR
    rw [h1] at s1
    by_cases h2 : sgn n n' = 0
    · rw [if_pos h2] at hR
      rw [h2] at s2
      repeat' first | (with_reducible refine And.intro (by omega) ?_) | (refine SW.seq_k fun K hK => ?_) | (refine SW.block ?_) | ((first | refine SW.region ?_ | refine SW.regionD (Checked.mixed Tryz.checked) (by kernel_rfl) ?_ | refine SW.cond ?_ | refine SW.skip ?_ | refine SW.exit ?_ | refine SW.ret ?_ | refine Call.of_pure (s1) ?_ | refine ⟨_, s1, ?_⟩ | refine Call.of_pure (s2) ?_ | refine ⟨_, s2, ?_⟩ | refine Call.of_pure (s3) ?_ | refine ⟨_, s3, ?_⟩ | (refine allF_i fun b hb => ?_; replace hD := And.intro hb hD; clear hb; try simp only [fresh_cons, fresh_nil, and_true, ne_eq, neF] at hD) | simp only [appK, appOsK]); try simp only [go_sem, hD]) | (refine And.intro (by omega) ?_) | (refine ifI (fun hc => ?_) (fun hc => ?_) <;> first | (exfalso; omega) | skip) | ((first | apply hK | ((iterate 1 (clear hK K)); apply hK) | ((iterate 2 (clear hK K)); apply hK) | ((iterate 3 (clear hK K)); apply hK) | ((iterate 4 (clear hK K)); apply hK) | ((iterate 5 (clear hK K)); apply hK)); clear hK K)
      refine ret_pure ?_; simp only [resL_tmp, resL_nil, tupOf, go_sem, hD]
      rw [hR]
    · rw [if_neg h2] at hR
      repeat' first | (with_reducible refine And.intro (by omega) ?_) | (refine SW.seq_k fun K hK => ?_) | (refine SW.block ?_) | ((first | refine SW.region ?_ | refine SW.regionD (Checked.mixed Tryz.checked) (by kernel_rfl) ?_ | refine SW.cond ?_ | refine SW.skip ?_ | refine SW.exit ?_ | refine SW.ret ?_ | refine Call.of_pure (s1) ?_ | refine ⟨_, s1, ?_⟩ | refine Call.of_pure (s2) ?_ | refine ⟨_, s2, ?_⟩ | refine Call.of_pure (s3) ?_ | refine ⟨_, s3, ?_⟩ | (refine allF_i fun b hb => ?_; replace hD := And.intro hb hD; clear hb; try simp only [fresh_cons, fresh_nil, and_true, ne_eq, neF] at hD) | simp only [appK, appOsK]); try simp only [go_sem, hD, h2]) | (refine And.intro (by omega) ?_) | (refine ifI (fun hc => ?_) (fun hc => ?_) <;> first | (exfalso; omega) | skip) | ((first | apply hK | ((iterate 1 (clear hK K)); apply hK) | ((iterate 2 (clear hK K)); apply hK) | ((iterate 3 (clear hK K)); apply hK) | ((iterate 4 (clear hK K)); apply hK) | ((iterate 5 (clear hK K)); apply hK)); clear hK K)
      refine ret_pure ?_; simp only [resL_tmp, resL_nil, tupOf, go_sem, hD]
      rw [hR]
  · rw [if_neg h1] at hR
    repeat' first | (with_reducible refine And.intro (by omega) ?_) | (refine SW.seq_k fun K hK => ?_) | (refine SW.block ?_) | ((first | refine SW.region ?_ | refine SW.regionD (Checked.mixed Tryz.checked) (by kernel_rfl) ?_ | refine SW.cond ?_ | refine SW.skip ?_ | refine SW.exit ?_ | refine SW.ret ?_ | refine Call.of_pure (s1) ?_ | refine ⟨_, s1, ?_⟩ | refine Call.of_pure (s2) ?_ | refine ⟨_, s2, ?_⟩ | refine Call.of_pure (s3) ?_ | refine ⟨_, s3, ?_⟩ | (refine allF_i fun b hb => ?_; replace hD := And.intro hb hD; clear hb; try simp only [fresh_cons, fresh_nil, and_true, ne_eq, neF] at hD) | simp only [appK, appOsK]); try simp only [go_sem, hD, h1]) | (refine And.intro (by omega) ?_) | (refine ifI (fun hc => ?_) (fun hc => ?_) <;> first | (exfalso; omega) | skip) | ((first | apply hK | ((iterate 1 (clear hK K)); apply hK) | ((iterate 2 (clear hK K)); apply hK) | ((iterate 3 (clear hK K)); apply hK) | ((iterate 4 (clear hK K)); apply hK) | ((iterate 5 (clear hK K)); apply hK)); clear hK K)
    refine ret_pure ?_; simp only [resL_tmp, resL_nil, tupOf, go_sem, hD]
    rw [hR]
end Go.Proofs.YtddkacbcecedaaaGreatDoor
