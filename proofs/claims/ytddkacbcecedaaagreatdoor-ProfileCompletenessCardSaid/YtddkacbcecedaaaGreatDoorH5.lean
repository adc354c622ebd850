/- Contracts: the errors of a table with an attribute; the histograms of both. -/
import Derived.Test.YtddkacbcecedaaaGreatDoorH4
set_option linter.unusedSimpArgs false
set_option linter.unusedVariables false
set_option linter.unusedSectionVars false
namespace Go.Ab.A34
open Go Go.Ab Go.Proofs
/-- The error of a table with an attribute. -/
def chkS (t : Tb) (a : Int) : Int := if validS t = 0 then (if a < 0 ∨ (t.attrs.length : Int) ≤ a then 6 else 0) else validS t
abbrev NL (l : List Int) : SV := ints .i64 l
end Go.Ab.A34
namespace Go.Proofs.YtddkacbcecedaaaGreatDoor
open Go Go.Ab Go.Ab.A34
variable [Gl] [Tabs]

theorem checked_p (t : Tb) (a : Int) : PCall Tryz.prog 35 [TB t, I64 a] (I64 (chkS t a)) := by
  have va := valid_tp t
  unfold chkS
  by_cases h : validS t = 0
  · rw [if_pos h]
    rw [h] at va
    by_cases h1 : a < 0
    · rw [if_pos (.inl h1)]
      refine Call.enter' (N := 20) (rs := [.tmp 4]) Tryz.func35 rfl rfl rfl (by decide) rfl ?_; simp only [argT]; have hD : (0 : Nat) = 0 := rfl
      repeat' first | (with_reducible refine And.intro (by omega) ?_) | (refine SW.seq_k fun K hK => ?_) | (refine SW.block ?_) | ((first | refine SW.region ?_ | refine SW.regionD (Checked.mixed Tryz.checked) (by kernel_rfl) ?_ | refine SW.cond ?_ | refine SW.skip ?_ | refine SW.exit ?_ | refine SW.ret ?_ | refine Call.of_pure (va) ?_ | refine ⟨_, va, ?_⟩ | (refine allF_i fun b hb => ?_; replace hD := And.intro hb hD; clear hb; try simp only [fresh_cons, fresh_nil, and_true, ne_eq, neF] at hD) | simp only [appK, appOsK]); try simp only [go_sem, hD, h1]) | (refine And.intro (by omega) ?_) | (refine ifI (fun hc => ?_) (fun hc => ?_) <;> first | (exfalso; omega) | skip) | ((first | apply hK | ((iterate 1 (clear hK K)); apply hK) | ((iterate 2 (clear hK K)); apply hK) | ((iterate 3 (clear hK K)); apply hK) | ((iterate 4 (clear hK K)); apply hK) | ((iterate 5 (clear hK K)); apply hK)); clear hK K)
      refine ret_pure ?_; simp only [resL_tmp, resL_nil, tupOf, go_sem, hD]
    · by_cases h2 : (t.attrs.length : Int) ≤ a
      · rw [if_pos (.inr h2)]
        refine Call.enter' (N := 20) (rs := [.tmp 4]) Tryz.func35 rfl rfl rfl (by decide) rfl ?_; simp only [argT]; have hD : (0 : Nat) = 0 := rfl
        repeat' first | (with_reducible refine And.intro (by omega) ?_) | (refine SW.seq_k fun K hK => ?_) | (refine SW.block ?_) | ((first | refine SW.region ?_ | refine SW.regionD (Checked.mixed Tryz.checked) (by kernel_rfl) ?_ | refine SW.cond ?_ | refine SW.skip ?_ | refine SW.exit ?_ | refine SW.ret ?_ | refine Call.of_pure (va) ?_ | refine ⟨_, va, ?_⟩ | (refine allF_i fun b hb => ?_; replace hD := And.intro hb hD; clear hb; try simp only [fresh_cons, fresh_nil, and_true, ne_eq, neF] at hD) | simp only [appK, appOsK]); try simp only [go_sem, hD, h1, h2]) | (refine And.intro (by omega) ?_) | (refine ifI (fun hc => ?_) (fun hc => ?_) <;> first | (exfalso; omega) | skip) | ((first | apply hK | ((iterate 1 (clear hK K)); apply hK) | ((iterate 2 (clear hK K)); apply hK) | ((iterate 3 (clear hK K)); apply hK) | ((iterate 4 (clear hK K)); apply hK) | ((iterate 5 (clear hK K)); apply hK)); clear hK K)
        refine ret_pure ?_; simp only [resL_tmp, resL_nil, tupOf, go_sem, hD]
      · rw [if_neg (by omega)]
        refine Call.enter' (N := 20) (rs := [.tmp 4]) Tryz.func35 rfl rfl rfl (by decide) rfl ?_; simp only [argT]; have hD : (0 : Nat) = 0 := rfl
        repeat' first | (with_reducible refine And.intro (by omega) ?_) | (refine SW.seq_k fun K hK => ?_) | (refine SW.block ?_) | ((first | refine SW.region ?_ | refine SW.regionD (Checked.mixed Tryz.checked) (by kernel_rfl) ?_ | refine SW.cond ?_ | refine SW.skip ?_ | refine SW.exit ?_ | refine SW.ret ?_ | refine Call.of_pure (va) ?_ | refine ⟨_, va, ?_⟩ | (refine allF_i fun b hb => ?_; replace hD := And.intro hb hD; clear hb; try simp only [fresh_cons, fresh_nil, and_true, ne_eq, neF] at hD) | simp only [appK, appOsK]); try simp only [go_sem, hD, h1, h2]) | (refine And.intro (by omega) ?_) | (refine ifI (fun hc => ?_) (fun hc => ?_) <;> first | (exfalso; omega) | skip) | ((first | apply hK | ((iterate 1 (clear hK K)); apply hK) | ((iterate 2 (clear hK K)); apply hK) | ((iterate 3 (clear hK K)); apply hK) | ((iterate 4 (clear hK K)); apply hK) | ((iterate 5 (clear hK K)); apply hK)); clear hK K)
        refine ret_pure ?_; simp only [resL_tmp, resL_nil, tupOf, go_sem, hD]
  · rw [if_neg h]
    generalize validS t = e at *
    refine Call.enter' (N := 20) (rs := [.tmp 4]) Tryz.func35 rfl rfl rfl (by decide) rfl ?_; simp only [argT]; have hD : (0 : Nat) = 0 := rfl
    repeat' first | (with_reducible refine And.intro (by omega) ?_) | (refine SW.seq_k fun K hK => ?_) | (refine SW.block ?_) | ((first | refine SW.region ?_ | refine SW.regionD (Checked.mixed Tryz.checked) (by kernel_rfl) ?_ | refine SW.cond ?_ | refine SW.skip ?_ | refine SW.exit ?_ | refine SW.ret ?_ | refine Call.of_pure (va) ?_ | refine ⟨_, va, ?_⟩ | (refine allF_i fun b hb => ?_; replace hD := And.intro hb hD; clear hb; try simp only [fresh_cons, fresh_nil, and_true, ne_eq, neF] at hD) | simp only [appK, appOsK]); try simp only [go_sem, hD, h]) | (refine And.intro (by omega) ?_) | (refine ifI (fun hc => ?_) (fun hc => ?_) <;> first | (exfalso; omega) | skip) | ((first | apply hK | ((iterate 1 (clear hK K)); apply hK) | ((iterate 2 (clear hK K)); apply hK) | ((iterate 3 (clear hK K)); apply hK) | ((iterate 4 (clear hK K)); apply hK) | ((iterate 5 (clear hK K)); apply hK)); clear hK K)
    refine ret_pure ?_; simp only [resL_tmp, resL_nil, tupOf, go_sem, hD]

theorem error_r (t : Tb) (a : Int) (hv : ∀ r ∈ t.rows, r.2.length ≤ 9223372036854775807) : PCall Tryz.prog 68 [TB t, I64 a] (I64 (chkS t a)) := by
  have va := valid_tr t hv
  unfold chkS
  by_cases h : validS t = 0
  · rw [if_pos h]
    rw [h] at va
    by_cases h1 : a < 0
    · rw [if_pos (.inl h1)]
      refine Call.enter' (N := 20) (rs := [.tmp 4]) Tryz.func68 rfl rfl rfl (by decide) rfl ?_; simp only [argT]; have hD : (0 : Nat) = 0 := rfl
      repeat' first | (with_reducible refine And.intro (by omega) ?_) | (refine SW.seq_k fun K hK => ?_) | (refine SW.block ?_) | ((first | refine SW.region ?_ | refine SW.regionD (Checked.mixed Tryz.checked) (by kernel_rfl) ?_ | refine SW.cond ?_ | refine SW.skip ?_ | refine SW.exit ?_ | refine SW.ret ?_ | refine Call.of_pure (va) ?_ | refine ⟨_, va, ?_⟩ | (refine allF_i fun b hb => ?_; replace hD := And.intro hb hD; clear hb; try simp only [fresh_cons, fresh_nil, and_true, ne_eq, neF] at hD) | simp only [appK, appOsK]); try simp only [go_sem, hD, h1]) | (refine And.intro (by omega) ?_) | (refine ifI (fun hc => ?_) (fun hc => ?_) <;> first | (exfalso; omega) | skip) | ((first | apply hK | ((iterate 1 (clear hK K)); apply hK) | ((iterate 2 (clear hK K)); apply hK) | ((iterate 3 (clear hK K)); apply hK) | ((iterate 4 (clear hK K)); apply hK) | ((iterate 5 (clear hK K)); apply hK)); clear hK K)
      refine ret_pure ?_; simp only [resL_tmp, resL_nil, tupOf, go_sem, hD]
    · by_cases h2 : (t.attrs.length : Int) ≤ a
      · rw [if_pos (.inr h2)]
        refine Call.enter' (N := 20) (rs := [.tmp 4]) Tryz.func68 rfl rfl rfl (by decide) rfl ?_; simp only [argT]; have hD : (0 : Nat) = 0 := rfl
        repeat' first | (with_reducible refine And.intro (by omega) ?_) | (refine SW.seq_k fun K hK => ?_) | (refine SW.block ?_) | ((first | refine SW.region ?_ | refine SW.regionD (Checked.mixed Tryz.checked) (by kernel_rfl) ?_ | refine SW.cond ?_ | refine SW.skip ?_ | refine SW.exit ?_ | refine SW.ret ?_ | refine Call.of_pure (va) ?_ | refine ⟨_, va, ?_⟩ | (refine allF_i fun b hb => ?_; replace hD := And.intro hb hD; clear hb; try simp only [fresh_cons, fresh_nil, and_true, ne_eq, neF] at hD) | simp only [appK, appOsK]); try simp only [go_sem, hD, h1, h2]) | (refine And.intro (by omega) ?_) | (refine ifI (fun hc => ?_) (fun hc => ?_) <;> first | (exfalso; omega) | skip) | ((first | apply hK | ((iterate 1 (clear hK K)); apply hK) | ((iterate 2 (clear hK K)); apply hK) | ((iterate 3 (clear hK K)); apply hK) | ((iterate 4 (clear hK K)); apply hK) | ((iterate 5 (clear hK K)); apply hK)); clear hK K)
        refine ret_pure ?_; simp only [resL_tmp, resL_nil, tupOf, go_sem, hD]
      · rw [if_neg (by omega)]
        refine Call.enter' (N := 20) (rs := [.tmp 4]) Tryz.func68 rfl rfl rfl (by decide) rfl ?_; simp only [argT]; have hD : (0 : Nat) = 0 := rfl
        repeat' first | (with_reducible refine And.intro (by omega) ?_) | (refine SW.seq_k fun K hK => ?_) | (refine SW.block ?_) | ((first | refine SW.region ?_ | refine SW.regionD (Checked.mixed Tryz.checked) (by kernel_rfl) ?_ | refine SW.cond ?_ | refine SW.skip ?_ | refine SW.exit ?_ | refine SW.ret ?_ | refine Call.of_pure (va) ?_ | refine ⟨_, va, ?_⟩ | (refine allF_i fun b hb => ?_; replace hD := And.intro hb hD; clear hb; try simp only [fresh_cons, fresh_nil, and_true, ne_eq, neF] at hD) | simp only [appK, appOsK]); try simp only [go_sem, hD, h1, h2]) | (refine And.intro (by omega) ?_) | (refine ifI (fun hc => ?_) (fun hc => ?_) <;> first | (exfalso; omega) | skip) | ((first | apply hK | ((iterate 1 (clear hK K)); apply hK) | ((iterate 2 (clear hK K)); apply hK) | ((iterate 3 (clear hK K)); apply hK) | ((iterate 4 (clear hK K)); apply hK) | ((iterate 5 (clear hK K)); apply hK)); clear hK K)
        refine ret_pure ?_; simp only [resL_tmp, resL_nil, tupOf, go_sem, hD]
  · rw [if_neg h]
    generalize validS t = e at *
    refine Call.enter' (N := 20) (rs := [.tmp 4]) Tryz.func68 rfl rfl rfl (by decide) rfl ?_; simp only [argT]; have hD : (0 : Nat) = 0 := rfl
    repeat' first | (with_reducible refine And.intro (by omega) ?_) | (refine SW.seq_k fun K hK => ?_) | (refine SW.block ?_) | ((first | refine SW.region ?_ | refine SW.regionD (Checked.mixed Tryz.checked) (by kernel_rfl) ?_ | refine SW.cond ?_ | refine SW.skip ?_ | refine SW.exit ?_ | refine SW.ret ?_ | refine Call.of_pure (va) ?_ | refine ⟨_, va, ?_⟩ | (refine allF_i fun b hb => ?_; replace hD := And.intro hb hD; clear hb; try simp only [fresh_cons, fresh_nil, and_true, ne_eq, neF] at hD) | simp only [appK, appOsK]); try simp only [go_sem, hD, h]) | (refine And.intro (by omega) ?_) | (refine ifI (fun hc => ?_) (fun hc => ?_) <;> first | (exfalso; omega) | skip) | ((first | apply hK | ((iterate 1 (clear hK K)); apply hK) | ((iterate 2 (clear hK K)); apply hK) | ((iterate 3 (clear hK K)); apply hK) | ((iterate 4 (clear hK K)); apply hK) | ((iterate 5 (clear hK K)); apply hK)); clear hK K)
    refine ret_pure ?_; simp only [resL_tmp, resL_nil, tupOf, go_sem, hD]



theorem hist_r_bad (t : Tb) (a : Int) (hv : ∀ r ∈ t.rows, r.2.length ≤ 9223372036854775807) (h : ¬ chkS t a = 0) : PCall Tryz.prog 46 [TB t, I64 a] (.tup [VL [], NL [], I64 (chkS t a)]) := by
  have va := error_r t a hv
  generalize chkS t a = e at *
  refine Call.enter' (N := 61) (rs := [.tmp 4, .tmp 5, .tmp 6]) Tryz.func46 rfl rfl rfl (by decide) rfl ?_; simp only [argT]; have hD : (0 : Nat) = 0 := rfl
  repeat' first | (with_reducible refine And.intro (by omega) ?_) | (refine SW.seq_k fun K hK => ?_) | (refine SW.block ?_) | ((first | refine SW.region ?_ | refine SW.regionD (Checked.mixed Tryz.checked) (by kernel_rfl) ?_ | refine SW.cond ?_ | refine SW.skip ?_ | refine SW.exit ?_ | refine SW.ret ?_ | refine Call.of_pure (va) ?_ | refine ⟨_, va, ?_⟩ | (refine allF_i fun b hb => ?_; replace hD := And.intro hb hD; clear hb; try simp only [fresh_cons, fresh_nil, and_true, ne_eq, neF] at hD) | simp only [appK, appOsK]); try simp only [go_sem, hD, h]) | (refine And.intro (by omega) ?_) | (refine ifI (fun hc => ?_) (fun hc => ?_) <;> first | (exfalso; omega) | skip) | ((first | apply hK | ((iterate 1 (clear hK K)); apply hK) | ((iterate 2 (clear hK K)); apply hK) | ((iterate 3 (clear hK K)); apply hK) | ((iterate 4 (clear hK K)); apply hK) | ((iterate 5 (clear hK K)); apply hK)); clear hK K)
  refine retQ_le ((St.le_nil_fl (i := 4) (sz := 3) (f := vF []) rfl).trans (St.le_nil_fl (i := 5) (sz := 1) (f := fun j => [I64 (([] : List Int).getD j 0)]) rfl)) ?_
  simp only [resL_tmp, resL_nil, tupOf, go_sem, hD]
  rfl



set_option maxHeartbeats 2000000 in
set_option maxRecDepth 20000 in
theorem hist_r (t : Tb) (a : Nat) (h : chkS t a = 0) (hv : ∀ r ∈ t.rows, r.2.length ≤ 9223372036854775807) (hl : t.rows.length ≤ 1000000) (ha : ∀ r ∈ t.rows, a < r.2.length ∧ (∀ v ∈ r.2, v.2.2.size ≤ 9223372036854775807)) : PCall Tryz.prog 46 [TB t, I64 a] (.tup [VL (vals (histS (colS t a))), NL (nums (histS (colS t a))), I64 0]) := by
  have va := error_r t a hv
  rw [h] at va
  have co := column_r t a hl ha
  obtain ⟨X, hX⟩ : ∃ X, X = histS (colS t a) := ⟨_, rfl⟩
  rw [← hX]
  have hC0 : X = ((colS t a).drop 0).foldl hAdd [] := hX
  have hl : (colS t a).length ≤ 1000000 := by unfold colS; rw [sortV_len, List.length_map]; exact hl
  clear hX
  generalize colS t a = l at *
  refine Call.enter' (N := 61) (rs := [.tmp 4, .tmp 5, .tmp 6]) Tryz.func46 rfl rfl rfl (by decide) rfl ?_; simp only [argT]; have hD : (0 : Nat) = 0 := rfl
  repeat' first | (with_reducible refine And.intro (by omega) ?_) | (refine SW.seq_k fun K hK => ?_) | (refine SW.block ?_) | ((first | refine SW.region ?_ | refine SW.regionD (Checked.mixed Tryz.checked) (by kernel_rfl) ?_ | refine SW.cond ?_ | refine SW.skip ?_ | refine SW.exit ?_ | refine SW.ret ?_ | refine Call.of_pure (va) ?_ | refine ⟨_, va, ?_⟩ | refine Call.of_pure (co) ?_ | refine ⟨_, co, ?_⟩ | (refine allF_i fun b hb => ?_; replace hD := And.intro hb hD; clear hb; try simp only [fresh_cons, fresh_nil, and_true, ne_eq, neF] at hD) | simp only [appK, appOsK]); try simp only [go_sem, hD]) | (refine And.intro (by omega) ?_) | (refine ifI (fun hc => ?_) (fun hc => ?_) <;> first | (exfalso; omega) | skip) | ((first | apply hK | ((iterate 1 (clear hK K)); apply hK) | ((iterate 2 (clear hK K)); apply hK) | ((iterate 3 (clear hK K)); apply hK) | ((iterate 4 (clear hK K)); apply hK) | ((iterate 5 (clear hK K)); apply hK)); clear hK K)
  refine Ab.SW.le St.le_drop ?_
  obtain ⟨I, hI⟩ : ∃ I : Nat → St → Prop, ∀ k S, I k S ↔ (∃ (i : Nat) (R : List (V3 × Int)) (x y : SV) (h : Heap), k = l.length - i ∧ i ≤ l.length ∧ R.length ≤ i ∧ X = (l.drop i).foldl hAdd R ∧ (∀ p ∈ R, 0 ≤ p.2 ∧ p.2 ≤ i) ∧ (0 < i → ∃ R' n, R = R' ++ [(l.getD (i - 1) v0, n)]) ∧ HB x y h R ∧ S = ⟨[(8, x), (9, y), (10, VL l), (11, I64 i)], h⟩) := ⟨fun k S => _, fun _ _ => Iff.rfl⟩
  refine SW.loop' I l.length ((hI _ _).2 ⟨0, [], _, _, _, rfl, Nat.zero_le _, Nat.le_refl _, hC0, fun p hp => absurd hp List.not_mem_nil, fun x => absurd x (Nat.lt_irrefl 0), .inl ⟨rfl, rfl, rfl, rfl⟩, rfl⟩) (by repeat' (first | exact rfl | exact trivial | exact int_eq (by omega) | exact int_eq (by (rw [i64_wrap] <;> omega)) | constructor)) ?_
  clear hC0
  intro k S hIn
  obtain ⟨i, R, x, y, h, rfl, hi, hR, hC, hN, hLa, hB, rfl⟩ := (hI _ _).1 hIn
  clear hIn
  have ie : ((i : Nat) : Int).toNat = i := Int.toNat_natCast _
  have i0 : (0 : Int) ≤ ((i : Nat) : Int) := by omega
  have w01 : IntKind.i64.wrap ((0 : Int) + 1) = 1 := by rw [i64_wrap (by omega) (by omega)]; rfl
  by_cases hlt : i < l.length
  · have hli : ((i : Nat) : Int) < (((l.length) : Nat) : Int) := by omega
    have w1 : IntKind.i64.wrap ((i : Int) + 1) = ((i + 1 : Nat) : Int) := by rw [i64_wrap (by omega) (by omega)]; omega
    have hg : l.getD i v0 = l[i] := by simp [List.getD_eq_getElem?_getD, hlt]
    have hd : l.drop i = l.getD i v0 :: l.drop (i + 1) := by rw [List.drop_eq_getElem_cons hlt, hg]
    rw [hd, List.foldl_cons] at hC
    obtain ⟨vk, vn, vt, hv⟩ : ∃ k n t, l.getD i v0 = (k, n, t) := ⟨_, _, _, rfl⟩
    have tv : vF l i = [I64 vk, I64 vn, Str vt] := by unfold vF; rw [hv]
    rw [hv] at hC
    have hlen := hAdd_len R (vk, vn, vt)
    have hne := hAdd_ne R (vk, vn, vt)
    rcases Nat.eq_zero_or_pos i with hi0 | hi0
    · have hRn : R = [] := List.eq_nil_of_length_eq_zero (by omega)
      subst hRn
      subst hi0
      rcases hB with ⟨_, rfl, rfl, rfl⟩ | ⟨hR0, _⟩
      · have hA : hAdd [] (vk, vn, vt) = [((vk, vn, vt), 1)] := rfl
        rw [hA] at hC hlen hne
        have w10 : IntKind.i64.wrap (((1 : Nat) : Int) - 1) = 0 := by rw [i64_wrap (by omega) (by omega)]; rfl
        have z1 : ((0 : Nat) : Int) = 0 := rfl
        repeat' first | (with_reducible refine And.intro (by omega) ?_) | (refine SW.seq_k fun K hK => ?_) | (refine SW.block ?_) | ((first | refine SW.region ?_ | refine SW.regionZ (id := 10) (Checked.mixed Tryz.checked) ((.one 0 [0, 1, 2, 3, 4, 5, 6, 7, 8, 9, 10, 11, 12, 13] (.one 1 [1, 2, 3, 4, 5, 6, 7, 8, 9, 10, 11, 12, 13] (.one 2 [2, 3, 4, 5, 6, 7, 8, 9, 10, 11, 12, 13] (.one 3 [3, 5, 6, 12, 13] (.one 4 [4, 5, 6, 12, 13] (.one 5 [5, 6, 12, 13] (.one 6 [6, 12, 13] (.one 7 [7, 10, 11, 12, 13] (.one 8 [8, 9, 10, 11, 12, 13] (.one 9 [9, 10, 11, 12, 13] (.one 10 [10, 11, 12, 13] (.one 11 [11, 12, 13] (.one 12 [12, 13] (.one 13 [13] .done)))))))))))))) : OZ) (by kernel_rfl) ?_ | refine SW.regionD (Checked.mixed Tryz.checked) (by kernel_rfl) ?_ | refine SW.cond ?_ | refine SW.skip ?_ | refine SW.exit ?_ | refine SW.ret ?_ | (refine allF_i fun b hb => ?_; replace hD := And.intro hb hD; clear hb; try simp only [fresh_cons, fresh_nil, and_true, ne_eq, neF] at hD) | simp only [appK, appOsK]); try simp only [go_sem, hD, hli, ie, i0, w1, w01, w10, tv, z1, true_implies]) | (refine And.intro (by omega) ?_) | (refine ifI (fun hc => ?_) (fun hc => ?_) <;> first | (exfalso; omega) | skip) | ((first | apply hK | ((iterate 1 (clear hK K)); apply hK) | ((iterate 2 (clear hK K)); apply hK) | ((iterate 3 (clear hK K)); apply hK) | ((iterate 4 (clear hK K)); apply hK) | ((iterate 5 (clear hK K)); apply hK)); clear hK K) | (refine And.intro ?_ ?_)
        refine Rnd.le (St.le_two 8 9 rfl rfl (k := .svs (vCs [(vk, vn, vt)])) (m := .ints .i64 [1]) (by repeat (first | exact List.mem_cons_self | apply List.mem_cons_of_mem)) (by repeat (first | exact List.mem_cons_self | apply List.mem_cons_of_mem)) (by simp [hD])) ?_
        refine Rnd.sub (l.length - (0 + 1)) (by omega) ((hI _ _).2 ⟨0 + 1, [((vk, vn, vt), 1)], _, _, _, rfl, by omega, by simp, hC, by simp, fun _ => ⟨[], 1, by rw [show l.getD (0 + 1 - 1) v0 = l.getD 0 v0 from rfl, hv]; rfl⟩, .inr ⟨hne, _, _, by simp [hD], rfl, rfl, rfl⟩, rfl⟩) (by repeat' (first | exact rfl | exact trivial | exact int_eq (by omega) | exact int_eq (by (rw [i64_wrap] <;> omega)) | constructor))
      · exact absurd rfl hR0
    · obtain ⟨R', n, rfl⟩ := hLa hi0
      clear hLa
      rcases hB with ⟨e, _⟩ | ⟨hR0, b1, b2, hb, rfl, rfl, rfl⟩
      · exact absurd e (by simp)
      · obtain ⟨uk, un, ut, hu⟩ : ∃ k n t, l.getD (i - 1) v0 = (k, n, t) := ⟨_, _, _, rfl⟩
        rw [hu] at hR hN hC hlen hne hR0
        rw [hu]
        have tu : vF l (i - 1) = [I64 uk, I64 un, Str ut] := by unfold vF; rw [hu]
        have wi : IntKind.i64.wrap (((i : Nat) : Int) - 1) = ((i - 1 : Nat) : Int) := by rw [i64_wrap (by omega) (by omega)]; omega
        have ui : ((i - 1 : Nat) : Int).toNat = i - 1 := Int.toNat_natCast _
        have ui0 : (0 : Int) ≤ ((i - 1 : Nat) : Int) := by omega
        have uil : ((i - 1 : Nat) : Int) < ((l.length : Nat) : Int) := by omega
        have iz : ¬ ((i : Nat) : Int) = 0 := by omega
        have hl2 : (R' ++ [((uk, un, ut), n)]).length = R'.length + 1 := by simp
        have hv2 : vals (R' ++ [((uk, un, ut), n)]) = vals R' ++ [(uk, un, ut)] := by simp [vals]
        have hn2 : nums (R' ++ [((uk, un, ut), n)]) = nums R' ++ [n] := by simp [nums]
        rw [hl2, hv2, hn2]
        rw [hl2] at hR hlen
        have wj : IntKind.i64.wrap (((R'.length + 1 : Nat) : Int) - 1) = ((R'.length : Nat) : Int) := by rw [i64_wrap (by omega) (by omega)]; omega
        have je : ((R'.length : Nat) : Int).toNat = R'.length := Int.toNat_natCast _
        have j1 : (0 : Int) ≤ ((R'.length : Nat) : Int) := by omega
        have j2 : ((R'.length : Nat) : Int) < ((R'.length + 1 : Nat) : Int) := by omega
        have hvl : (vals R').length = R'.length := by simp [vals]
        have hnl : (nums R').length = R'.length := by simp [nums]
        have c0 : (vCs (vals R' ++ [(uk, un, ut)])).length = (R'.length + 1) * 3 := by rw [← vCs_len, List.length_append, hvl]; rfl
        have hb2 : ¬ b2 = b1 := fun e => hb e.symm
        have gn : (nums R' ++ [n]).getD R'.length 0 = n := by simp [List.getD_eq_getElem?_getD, hnl]
        have hnn := hN ((uk, un, ut), n) (List.mem_append_right _ (List.mem_singleton.2 rfl))
        simp only at hnn
        have wn : IntKind.i64.wrap (n + 1) = n + 1 := by rw [i64_wrap (by omega) (by omega)]
        by_cases hq : ((uk, un, ut) : V3) = (vk, vn, vt)
        · simp only [Prod.mk.injEq] at hq
          obtain ⟨rfl, rfl, rfl⟩ := hq
          have bq : (ut.toList == ut.toList) = true := by rw [beq_self_eq_true]
          repeat' first | (with_reducible refine And.intro (by omega) ?_) | (refine SW.seq_k fun K hK => ?_) | (refine SW.block ?_) | ((first | refine SW.region ?_ | refine SW.regionZ (id := 10) (Checked.mixed Tryz.checked) ((.one 0 [0, 1, 2, 3, 4, 5, 6, 7, 8, 9, 10, 11, 12, 13] (.one 1 [1, 2, 3, 4, 5, 6, 7, 8, 9, 10, 11, 12, 13] (.one 2 [2, 3, 4, 5, 6, 7, 8, 9, 10, 11, 12, 13] (.one 3 [3, 5, 6, 12, 13] (.one 4 [4, 5, 6, 12, 13] (.one 5 [5, 6, 12, 13] (.one 6 [6, 12, 13] (.one 7 [7, 10, 11, 12, 13] (.one 8 [8, 9, 10, 11, 12, 13] (.one 9 [9, 10, 11, 12, 13] (.one 10 [10, 11, 12, 13] (.one 11 [11, 12, 13] (.one 12 [12, 13] (.one 13 [13] .done)))))))))))))) : OZ) (by kernel_rfl) ?_ | refine SW.regionD (Checked.mixed Tryz.checked) (by kernel_rfl) ?_ | refine SW.cond ?_ | refine SW.skip ?_ | refine SW.exit ?_ | refine SW.ret ?_ | (refine allF_i fun b hb => ?_; replace hD := And.intro hb hD; clear hb; try simp only [fresh_cons, fresh_nil, and_true, ne_eq, neF] at hD) | simp only [appK, appOsK]); try simp only [go_sem, hD, hli, ie, i0, w1, tv, tu, wi, ui, ui0, uil, iz, wj, je, j1, j2, true_implies, c0, hb, hb2, gn, wn, bq]) | (refine And.intro (by omega) ?_) | (refine ifI (fun hc => ?_) (fun hc => ?_) <;> first | (exfalso; omega) | skip) | ((first | apply hK | ((iterate 1 (clear hK K)); apply hK) | ((iterate 2 (clear hK K)); apply hK) | ((iterate 3 (clear hK K)); apply hK) | ((iterate 4 (clear hK K)); apply hK) | ((iterate 5 (clear hK K)); apply hK)); clear hK K) | (refine And.intro ?_ ?_)
          rw [hAdd_same] at hC hlen hne
          refine Rnd.le (St.le_two 8 9 rfl rfl (k := .svs (vCs (vals R' ++ [(uk, un, ut)]))) (m := .ints .i64 ((nums R' ++ [n]).set R'.length (n + 1))) ?_ ?_ hb) ?_
          · repeat (first | exact List.mem_cons_self | apply List.mem_cons_of_mem)
          · repeat (first | exact List.mem_cons_self | apply List.mem_cons_of_mem)
          refine Rnd.sub (l.length - (i + 1)) (by omega) ((hI _ _).2 ⟨i + 1, R' ++ [((uk, un, ut), n + 1)], .os b1 0 (R'.length + 1) 3, .os b2 0 (R'.length + 1) 1, _, rfl, by omega, by simp; omega, hC, fun p hp => ?_, fun _ => ⟨R', n + 1, by rw [Nat.add_sub_cancel, hv]⟩, .inr ⟨hne, b1, b2, hb, by simp, by simp, ?_⟩, rfl⟩) (by repeat' (first | exact rfl | exact trivial | exact int_eq (by omega) | exact int_eq (by (rw [i64_wrap] <;> omega)) | constructor))
          · rcases List.mem_append.1 hp with hp | hp
            · have := hN p (List.mem_append_left _ hp)
              omega
            · rw [List.mem_singleton.1 hp]
              simp only
              omega
          · have e1 : vals (R' ++ [((uk, un, ut), n + 1)]) = vals R' ++ [(uk, un, ut)] := by simp [vals]
            have e2 : nums (R' ++ [((uk, un, ut), n + 1)]) = (nums R' ++ [n]).set R'.length (n + 1) := by
              rw [← hnl, List.set_append_right _ _ (Nat.le_refl _), Nat.sub_self]
              simp [nums]
            rw [e1, e2]
        · have ways : (¬ vk = uk) ∨ (vk = uk ∧ ¬ vn = un) ∨ (vk = uk ∧ vn = un ∧ ¬ vt = ut) := by
            simp only [Prod.mk.injEq] at hq
            by_cases h1 : vk = uk
            · by_cases h2 : vn = un
              · exact .inr (.inr ⟨h1, h2, fun h3 => hq ⟨h1.symm, h2.symm, h3.symm⟩⟩)
              · exact .inr (.inl ⟨h1, h2⟩)
            · exact .inl h1
          rw [hAdd_new _ _ _ _ hq] at hC hlen hne
          have ba : (R'.length + 1 + 1) * 32 ≤ 140737488355328 := by omega
          have bb : (R'.length + 1 + 1) * 8 ≤ 140737488355328 := by omega
          have wj2 : IntKind.i64.wrap (((R'.length + 1 + 1 : Nat) : Int) - 1) = ((R'.length + 1 : Nat) : Int) := by rw [i64_wrap (by omega) (by omega)]; omega
          have je2 : ((R'.length + 1 : Nat) : Int).toNat = R'.length + 1 := Int.toNat_natCast _
          have j12 : (0 : Int) ≤ ((R'.length + 1 : Nat) : Int) := by omega
          have j22 : ((R'.length + 1 : Nat) : Int) < ((R'.length + 1 + 1 : Nat) : Int) := by omega
          have gn2 : (nums R' ++ [n] ++ [0]).getD (R'.length + 1) 0 = 0 := by simp [List.getD_eq_getElem?_getD, hnl]
          have sn2 : (nums R' ++ [n] ++ [0]).set (R'.length + 1) 1 = nums R' ++ [n] ++ [1] := by
            rw [← hnl, List.set_append_right _ _ (by simp)]
            simp
          have nl2 : (nums R' ++ [n] ++ [0]).length = R'.length + 1 + 1 := by simp [hnl]
          have fin : ∀ b3 b4, ¬ b3 = b4 → HB (.os b3 0 (R'.length + 1 + 1) 3) (.os b4 0 (R'.length + 1 + 1) 1) [(b3, .svs (vCs (vals R' ++ [(uk, un, ut)]) ++ vC (vk, vn, vt))), (b4, .ints .i64 (nums R' ++ [n] ++ [1]))] (R' ++ [((uk, un, ut), n)] ++ [((vk, vn, vt), 1)]) := fun b3 b4 h34 => by
            refine .inr ⟨hne, b3, b4, h34, by simp, by simp, ?_⟩
            have e1 : vals (R' ++ [((uk, un, ut), n)] ++ [((vk, vn, vt), 1)]) = vals R' ++ [(uk, un, ut)] ++ [(vk, vn, vt)] := by simp [vals]
            have e2 : nums (R' ++ [((uk, un, ut), n)] ++ [((vk, vn, vt), 1)]) = nums R' ++ [n] ++ [1] := by simp [nums]
            rw [e1, e2, vCs_snoc]
          have hNN : ∀ p ∈ R' ++ [((uk, un, ut), n)] ++ [((vk, vn, vt), (1 : Int))], 0 ≤ p.2 ∧ p.2 ≤ ((i + 1 : Nat) : Int) := fun p hp => by
            rcases List.mem_append.1 hp with hp | hp
            · have := hN p hp
              omega
            · rw [List.mem_singleton.1 hp]
              simp only
              omega
          have hlast : 0 < i + 1 → ∃ R'' n', R' ++ [((uk, un, ut), n)] ++ [((vk, vn, vt), (1 : Int))] = R'' ++ [(l.getD (i + 1 - 1) v0, n')] := fun _ => ⟨_, 1, by rw [Nat.add_sub_cancel, hv]⟩
          rcases ways with q1 | ⟨q0, q1⟩ | ⟨q0, q3, q1⟩
          · repeat' first | (with_reducible refine And.intro (by omega) ?_) | (refine SW.seq_k fun K hK => ?_) | (refine SW.block ?_) | ((first | refine SW.region ?_ | refine SW.regionZ (id := 10) (Checked.mixed Tryz.checked) ((.one 0 [0, 1, 2, 3, 4, 5, 6, 7, 8, 9, 10, 11, 12, 13] (.one 1 [1, 2, 3, 4, 5, 6, 7, 8, 9, 10, 11, 12, 13] (.one 2 [2, 3, 4, 5, 6, 7, 8, 9, 10, 11, 12, 13] (.one 3 [3, 5, 6, 12, 13] (.one 4 [4, 5, 6, 12, 13] (.one 5 [5, 6, 12, 13] (.one 6 [6, 12, 13] (.one 7 [7, 10, 11, 12, 13] (.one 8 [8, 9, 10, 11, 12, 13] (.one 9 [9, 10, 11, 12, 13] (.one 10 [10, 11, 12, 13] (.one 11 [11, 12, 13] (.one 12 [12, 13] (.one 13 [13] .done)))))))))))))) : OZ) (by kernel_rfl) ?_ | refine SW.regionD (Checked.mixed Tryz.checked) (by kernel_rfl) ?_ | refine SW.cond ?_ | refine SW.skip ?_ | refine SW.exit ?_ | refine SW.ret ?_ | (refine allF_i fun b hb => ?_; replace hD := And.intro hb hD; clear hb; try simp only [fresh_cons, fresh_nil, and_true, ne_eq, neF] at hD) | simp only [appK, appOsK]); try simp only [go_sem, hD, hli, ie, i0, w1, w01, tv, tu, wi, ui, ui0, uil, iz, wj, je, j1, j2, wj2, je2, j12, j22, gn2, sn2, nl2, true_implies, c0, hb, hb2, q1, ba, bb]) | (refine And.intro (by omega) ?_) | (refine ifI (fun hc => ?_) (fun hc => ?_) <;> first | (exfalso; omega) | skip) | ((first | apply hK | ((iterate 1 (clear hK K)); apply hK) | ((iterate 2 (clear hK K)); apply hK) | ((iterate 3 (clear hK K)); apply hK) | ((iterate 4 (clear hK K)); apply hK) | ((iterate 5 (clear hK K)); apply hK)); clear hK K) | (refine And.intro ?_ ?_)
            refine Rnd.le (St.le_two 8 9 rfl rfl (k := .svs (vCs (vals R' ++ [(uk, un, ut)]) ++ vC (vk, vn, vt))) (m := .ints .i64 (nums R' ++ [n] ++ [1])) ?_ ?_ ?_) ?_
            · repeat (first | exact List.mem_cons_self | apply List.mem_cons_of_mem)
            · repeat (first | exact List.mem_cons_self | apply List.mem_cons_of_mem)
            · simp [hD]
            refine Rnd.sub (l.length - (i + 1)) (by omega) ((hI _ _).2 ⟨i + 1, R' ++ [((uk, un, ut), n)] ++ [((vk, vn, vt), 1)], _, _, _, rfl, by omega, by simp; omega, hC, hNN, hlast, fin _ _ (by simp [hD]), rfl⟩) (by repeat' (first | exact rfl | exact trivial | exact int_eq (by omega) | exact int_eq (by (rw [i64_wrap] <;> omega)) | constructor))
          · have p0 := eq_true q0
            repeat' first | (with_reducible refine And.intro (by omega) ?_) | (refine SW.seq_k fun K hK => ?_) | (refine SW.block ?_) | ((first | refine SW.region ?_ | refine SW.regionZ (id := 10) (Checked.mixed Tryz.checked) ((.one 0 [0, 1, 2, 3, 4, 5, 6, 7, 8, 9, 10, 11, 12, 13] (.one 1 [1, 2, 3, 4, 5, 6, 7, 8, 9, 10, 11, 12, 13] (.one 2 [2, 3, 4, 5, 6, 7, 8, 9, 10, 11, 12, 13] (.one 3 [3, 5, 6, 12, 13] (.one 4 [4, 5, 6, 12, 13] (.one 5 [5, 6, 12, 13] (.one 6 [6, 12, 13] (.one 7 [7, 10, 11, 12, 13] (.one 8 [8, 9, 10, 11, 12, 13] (.one 9 [9, 10, 11, 12, 13] (.one 10 [10, 11, 12, 13] (.one 11 [11, 12, 13] (.one 12 [12, 13] (.one 13 [13] .done)))))))))))))) : OZ) (by kernel_rfl) ?_ | refine SW.regionD (Checked.mixed Tryz.checked) (by kernel_rfl) ?_ | refine SW.cond ?_ | refine SW.skip ?_ | refine SW.exit ?_ | refine SW.ret ?_ | (refine allF_i fun b hb => ?_; replace hD := And.intro hb hD; clear hb; try simp only [fresh_cons, fresh_nil, and_true, ne_eq, neF] at hD) | simp only [appK, appOsK]); try simp only [go_sem, hD, hli, ie, i0, w1, w01, tv, tu, wi, ui, ui0, uil, iz, wj, je, j1, j2, wj2, je2, j12, j22, gn2, sn2, nl2, true_implies, c0, hb, hb2, p0, q1, ba, bb]) | (refine And.intro (by omega) ?_) | (refine ifI (fun hc => ?_) (fun hc => ?_) <;> first | (exfalso; omega) | skip) | ((first | apply hK | ((iterate 1 (clear hK K)); apply hK) | ((iterate 2 (clear hK K)); apply hK) | ((iterate 3 (clear hK K)); apply hK) | ((iterate 4 (clear hK K)); apply hK) | ((iterate 5 (clear hK K)); apply hK)); clear hK K) | (refine And.intro ?_ ?_)
            refine Rnd.le (St.le_two 8 9 rfl rfl (k := .svs (vCs (vals R' ++ [(uk, un, ut)]) ++ vC (vk, vn, vt))) (m := .ints .i64 (nums R' ++ [n] ++ [1])) ?_ ?_ ?_) ?_
            · repeat (first | exact List.mem_cons_self | apply List.mem_cons_of_mem)
            · repeat (first | exact List.mem_cons_self | apply List.mem_cons_of_mem)
            · simp [hD]
            refine Rnd.sub (l.length - (i + 1)) (by omega) ((hI _ _).2 ⟨i + 1, R' ++ [((uk, un, ut), n)] ++ [((vk, vn, vt), 1)], _, _, _, rfl, by omega, by simp; omega, hC, hNN, hlast, fin _ _ (by simp [hD]), rfl⟩) (by repeat' (first | exact rfl | exact trivial | exact int_eq (by omega) | exact int_eq (by (rw [i64_wrap] <;> omega)) | constructor))
          · have q2 := str_ne q1
            have p0 := eq_true q0
            have p3 := eq_true q3
            repeat' first | (with_reducible refine And.intro (by omega) ?_) | (refine SW.seq_k fun K hK => ?_) | (refine SW.block ?_) | ((first | refine SW.region ?_ | refine SW.regionZ (id := 10) (Checked.mixed Tryz.checked) ((.one 0 [0, 1, 2, 3, 4, 5, 6, 7, 8, 9, 10, 11, 12, 13] (.one 1 [1, 2, 3, 4, 5, 6, 7, 8, 9, 10, 11, 12, 13] (.one 2 [2, 3, 4, 5, 6, 7, 8, 9, 10, 11, 12, 13] (.one 3 [3, 5, 6, 12, 13] (.one 4 [4, 5, 6, 12, 13] (.one 5 [5, 6, 12, 13] (.one 6 [6, 12, 13] (.one 7 [7, 10, 11, 12, 13] (.one 8 [8, 9, 10, 11, 12, 13] (.one 9 [9, 10, 11, 12, 13] (.one 10 [10, 11, 12, 13] (.one 11 [11, 12, 13] (.one 12 [12, 13] (.one 13 [13] .done)))))))))))))) : OZ) (by kernel_rfl) ?_ | refine SW.regionD (Checked.mixed Tryz.checked) (by kernel_rfl) ?_ | refine SW.cond ?_ | refine SW.skip ?_ | refine SW.exit ?_ | refine SW.ret ?_ | (refine allF_i fun b hb => ?_; replace hD := And.intro hb hD; clear hb; try simp only [fresh_cons, fresh_nil, and_true, ne_eq, neF] at hD) | simp only [appK, appOsK]); try simp only [go_sem, hD, hli, ie, i0, w1, w01, tv, tu, wi, ui, ui0, uil, iz, wj, je, j1, j2, wj2, je2, j12, j22, gn2, sn2, nl2, true_implies, c0, hb, hb2, p0, p3, q2, ba, bb]) | (refine And.intro (by omega) ?_) | (refine ifI (fun hc => ?_) (fun hc => ?_) <;> first | (exfalso; omega) | skip) | ((first | apply hK | ((iterate 1 (clear hK K)); apply hK) | ((iterate 2 (clear hK K)); apply hK) | ((iterate 3 (clear hK K)); apply hK) | ((iterate 4 (clear hK K)); apply hK) | ((iterate 5 (clear hK K)); apply hK)); clear hK K) | (refine And.intro ?_ ?_)
            refine Rnd.le (St.le_two 8 9 rfl rfl (k := .svs (vCs (vals R' ++ [(uk, un, ut)]) ++ vC (vk, vn, vt))) (m := .ints .i64 (nums R' ++ [n] ++ [1])) ?_ ?_ ?_) ?_
            · repeat (first | exact List.mem_cons_self | apply List.mem_cons_of_mem)
            · repeat (first | exact List.mem_cons_self | apply List.mem_cons_of_mem)
            · simp [hD]
            refine Rnd.sub (l.length - (i + 1)) (by omega) ((hI _ _).2 ⟨i + 1, R' ++ [((uk, un, ut), n)] ++ [((vk, vn, vt), 1)], _, _, _, rfl, by omega, by simp; omega, hC, hNN, hlast, fin _ _ (by simp [hD]), rfl⟩) (by repeat' (first | exact rfl | exact trivial | exact int_eq (by omega) | exact int_eq (by (rw [i64_wrap] <;> omega)) | constructor))
  · have hli : ¬ ((i : Nat) : Int) < (((l.length) : Nat) : Int) := by omega
    obtain rfl : i = l.length := by omega
    rw [List.drop_length, List.foldl_nil] at hC
    subst hC
    rcases hB with ⟨rfl, rfl, rfl, rfl⟩ | ⟨hR0, b1, b2, hb, rfl, rfl, rfl⟩
    · repeat' first | (with_reducible refine And.intro (by omega) ?_) | (refine SW.seq_k fun K hK => ?_) | (refine SW.block ?_) | ((first | refine SW.region ?_ | refine SW.regionD (Checked.mixed Tryz.checked) (by kernel_rfl) ?_ | refine SW.cond ?_ | refine SW.skip ?_ | refine SW.exit ?_ | refine SW.ret ?_ | (refine allF_i fun b hb => ?_; replace hD := And.intro hb hD; clear hb; try simp only [fresh_cons, fresh_nil, and_true, ne_eq, neF] at hD) | simp only [appK, appOsK]); try simp only [go_sem, hD, hli]) | (refine And.intro (by omega) ?_) | (refine ifI (fun hc => ?_) (fun hc => ?_) <;> first | (exfalso; omega) | skip) | ((first | apply hK | ((iterate 1 (clear hK K)); apply hK) | ((iterate 2 (clear hK K)); apply hK) | ((iterate 3 (clear hK K)); apply hK) | ((iterate 4 (clear hK K)); apply hK) | ((iterate 5 (clear hK K)); apply hK)); clear hK K)
      refine retQ_le ((St.le_nil_fl (i := 4) (sz := 3) (f := vF []) rfl).trans (St.le_nil_fl (i := 5) (sz := 1) (f := fun j => [I64 (([] : List Int).getD j 0)]) rfl)) ?_
      simp only [resL_tmp, resL_nil, tupOf, go_sem, hD]
      rfl
    · have e2 := vCs_len (vals X)
      have e3 : (vals X).length = X.length := by simp [vals]
      have e4 : (nums X).length = X.length := by simp [nums]
      rw [e3] at e2
      repeat' first | (with_reducible refine And.intro (by omega) ?_) | (refine SW.seq_k fun K hK => ?_) | (refine SW.block ?_) | ((first | refine SW.region ?_ | refine SW.regionD (Checked.mixed Tryz.checked) (by kernel_rfl) ?_ | refine SW.cond ?_ | refine SW.skip ?_ | refine SW.exit ?_ | refine SW.ret ?_ | (refine allF_i fun b hb => ?_; replace hD := And.intro hb hD; clear hb; try simp only [fresh_cons, fresh_nil, and_true, ne_eq, neF] at hD) | simp only [appK, appOsK]); try simp only [go_sem, hD, hli]) | (refine And.intro (by omega) ?_) | (refine ifI (fun hc => ?_) (fun hc => ?_) <;> first | (exfalso; omega) | skip) | ((first | apply hK | ((iterate 1 (clear hK K)); apply hK) | ((iterate 2 (clear hK K)); apply hK) | ((iterate 3 (clear hK K)); apply hK) | ((iterate 4 (clear hK K)); apply hK) | ((iterate 5 (clear hK K)); apply hK)); clear hK K)
      refine retQ_le ((St.le_acc_fl (i := 4) (n := X.length) (sz := 3) (x := .os b1 0 X.length 3) (h := [(b1, .svs (vCs (vals X))), (b2, .ints .i64 (nums X))]) (h0 := [(b2, .ints .i64 (nums X))]) rfl (.inr ⟨b1, .svs (vCs (vals X)), by simp [fresh_cons, fresh_nil, hb, Ne.symm hb], rfl, e2, rfl, rfl⟩) (vF (vals X)) (fun j hj => vCs_at (vals X) j (by omega))).trans (St.le_acc_fl (i := 5) (n := X.length) (sz := 1) (x := .os b2 0 X.length 1) (h := [(b2, .ints .i64 (nums X))]) (h0 := []) rfl (.inr ⟨b2, .ints .i64 (nums X), by simp [fresh_nil], rfl, by simp [Blk.cells, e4], rfl, rfl⟩) (fun j => [I64 ((nums X).getD j 0)]) (fun j hj => ?_))) ?_
      · have : j < (nums X).length := by omega
        simp only [Blk.cells, Nat.mul_one]
        rw [List.drop_eq_getElem_cons (by rw [List.length_map]; exact this), List.take_succ_cons, List.take_zero, List.getElem_map]
        simp [this]
      · simp only [resL_tmp, resL_nil, tupOf, go_sem, hD]
        unfold VL NL ints
        rw [e3, e4]
end Go.Proofs.YtddkacbcecedaaaGreatDoor
