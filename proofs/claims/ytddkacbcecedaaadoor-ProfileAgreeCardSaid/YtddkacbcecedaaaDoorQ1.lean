/- slices.Clone and slices.Reverse of a recipe's rows. -/
import Derived.Test.YtddkacbcecedaaaDoorM4
import Derived.Test.YtddkacbcecedaaaDoorM3
import Derived.Test.YtddkacbcecedaaaDoorZ14
set_option linter.unusedSimpArgs false
set_option linter.unusedVariables false
set_option linter.unusedSectionVars false
namespace Go.Proofs.YtddkacbcecedaaaDoor
open Go Go.Ab Go.Ab.A34
variable [Gl] [Tabs]
def uC (r : List Int) : List SV := [UL r]
theorem fl_uC (l : List (List Int)) : flCells (fun i => [UL (l.getD i [])]) l.length = fC uC l := by
  have e : l = (List.range l.length).map fun i => l.getD i [] := by
    refine List.ext_getElem (by simp) fun i h1 h2 => ?_
    simp [List.getD_eq_getElem?_getD, h1]
  unfold flCells fC
  conv => rhs; rw [e]
  rw [List.flatMap_map]
  rfl
theorem uC_len (r : List Int) : (uC r).length = 1 := rfl

set_option maxHeartbeats 1000000 in
set_option maxRecDepth 20000 in
theorem clone_c (l : List (List Int)) (hl : l.length ≤ 1000) : Ab.Call Tryd.prog 25 [UU l] [] (fun r h' => (l = [] ∧ r = .sc (.slice none 0 0) ∧ h' = []) ∨ ∃ b, r = .os b 0 l.length 1 ∧ h' = [(b, .svs (fC uC l))]) := by
  refine Call.enter' (N := 8) (rs := [.tmp 2]) Tryd.func25 rfl rfl rfl (by decide) rfl ?_; simp only [argT]; have hD : (0 : Nat) = 0 := rfl
  refine SW.seq_k fun K0 hK0 => ?_
  refine SW.region ?_
  simp only [go_sem, hD]
  refine hK0 _ ?_
  clear hK0 K0
  refine SW.seq_k fun K hK => ?_
  refine SW.seq_k fun K2 hK2 => ?_
  refine SW.region_nil (i := 0) (j := 3) (k := 4) rfl rfl rfl rfl rfl rfl Tryd.underlying23 rfl (by decide) (by decide) (fun hn => ?_) ?_
  · refine hK2 _ ?_
    clear hK2 K2
    have hl0 : l = [] := List.eq_nil_of_length_eq_zero hn
    subst hl0
    repeat' first | (with_reducible refine And.intro (by omega) ?_) | (refine SW.seq_k fun K hK => ?_) | (refine SW.block ?_) | ((first | refine SW.region ?_ | refine SW.regionD (Checked.mixed Tryd.checked) (by kernel_rfl) ?_ | refine SW.cond ?_ | refine SW.skip ?_ | refine SW.exit ?_ | refine SW.ret ?_ | (refine allF_i fun b hb => ?_; replace hD := And.intro hb hD; clear hb; try simp only [fresh_cons, fresh_nil, and_true, ne_eq, neF] at hD) | simp only [appK, appOsK]); try simp only [go_sem, hD]) | (refine And.intro (by omega) ?_) | (refine ifI (fun hc => ?_) (fun hc => ?_) <;> first | (exfalso; omega) | skip) | ((first | apply hK | ((iterate 1 (clear hK K)); apply hK) | ((iterate 2 (clear hK K)); apply hK) | ((iterate 3 (clear hK K)); apply hK) | ((iterate 4 (clear hK K)); apply hK) | ((iterate 5 (clear hK K)); apply hK)); clear hK K)
    refine retQ_le (fun M w0 D N a w r => r) ?_
    simp only [resL_tmp, resL_nil, tupOf, go_sem, hD]
    try exact .inl ⟨rfl, rfl, rfl⟩
  · refine hK2 _ ?_
    clear hK2 K2
    repeat' first | (with_reducible refine And.intro (by omega) ?_) | (refine SW.seq_k fun K hK => ?_) | (refine SW.block ?_) | ((first | refine SW.region ?_ | refine SW.regionD (Checked.mixed Tryd.checked) (by kernel_rfl) ?_ | refine SW.cond ?_ | refine SW.skip ?_ | refine SW.exit ?_ | refine SW.ret ?_ | (refine allF_i fun b hb => ?_; replace hD := And.intro hb hD; clear hb; try simp only [fresh_cons, fresh_nil, and_true, ne_eq, neF] at hD) | simp only [appK, appOsK]); try simp only [go_sem, hD]) | (refine And.intro (by omega) ?_) | (refine ifI (fun hc => ?_) (fun hc => ?_) <;> first | (exfalso; omega) | skip) | ((first | apply hK | ((iterate 1 (clear hK K)); apply hK) | ((iterate 2 (clear hK K)); apply hK) | ((iterate 3 (clear hK K)); apply hK) | ((iterate 4 (clear hK K)); apply hK) | ((iterate 5 (clear hK K)); apply hK)); clear hK K)
    rw [fl_uC]
    refine ⟨?_, by omega, by omega, allF_i fun b' hb' => ?_⟩
    · rw [List.all_eq_true]
      intro x hx
      obtain ⟨r, _, hr⟩ := List.mem_flatMap.1 hx
      rw [List.mem_singleton.1 hr]
      rfl
    · apply hK
      clear hK K
      repeat' first | (with_reducible refine And.intro (by omega) ?_) | (refine SW.seq_k fun K hK => ?_) | (refine SW.block ?_) | ((first | refine SW.region ?_ | refine SW.regionD (Checked.mixed Tryd.checked) (by kernel_rfl) ?_ | refine SW.cond ?_ | refine SW.skip ?_ | refine SW.exit ?_ | refine SW.ret ?_ | (refine allF_i fun b hb => ?_; replace hD := And.intro hb hD; clear hb; try simp only [fresh_cons, fresh_nil, and_true, ne_eq, neF] at hD) | simp only [appK, appOsK]); try simp only [go_sem, hD]) | (refine And.intro (by omega) ?_) | (refine ifI (fun hc => ?_) (fun hc => ?_) <;> first | (exfalso; omega) | skip) | ((first | apply hK | ((iterate 1 (clear hK K)); apply hK) | ((iterate 2 (clear hK K)); apply hK) | ((iterate 3 (clear hK K)); apply hK) | ((iterate 4 (clear hK K)); apply hK) | ((iterate 5 (clear hK K)); apply hK)); clear hK K)
      refine retQ_le (fun M w0 D N a w r => r) ?_
      simp only [resL_tmp, resL_nil, tupOf, go_sem, hD]
      exact .inr ⟨_, rfl, rfl⟩

theorem uC_map (L : List (List Int)) : fC uC L = L.map UL := by
  unfold fC
  induction L with
  | nil => rfl
  | cons x r ih => rw [List.flatMap_cons, ih]; rfl
theorem uC_get (L : List (List Int)) (j : Nat) (h : j < L.length) : (fC uC L).getD j .any = UL (L.getD j []) := by
  rw [uC_map]
  simp [List.getD_eq_getElem?_getD, h]
theorem uC_set (L : List (List Int)) (j : Nat) (r : List Int) : (fC uC L).set j (UL r) = fC uC (L.set j r) := by
  rw [uC_map, uC_map, List.map_set]
def revK (l : List (List Int)) (i : Nat) : List (List Int) := (List.range l.length).map fun k => if k < i ∨ l.length ≤ k + i then l.getD (l.length - 1 - k) [] else l.getD k []
theorem revK_len (l : List (List Int)) (i : Nat) : (revK l i).length = l.length := by unfold revK; simp
theorem revK_get (l : List (List Int)) (i k : Nat) (h : k < l.length) : (revK l i).getD k [] = if k < i ∨ l.length ≤ k + i then l.getD (l.length - 1 - k) [] else l.getD k [] := by
  unfold revK
  simp [List.getD_eq_getElem?_getD, h]
theorem revK_el (l : List (List Int)) (i k : Nat) (h : k < (revK l i).length) : (revK l i)[k] = if k < i ∨ l.length ≤ k + i then l.getD (l.length - 1 - k) [] else l.getD k [] := by
  unfold revK
  simp
theorem revK_zero (l : List (List Int)) : revK l 0 = l := by
  refine List.ext_getElem (revK_len l 0) fun k h1 h2 => ?_
  rw [revK_el, if_neg (by omega)]
  simp [List.getD_eq_getElem?_getD, h2]
theorem revK_end (l : List (List Int)) : revK l (l.length / 2) = l.reverse := by
  refine List.ext_getElem (by rw [revK_len, List.length_reverse]) fun k h1 h2 => ?_
  rw [revK_len] at h1
  rw [revK_el, List.getElem_reverse]
  have h3 : l.length - 1 - k < l.length := by omega
  by_cases c : k < l.length / 2 ∨ l.length ≤ k + l.length / 2
  · rw [if_pos c]
    simp [List.getD_eq_getElem?_getD, h3]
  · rw [if_neg c]
    have e : l.length - 1 - k = k := by omega
    simp only [e]
    simp [List.getD_eq_getElem?_getD, h1]
theorem revK_step (l : List (List Int)) (i : Nat) (h : i < l.length / 2) : ((revK l i).set i (l.getD (l.length - 1 - i) [])).set (l.length - 1 - i) (l.getD i []) = revK l (i + 1) := by
  refine List.ext_getElem (by simp [revK_len]) fun k h1 h2 => ?_
  rw [revK_len] at h2
  rw [revK_el, List.getElem_set, List.getElem_set, revK_el]
  by_cases c1 : l.length - 1 - i = k
  · rw [if_pos c1, if_pos (by omega), ← c1]
    congr 1
    omega
  · rw [if_neg c1]
    by_cases c2 : i = k
    · subst c2
      rw [if_pos rfl, if_pos (by omega)]
    · rw [if_neg c2]
      by_cases c3 : k < i ∨ l.length ≤ k + i
      · rw [if_pos c3, if_pos (by omega)]
      · rw [if_neg c3, if_neg (by omega)]
theorem revK_step' (l : List (List Int)) (i : Nat) (h : i < l.length / 2) : ((revK l i).set (l.length - 1 - i) (l.getD i [])).set i (l.getD (l.length - 1 - i) []) = revK l (i + 1) := by
  rw [← revK_step l i h]
  exact List.set_comm _ _ (by omega)

set_option maxHeartbeats 1000000 in
set_option maxRecDepth 20000 in
theorem rev_c (g : Nat) (l : List (List Int)) (hl : l.length ≤ 1000) : Ab.Call Tryd.prog 26 [.os g 0 l.length 1] [(g, .svs (fC uC l))] (fun r h' => r = .tup [] ∧ h' = [(g, .svs (fC uC l.reverse))]) := by
  have w0 : IntKind.i64.wrap (((l.length : Nat) : Int) - 1) = ((l.length : Nat) : Int) - 1 - ((0 : Nat) : Int) := by rw [i64_wrap (by omega) (by omega)]; omega
  suffices key : Ab.Call Tryd.prog 26 [.os g 0 l.length 1] [(g, .svs (fC uC (revK l 0)))] (fun r h' => r = .tup [] ∧ h' = [(g, .svs (fC uC l.reverse))]) by
    rwa [revK_zero] at key
  refine Call.enter' (N := 28) (rs := []) Tryd.func26 rfl rfl rfl (by decide) rfl ?_; simp only [argT]; have hD : (0 : Nat) = 0 := rfl
  repeat' first | (with_reducible refine And.intro (by omega) ?_) | (refine SW.seq_k fun K hK => ?_) | (refine SW.block ?_) | ((first | refine SW.region ?_ | refine SW.regionD (Checked.mixed Tryd.checked) (by kernel_rfl) ?_ | refine SW.cond ?_ | refine SW.skip ?_ | refine SW.exit ?_ | refine SW.ret ?_ | (refine allF_i fun b hb => ?_; replace hD := And.intro hb hD; clear hb; try simp only [fresh_cons, fresh_nil, and_true, ne_eq, neF] at hD) | simp only [appK, appOsK]); try simp only [go_sem, hD, w0]) | (refine And.intro (by omega) ?_) | (refine ifI (fun hc => ?_) (fun hc => ?_) <;> first | (exfalso; omega) | skip) | ((first | apply hK | ((iterate 1 (clear hK K)); apply hK) | ((iterate 2 (clear hK K)); apply hK) | ((iterate 3 (clear hK K)); apply hK) | ((iterate 4 (clear hK K)); apply hK) | ((iterate 5 (clear hK K)); apply hK)); clear hK K)
  obtain ⟨I, hI⟩ : ∃ I : Nat → St → Prop, ∀ k S, I k S ↔ (∃ (i : Nat) , k = l.length / 2 - i ∧ i ≤ l.length / 2 ∧ S = ⟨[(0, .os g 0 l.length 1), (2, I64 i), (3, .sc (.int .i64 (((l.length : Nat) : Int) - 1 - (i : Int))))], [(g, .svs (fC uC (revK l i)))]⟩) := ⟨fun k S => _, fun _ _ => Iff.rfl⟩
  refine SW.loop' I (l.length / 2) ((hI _ _).2 ⟨0, rfl, Nat.zero_le _, rfl⟩) (by repeat' (first | exact rfl | exact trivial | exact int_eq (by omega) | exact int_eq (by (rw [i64_wrap] <;> omega)) | constructor)) ?_
  intro k S hIn
  obtain ⟨i, rfl, hi, rfl⟩ := (hI _ _).1 hIn
  clear hIn
  have ie : ((i : Nat) : Int).toNat = i := Int.toNat_natCast _
  have i0 : (0 : Int) ≤ ((i : Nat) : Int) := by omega
  by_cases hlt : i < l.length / 2
  · have hli : (i : Int) < ((l.length : Nat) : Int) - 1 - (i : Int) := by omega
    have w1 : IntKind.i64.wrap ((i : Int) + 1) = ((i + 1 : Nat) : Int) := by rw [i64_wrap (by omega) (by omega)]; omega
    have w2 : IntKind.i64.wrap (((l.length : Nat) : Int) - 1 - (i : Int) - 1) = ((l.length : Nat) : Int) - 1 - ((i + 1 : Nat) : Int) := by rw [i64_wrap (by omega) (by omega)]; omega
    have jn : (((l.length : Nat) : Int) - 1 - (i : Int)).toNat = l.length - 1 - i := by omega
    have j0 : (0 : Int) ≤ ((l.length : Nat) : Int) - 1 - (i : Int) := by omega
    have jl : ((l.length : Nat) : Int) - 1 - (i : Int) < ((l.length : Nat) : Int) := by omega
    have il : (i : Int) < ((l.length : Nat) : Int) := by omega
    have kl : (fC uC (revK l i)).length = l.length := by rw [uC_map, List.length_map, revK_len]
    have g1 : (fC uC (revK l i)).getD i .any = UL (l.getD i []) := by rw [uC_get _ _ (by rw [revK_len]; omega), revK_get _ _ _ (by omega), if_neg (by omega)]
    have g2 : (fC uC (revK l i)).getD (l.length - 1 - i) .any = UL (l.getD (l.length - 1 - i) []) := by rw [uC_get _ _ (by rw [revK_len]; omega), revK_get _ _ _ (by omega), if_neg (by omega)]
    have s1 : ((fC uC (revK l i)).set i (UL (l.getD (l.length - 1 - i) []))).set (l.length - 1 - i) (UL (l.getD i [])) = fC uC (revK l (i + 1)) := by rw [uC_set, uC_set, revK_step l i hlt]
    have s2 : ((fC uC (revK l i)).set (l.length - 1 - i) (UL (l.getD i []))).set i (UL (l.getD (l.length - 1 - i) [])) = fC uC (revK l (i + 1)) := by rw [uC_set, uC_set, revK_step' l i hlt]
    have b1 : i < l.length := by omega
    have b2 : l.length - 1 - i < l.length := by omega
    repeat' first | (with_reducible refine And.intro (by omega) ?_) | (refine SW.seq_k fun K hK => ?_) | (refine SW.block ?_) | ((first | refine SW.region ?_ | refine SW.regionZ (id := 3) (Checked.mixed Tryd.checked) ((.one 0 [0, 12, 13, 14, 15] (.one 1 [1, 12, 13, 14, 15] (.one 4 [4, 6, 7, 12, 13, 14, 15] (.one 5 [5, 6, 7, 12, 13, 14, 15] (.one 6 [6, 7, 12, 13, 14, 15] (.one 7 [7, 12, 13, 14, 15] (.one 8 [8, 10, 11, 12, 13, 14, 15] (.one 9 [9, 10, 11, 12, 13, 14, 15] (.one 10 [10, 11, 12, 13, 14, 15] (.one 11 [11, 12, 13, 14, 15] (.one 12 [12, 13, 14, 15] (.alt 2 (.alt 3 (.alt 13 (.one 14 [14, 15] (.alt 15 .done .nil)) .nil) (.alt 13 (.one 3 [3, 14, 15] (.one 14 [14, 15] (.alt 15 .done .nil))) .nil)) (.alt 3 (.alt 2 (.alt 13 (.one 14 [14, 15] (.alt 15 .done .nil)) .nil) (.alt 13 (.one 2 [2, 14, 15] (.one 14 [14, 15] (.alt 15 .done .nil))) .nil)) (.alt 13 (.one 2 [2, 14, 15] (.one 3 [3, 14, 15] (.one 14 [14, 15] (.alt 15 .done .nil)))) .nil)))))))))))))) : OZ) (by kernel_rfl) ?_ | refine SW.regionD (Checked.mixed Tryd.checked) (by kernel_rfl) ?_ | refine SW.cond ?_ | refine SW.skip ?_ | refine SW.exit ?_ | refine SW.ret ?_ | (refine allF_i fun b hb => ?_; replace hD := And.intro hb hD; clear hb; try simp only [fresh_cons, fresh_nil, and_true, ne_eq, neF] at hD) | simp only [appK, appOsK]); try simp only [go_sem, hD, hli, w1, w2, jn, j0, jl, il, ie, i0, kl, g1, g2, b1, b2, true_implies]) | (refine And.intro (by omega) ?_) | (refine ifI (fun hc => ?_) (fun hc => ?_) <;> first | (exfalso; omega) | skip) | ((first | apply hK | ((iterate 1 (clear hK K)); apply hK) | ((iterate 2 (clear hK K)); apply hK) | ((iterate 3 (clear hK K)); apply hK) | ((iterate 4 (clear hK K)); apply hK) | ((iterate 5 (clear hK K)); apply hK)); clear hK K) | (refine And.intro ?_ ?_)
    all_goals
      first | rw [s1] | rw [s2]
      refine Rnd.sub (l.length / 2 - (i + 1)) (by omega) ((hI _ _).2 ⟨i + 1, rfl, by omega, rfl⟩) (by repeat' (first | exact rfl | exact trivial | exact int_eq (by omega) | exact int_eq (by (rw [i64_wrap] <;> omega)) | constructor))
  · have hli : ¬ (i : Int) < ((l.length : Nat) : Int) - 1 - (i : Int) := by omega
    obtain rfl : i = l.length / 2 := by omega
    rw [revK_end]
    repeat' first | (with_reducible refine And.intro (by omega) ?_) | (refine SW.seq_k fun K hK => ?_) | (refine SW.block ?_) | ((first | refine SW.region ?_ | refine SW.regionD (Checked.mixed Tryd.checked) (by kernel_rfl) ?_ | refine SW.cond ?_ | refine SW.skip ?_ | refine SW.exit ?_ | refine SW.ret ?_ | (refine allF_i fun b hb => ?_; replace hD := And.intro hb hD; clear hb; try simp only [fresh_cons, fresh_nil, and_true, ne_eq, neF] at hD) | simp only [appK, appOsK]); try simp only [go_sem, hD, hli, true_implies]) | (refine And.intro (by omega) ?_) | (refine ifI (fun hc => ?_) (fun hc => ?_) <;> first | (exfalso; omega) | skip) | ((first | apply hK | ((iterate 1 (clear hK K)); apply hK) | ((iterate 2 (clear hK K)); apply hK) | ((iterate 3 (clear hK K)); apply hK) | ((iterate 4 (clear hK K)); apply hK) | ((iterate 5 (clear hK K)); apply hK)); clear hK K)
    refine ⟨_, fun M w0 D N a w r => r, ?_⟩
    simp only [resL_nil, tupOf, go_sem, hD]
    try exact ⟨rfl, rfl⟩
theorem rev_n : PCall Tryd.prog 26 [.sc (.slice none 0 0)] (.tup []) := by
  have w0 : IntKind.i64.wrap ((0 : Int) - 1) = -1 := by decide
  refine Call.enter' (N := 28) (rs := []) Tryd.func26 rfl rfl rfl (by decide) rfl ?_; simp only [argT]; have hD : (0 : Nat) = 0 := rfl
  repeat' first | (with_reducible refine And.intro (by omega) ?_) | (refine SW.seq_k fun K hK => ?_) | (refine SW.block ?_) | ((first | refine SW.region ?_ | refine SW.regionD (Checked.mixed Tryd.checked) (by kernel_rfl) ?_ | refine SW.cond ?_ | refine SW.skip ?_ | refine SW.exit ?_ | refine SW.ret ?_ | (refine allF_i fun b hb => ?_; replace hD := And.intro hb hD; clear hb; try simp only [fresh_cons, fresh_nil, and_true, ne_eq, neF] at hD) | simp only [appK, appOsK]); try simp only [go_sem, hD, w0]) | (refine And.intro (by omega) ?_) | (refine ifI (fun hc => ?_) (fun hc => ?_) <;> first | (exfalso; omega) | skip) | ((first | apply hK | ((iterate 1 (clear hK K)); apply hK) | ((iterate 2 (clear hK K)); apply hK) | ((iterate 3 (clear hK K)); apply hK) | ((iterate 4 (clear hK K)); apply hK) | ((iterate 5 (clear hK K)); apply hK)); clear hK K)
  obtain ⟨I, hI⟩ : ∃ I : Nat → St → Prop, ∀ k S, I k S ↔ (∃ (i : Nat) , k = 0 - i ∧ i ≤ 0 ∧ S = ⟨[(0, .sc (.slice none 0 0)), (2, I64 0), (3, .sc (.int .i64 (-1)))], []⟩) := ⟨fun k S => _, fun _ _ => Iff.rfl⟩
  refine SW.loop' I (0) ((hI _ _).2 ⟨0, rfl, Nat.zero_le _, rfl⟩) (by repeat' (first | exact rfl | exact trivial | exact int_eq (by omega) | exact int_eq (by (rw [i64_wrap] <;> omega)) | constructor)) ?_
  intro k S hIn
  obtain ⟨i, rfl, hi, rfl⟩ := (hI _ _).1 hIn
  clear hIn
  have ie : ((i : Nat) : Int).toNat = i := Int.toNat_natCast _
  have i0 : (0 : Int) ≤ ((i : Nat) : Int) := by omega
  repeat' first | (with_reducible refine And.intro (by omega) ?_) | (refine SW.seq_k fun K hK => ?_) | (refine SW.block ?_) | ((first | refine SW.region ?_ | refine SW.regionD (Checked.mixed Tryd.checked) (by kernel_rfl) ?_ | refine SW.cond ?_ | refine SW.skip ?_ | refine SW.exit ?_ | refine SW.ret ?_ | (refine allF_i fun b hb => ?_; replace hD := And.intro hb hD; clear hb; try simp only [fresh_cons, fresh_nil, and_true, ne_eq, neF] at hD) | simp only [appK, appOsK]); try simp only [go_sem, hD]) | (refine And.intro (by omega) ?_) | (refine ifI (fun hc => ?_) (fun hc => ?_) <;> first | (exfalso; omega) | skip) | ((first | apply hK | ((iterate 1 (clear hK K)); apply hK) | ((iterate 2 (clear hK K)); apply hK) | ((iterate 3 (clear hK K)); apply hK) | ((iterate 4 (clear hK K)); apply hK) | ((iterate 5 (clear hK K)); apply hK)); clear hK K)
  refine ret_pure ?_; simp only [resL_tmp, resL_nil, tupOf, go_sem, hD]
end Go.Proofs.YtddkacbcecedaaaDoor
