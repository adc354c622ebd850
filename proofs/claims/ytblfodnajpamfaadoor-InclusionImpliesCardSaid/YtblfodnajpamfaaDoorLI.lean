/- The law of implication: the walk. -/
import Derived.Test.YtblfodnajpamfaaDoorQ7
set_option linter.unusedSimpArgs false
set_option linter.unusedVariables false
set_option linter.unusedSectionVars false
namespace Go.Proofs.YtblfodnajpamfaaDoor
open Go Go.Ab Go.Ab.A34 Go.Ab.A15
variable [Gl] [Tabs]
set_option maxHeartbeats 2000000 in
set_option maxRecDepth 20000 in
theorem law_implies (d : List Rc) (l : List Lk) (g : Lk) (hd : OkRcs d) (hdl : d.length ≤ 9223372036854775807) (hl : OkKs l) (hg : OkK g) :
    PCall Tryd.prog 3 [RcL d, LkL l, LkV g] (SB true) := by
  have of := of_r d hd hdl
  have aw := awake_c
  obtain ⟨gf, gt, gl, gr⟩ := g
  rcases draft_cases d l with h1 | ⟨h1, h2⟩ | ⟨h1, h5, h0, h3⟩ | ⟨h1, h5, h0, h3⟩
  · rw [ofV_bad h1] at of
    have li := list_nil l
    refine Call.enter' (N := 56) (rs := [.tmp 6]) Tryd.func3 rfl rfl rfl (by decide) rfl ?_; simp only [argT]; have hD : (0 : Nat) = 0 := rfl
    repeat' first | (with_reducible refine And.intro (by omega) ?_) | (refine SW.seq_k fun K hK => ?_) | (refine SW.block ?_) | ((first | refine SW.region ?_ | refine SW.regionD (Checked.mixed Tryd.checked) (by kernel_rfl) ?_ | refine SW.cond ?_ | refine SW.skip ?_ | refine SW.exit ?_ | refine SW.ret ?_ | refine Call.of_pure (of) ?_ | refine ⟨_, of, ?_⟩ | refine Call.of_pure (li) ?_ | refine ⟨_, li, ?_⟩ | refine Call.of_pure (aw) ?_ | refine ⟨_, aw, ?_⟩ | (refine allF_i fun b hb => ?_; replace hD := And.intro hb hD; clear hb; try simp only [fresh_cons, fresh_nil, and_true, ne_eq, neF] at hD) | simp only [appK, appOsK]); try simp only [go_sem, hD, true_implies]) | (refine And.intro (by omega) ?_) | (refine ifI (fun hc => ?_) (fun hc => ?_) <;> first | (exfalso; omega) | skip) | ((first | apply hK | ((iterate 1 (clear hK K)); apply hK) | ((iterate 2 (clear hK K)); apply hK) | ((iterate 3 (clear hK K)); apply hK) | ((iterate 4 (clear hK K)); apply hK) | ((iterate 5 (clear hK K)); apply hK)); clear hK K)
    refine ret_pure ?_; simp only [resL_tmp, resL_nil, tupOf, go_sem, hD]
  · rw [ofV_good h1] at of
    have li := list_bad (ofT d) l h2
    generalize ofT d = db at *
    generalize decide (d.length ≤ 3) = D3 at *
    cases D3
    · refine Call.enter' (N := 56) (rs := [.tmp 6]) Tryd.func3 rfl rfl rfl (by decide) rfl ?_; simp only [argT]; have hD : (0 : Nat) = 0 := rfl
      repeat' first | (with_reducible refine And.intro (by omega) ?_) | (refine SW.seq_k fun K hK => ?_) | (refine SW.block ?_) | ((first | refine SW.region ?_ | refine SW.regionD (Checked.mixed Tryd.checked) (by kernel_rfl) ?_ | refine SW.cond ?_ | refine SW.skip ?_ | refine SW.exit ?_ | refine SW.ret ?_ | refine Call.of_pure (of) ?_ | refine ⟨_, of, ?_⟩ | refine Call.of_pure (li) ?_ | refine ⟨_, li, ?_⟩ | refine Call.of_pure (aw) ?_ | refine ⟨_, aw, ?_⟩ | (refine allF_i fun b hb => ?_; replace hD := And.intro hb hD; clear hb; try simp only [fresh_cons, fresh_nil, and_true, ne_eq, neF] at hD) | simp only [appK, appOsK]); try simp only [go_sem, hD, true_implies]) | (refine And.intro (by omega) ?_) | (refine ifI (fun hc => ?_) (fun hc => ?_) <;> first | (exfalso; omega) | skip) | ((first | apply hK | ((iterate 1 (clear hK K)); apply hK) | ((iterate 2 (clear hK K)); apply hK) | ((iterate 3 (clear hK K)); apply hK) | ((iterate 4 (clear hK K)); apply hK) | ((iterate 5 (clear hK K)); apply hK)); clear hK K)
      refine ret_pure ?_; simp only [resL_tmp, resL_nil, tupOf, go_sem, hD]
    · refine Call.enter' (N := 56) (rs := [.tmp 6]) Tryd.func3 rfl rfl rfl (by decide) rfl ?_; simp only [argT]; have hD : (0 : Nat) = 0 := rfl
      repeat' first | (with_reducible refine And.intro (by omega) ?_) | (refine SW.seq_k fun K hK => ?_) | (refine SW.block ?_) | ((first | refine SW.region ?_ | refine SW.regionD (Checked.mixed Tryd.checked) (by kernel_rfl) ?_ | refine SW.cond ?_ | refine SW.skip ?_ | refine SW.exit ?_ | refine SW.ret ?_ | refine Call.of_pure (of) ?_ | refine ⟨_, of, ?_⟩ | refine Call.of_pure (li) ?_ | refine ⟨_, li, ?_⟩ | refine Call.of_pure (aw) ?_ | refine ⟨_, aw, ?_⟩ | (refine allF_i fun b hb => ?_; replace hD := And.intro hb hD; clear hb; try simp only [fresh_cons, fresh_nil, and_true, ne_eq, neF] at hD) | simp only [appK, appOsK]); try simp only [go_sem, hD, true_implies]) | (refine And.intro (by omega) ?_) | (refine ifI (fun hc => ?_) (fun hc => ?_) <;> first | (exfalso; omega) | skip) | ((first | apply hK | ((iterate 1 (clear hK K)); apply hK) | ((iterate 2 (clear hK K)); apply hK) | ((iterate 3 (clear hK K)); apply hK) | ((iterate 4 (clear hK K)); apply hK) | ((iterate 5 (clear hK K)); apply hK)); clear hK K)
      refine ret_pure ?_; simp only [resL_tmp, resL_nil, tupOf, go_sem, hD]
  · rw [ofV_good h1, decide_eq_false h3] at of
    have Dr := ofT_dra h1
    have h3' := Dr.n3
    have li := list_r (ofT d) l hl h5 h0 (by omega) (dra_at Dr)
    clear Dr
    generalize (l.map (indS (ofT d))) = L at *
    generalize ofT d = db at *
    refine Call.enter' (N := 56) (rs := [.tmp 6]) Tryd.func3 rfl rfl rfl (by decide) rfl ?_; simp only [argT]; have hD : (0 : Nat) = 0 := rfl
    repeat' first | (with_reducible refine And.intro (by omega) ?_) | (refine SW.seq_k fun K hK => ?_) | (refine SW.block ?_) | ((first | refine SW.region ?_ | refine SW.regionD (Checked.mixed Tryd.checked) (by kernel_rfl) ?_ | refine SW.cond ?_ | refine SW.skip ?_ | refine SW.exit ?_ | refine SW.ret ?_ | refine Call.of_pure (of) ?_ | refine ⟨_, of, ?_⟩ | refine Call.of_pure (li) ?_ | refine ⟨_, li, ?_⟩ | refine Call.of_pure (aw) ?_ | refine ⟨_, aw, ?_⟩ | (refine allF_i fun b hb => ?_; replace hD := And.intro hb hD; clear hb; try simp only [fresh_cons, fresh_nil, and_true, ne_eq, neF] at hD) | simp only [appK, appOsK]); try simp only [go_sem, hD, true_implies]) | (refine And.intro (by omega) ?_) | (refine ifI (fun hc => ?_) (fun hc => ?_) <;> first | (exfalso; omega) | skip) | ((first | apply hK | ((iterate 1 (clear hK K)); apply hK) | ((iterate 2 (clear hK K)); apply hK) | ((iterate 3 (clear hK K)); apply hK) | ((iterate 4 (clear hK K)); apply hK) | ((iterate 5 (clear hK K)); apply hK)); clear hK K)
    refine ret_pure ?_; simp only [resL_tmp, resL_nil, tupOf, go_sem, hD]
  rw [ofV_good h1, decide_eq_true h3] at of
  have Dr := ofT_dra h1
  have h3' := Dr.n3
  have li := list_r (ofT d) l hl h5 h0 (by omega) (dra_at Dr)
  have ig := ind_r (ofT d) ⟨gf, gt, gl, gr⟩ hg h0 (by omega) (dra_at Dr)
  have hf := dra_few Dr h0 l ⟨gf, gt, gl, gr⟩ h5
  have V := dra_vall Dr h0 l ⟨gf, gt, gl, gr⟩
  clear Dr
  generalize indS (ofT d) ⟨gf, gt, gl, gr⟩ = G at *
  generalize (l.map (indS (ofT d))) = L at *
  generalize ofT d = db at *
  have hall := allS_of V (by omega)
  have hS := V.small hf.d4 hf.g3
  have dr := dist_r L G (nmsOf db) hS V.okL hf.ll (by have := hf.r3; omega)
  have ip := implies_p db L G hf hall
  have hx : distS L G < 0 ↔ findS G.t G.r 0 (states L G) < 0 := dist_neg
  generalize findS G.t G.r 0 (states L G) = fz at *
  generalize distS L G = X at *
  obtain ⟨Gf, Gl', Gt, Gr⟩ := G
  by_cases hn : fz < 0
  · have hx1 := hx.2 hn
    rw [decide_eq_false (by omega)] at ip
    have hx2 : ¬ 0 ≤ X := by omega
    refine Call.enter' (N := 56) (rs := [.tmp 6]) Tryd.func3 rfl rfl rfl (by decide) rfl ?_; simp only [argT]; have hD : (0 : Nat) = 0 := rfl
    repeat' first | (with_reducible refine And.intro (by omega) ?_) | (refine SW.seq_k fun K hK => ?_) | (refine SW.block ?_) | ((first | refine SW.region ?_ | refine SW.regionD (Checked.mixed Tryd.checked) (by kernel_rfl) ?_ | refine SW.cond ?_ | refine SW.skip ?_ | refine SW.exit ?_ | refine SW.ret ?_ | refine Call.of_pure (of) ?_ | refine ⟨_, of, ?_⟩ | refine Call.of_pure (li) ?_ | refine ⟨_, li, ?_⟩ | refine Call.of_pure (aw) ?_ | refine ⟨_, aw, ?_⟩ | refine Call.of_pure (ig) ?_ | refine ⟨_, ig, ?_⟩ | refine Call.of_pure (ip) ?_ | refine ⟨_, ip, ?_⟩ | refine Call.of_pure (dr) ?_ | refine ⟨_, dr, ?_⟩ | (refine allF_i fun b hb => ?_; replace hD := And.intro hb hD; clear hb; try simp only [fresh_cons, fresh_nil, and_true, ne_eq, neF] at hD) | simp only [appK, appOsK]); try simp only [go_sem, hD, hx2, true_implies]) | (refine And.intro (by omega) ?_) | (refine ifI (fun hc => ?_) (fun hc => ?_) <;> first | (exfalso; omega) | skip) | ((first | apply hK | ((iterate 1 (clear hK K)); apply hK) | ((iterate 2 (clear hK K)); apply hK) | ((iterate 3 (clear hK K)); apply hK) | ((iterate 4 (clear hK K)); apply hK) | ((iterate 5 (clear hK K)); apply hK)); clear hK K)
    refine ret_pure ?_; simp only [resL_tmp, resL_nil, tupOf, go_sem, hD]
    rfl
  · have hx1 : ¬ X < 0 := fun h => hn (hx.1 h)
    rw [decide_eq_true (by omega)] at ip
    have hx2 : 0 ≤ X := by omega
    refine Call.enter' (N := 56) (rs := [.tmp 6]) Tryd.func3 rfl rfl rfl (by decide) rfl ?_; simp only [argT]; have hD : (0 : Nat) = 0 := rfl
    repeat' first | (with_reducible refine And.intro (by omega) ?_) | (refine SW.seq_k fun K hK => ?_) | (refine SW.block ?_) | ((first | refine SW.region ?_ | refine SW.regionD (Checked.mixed Tryd.checked) (by kernel_rfl) ?_ | refine SW.cond ?_ | refine SW.skip ?_ | refine SW.exit ?_ | refine SW.ret ?_ | refine Call.of_pure (of) ?_ | refine ⟨_, of, ?_⟩ | refine Call.of_pure (li) ?_ | refine ⟨_, li, ?_⟩ | refine Call.of_pure (aw) ?_ | refine ⟨_, aw, ?_⟩ | refine Call.of_pure (ig) ?_ | refine ⟨_, ig, ?_⟩ | refine Call.of_pure (ip) ?_ | refine ⟨_, ip, ?_⟩ | refine Call.of_pure (dr) ?_ | refine ⟨_, dr, ?_⟩ | (refine allF_i fun b hb => ?_; replace hD := And.intro hb hD; clear hb; try simp only [fresh_cons, fresh_nil, and_true, ne_eq, neF] at hD) | simp only [appK, appOsK]); try simp only [go_sem, hD, hx2, true_implies]) | (refine And.intro (by omega) ?_) | (refine ifI (fun hc => ?_) (fun hc => ?_) <;> first | (exfalso; omega) | skip) | ((first | apply hK | ((iterate 1 (clear hK K)); apply hK) | ((iterate 2 (clear hK K)); apply hK) | ((iterate 3 (clear hK K)); apply hK) | ((iterate 4 (clear hK K)); apply hK) | ((iterate 5 (clear hK K)); apply hK)); clear hK K)
    refine ret_pure ?_; simp only [resL_tmp, resL_nil, tupOf, go_sem, hD]
    rfl
end Go.Proofs.YtblfodnajpamfaaDoor
