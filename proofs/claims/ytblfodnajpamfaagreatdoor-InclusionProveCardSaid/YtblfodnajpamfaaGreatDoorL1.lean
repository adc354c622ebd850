/- The law of proofs: the walk. -/
import Derived.Test.YtblfodnajpamfaaGreatDoorQ7
set_option linter.unusedSimpArgs false
set_option linter.unusedVariables false
set_option linter.unusedSectionVars false
namespace Go.Proofs.YtblfodnajpamfaaGreatDoor
open Go Go.Ab Go.Ab.A34 Go.Ab.A15
variable [Gl] [Tabs]
set_option maxHeartbeats 2000000 in
set_option maxRecDepth 20000 in
theorem law_prove (d : List Rc) (l : List Lk) (g : Lk) (hd : OkRcs d) (hdl : d.length ≤ 9223372036854775807) (hl : OkKs l) (hg : OkK g) :
    PCall Tryz.prog 3 [RcL d, LkL l, LkV g] (SB true) := by
  have of := of_r d hd hdl
  have aw := awake_c
  obtain ⟨gf, gt, gl, gr⟩ := g
  rcases draft_cases d l with h1 | ⟨h1, h2⟩ | ⟨h1, h5, h0, h3⟩ | ⟨h1, h5, h0, h3⟩
  · rw [ofV_bad h1] at of
    have li := list_nil l
    refine Call.enter' (N := 81) (rs := [.tmp 6]) Tryz.func3 rfl rfl rfl (by decide) rfl ?_; simp only [argT]; have hD : (0 : Nat) = 0 := rfl
    repeat' first | (refine SW.seq_k fun K hK => ?_) | ((first | refine SW.region ?_ | refine SW.cond ?_ | refine SW.ret ?_ | refine Call.of_pure (of) ?_ | refine Call.of_pure (li) ?_ | refine Call.of_pure (aw) ?_ | (refine allF_i fun b hb => ?_; replace hD := And.intro hb hD; clear hb; try simp only [fresh_cons, fresh_nil, and_true, ne_eq, neF] at hD)); try simp only [go_sem, hD, true_implies]) | ((first | apply hK | (clear hK K; apply hK) | (clear hK K; clear hK K; apply hK)); clear hK K)
    refine ret_pure ?_; simp only [resL_tmp, resL_nil, tupOf, go_sem, hD]
  · rw [ofV_good h1] at of
    have li := list_bad (ofT d) l h2
    generalize ofT d = db at *
    generalize decide (d.length ≤ 3) = D3 at *
    cases D3
    · refine Call.enter' (N := 81) (rs := [.tmp 6]) Tryz.func3 rfl rfl rfl (by decide) rfl ?_; simp only [argT]; have hD : (0 : Nat) = 0 := rfl
      repeat' first | (refine SW.seq_k fun K hK => ?_) | ((first | refine SW.region ?_ | refine SW.cond ?_ | refine SW.ret ?_ | refine Call.of_pure (of) ?_ | refine Call.of_pure (li) ?_ | refine Call.of_pure (aw) ?_ | (refine allF_i fun b hb => ?_; replace hD := And.intro hb hD; clear hb; try simp only [fresh_cons, fresh_nil, and_true, ne_eq, neF] at hD)); try simp only [go_sem, hD, true_implies]) | ((first | apply hK | (clear hK K; apply hK) | (clear hK K; clear hK K; apply hK)); clear hK K)
      refine ret_pure ?_; simp only [resL_tmp, resL_nil, tupOf, go_sem, hD]
    · refine Call.enter' (N := 81) (rs := [.tmp 6]) Tryz.func3 rfl rfl rfl (by decide) rfl ?_; simp only [argT]; have hD : (0 : Nat) = 0 := rfl
      repeat' first | (refine SW.seq_k fun K hK => ?_) | ((first | refine SW.region ?_ | refine SW.cond ?_ | refine SW.ret ?_ | refine Call.of_pure (of) ?_ | refine Call.of_pure (li) ?_ | refine Call.of_pure (aw) ?_ | (refine allF_i fun b hb => ?_; replace hD := And.intro hb hD; clear hb; try simp only [fresh_cons, fresh_nil, and_true, ne_eq, neF] at hD)); try simp only [go_sem, hD, true_implies]) | ((first | apply hK | (clear hK K; apply hK) | (clear hK K; clear hK K; apply hK)); clear hK K)
      refine ret_pure ?_; simp only [resL_tmp, resL_nil, tupOf, go_sem, hD]
  · rw [ofV_good h1, decide_eq_false h3] at of
    have Dr := ofT_dra h1
    have h3' := Dr.n3
    have li := list_r (ofT d) l hl h5 h0 (by omega) (dra_at Dr)
    clear Dr
    generalize (l.map (indS (ofT d))) = L at *
    generalize ofT d = db at *
    refine Call.enter' (N := 81) (rs := [.tmp 6]) Tryz.func3 rfl rfl rfl (by decide) rfl ?_; simp only [argT]; have hD : (0 : Nat) = 0 := rfl
    repeat' first | (refine SW.seq_k fun K hK => ?_) | ((first | refine SW.region ?_ | refine SW.cond ?_ | refine SW.ret ?_ | refine Call.of_pure (of) ?_ | refine Call.of_pure (li) ?_ | refine Call.of_pure (aw) ?_ | (refine allF_i fun b hb => ?_; replace hD := And.intro hb hD; clear hb; try simp only [fresh_cons, fresh_nil, and_true, ne_eq, neF] at hD)); try simp only [go_sem, hD, true_implies]) | ((first | apply hK | (clear hK K; apply hK) | (clear hK K; clear hK K; apply hK)); clear hK K)
    refine ret_pure ?_; simp only [resL_tmp, resL_nil, tupOf, go_sem, hD]
  rw [ofV_good h1, decide_eq_true h3] at of
  have Dr := ofT_dra h1
  have h3' := Dr.n3
  have li := list_r (ofT d) l hl h5 h0 (by omega) (dra_at Dr)
  have ig := ind_r (ofT d) ⟨gf, gt, gl, gr⟩ hg h0 (by omega) (dra_at Dr)
  have hf := dra_few Dr h0 l ⟨gf, gt, gl, gr⟩ h5
  have V := dra_vall Dr h0 l ⟨gf, gt, gl, gr⟩
  have hok := dra_okdb Dr
  clear Dr
  generalize indS (ofT d) ⟨gf, gt, gl, gr⟩ = G at *
  generalize (l.map (indS (ofT d))) = L at *
  generalize ofT d = db at *
  have hall := allS_of V (by omega)
  have hS := V.small hf.d4 hf.g3
  have dr := dist_r L G (nmsOf db) hS V.okL hf.ll (by have := hf.r3; omega)
  have hB := hS.bds
  by_cases hn : findS G.t G.r 0 (states L G) < 0
  · have pr := prove_no db L G hf hall hn
    have hx := dist_neg.2 hn
    generalize distS L G = X at *
    obtain ⟨Gf, Gl', Gt, Gr⟩ := G
    refine Call.enter' (N := 81) (rs := [.tmp 6]) Tryz.func3 rfl rfl rfl (by decide) rfl ?_; simp only [argT]; have hD : (0 : Nat) = 0 := rfl
    repeat' first | (refine SW.seq_k fun K hK => ?_) | ((first | refine SW.region ?_ | refine SW.cond ?_ | refine SW.skip ?_ | refine SW.ret ?_ | refine Call.of_pure (of) ?_ | refine Call.of_pure (li) ?_ | refine Call.of_pure (aw) ?_ | refine Call.of_pure (ig) ?_ | refine Call.of_pure (pr) ?_ | refine Call.of_pure (dr) ?_ | (refine allF_i fun b hb => ?_; replace hD := And.intro hb hD; clear hb; try simp only [fresh_cons, fresh_nil, and_true, ne_eq, neF] at hD)); try simp only [go_sem, hD, hx, true_implies]) | ((first | apply hK | (clear hK K; apply hK) | (clear hK K; clear hK K; apply hK)); clear hK K)
    refine ret_pure ?_; simp only [resL_tmp, resL_nil, tupOf, go_sem, hD]
  · have pr := prove_p db L G hf hall hn
    obtain ⟨k1, k2⟩ := proof_ok hB (by omega)
    have hx : ¬ distS L G < 0 := fun h => hn (dist_neg.1 h)
    have hPl : OkP (proofS L G) := proof_okp hS hn
    have ci := check_i db L G (proofS L G) (by omega) hf.ll hf.okl hf.okg hall hPl
    have cr := check_ir db L G (proofS L G) (by omega) hok hf.ll hf.okl hf.okg hall hPl
    rw [k1] at ci cr
    generalize distS L G = X at *
    subst k2
    generalize proofS L G = P at *
    obtain ⟨Gf, Gl', Gt, Gr⟩ := G
    refine Call.enter' (N := 81) (rs := [.tmp 6]) Tryz.func3 rfl rfl rfl (by decide) rfl ?_; simp only [argT]; have hD : (0 : Nat) = 0 := rfl
    repeat' first | (refine SW.seq_k fun K hK => ?_) | ((first | refine SW.region ?_ | refine SW.cond ?_ | refine SW.skip ?_ | refine SW.ret ?_ | refine Call.of_pure (of) ?_ | refine Call.of_pure (li) ?_ | refine Call.of_pure (aw) ?_ | refine Call.of_pure (ig) ?_ | refine Call.of_pure (pr) ?_ | refine Call.of_pure (dr) ?_ | refine Call.of_pure (ci) ?_ | refine Call.of_pure (cr) ?_ | (refine allF_i fun b hb => ?_; replace hD := And.intro hb hD; clear hb; try simp only [fresh_cons, fresh_nil, and_true, ne_eq, neF] at hD)); try simp only [go_sem, hD, hx, true_implies]) | ((first | apply hK | (clear hK K; apply hK) | (clear hK K; clear hK K; apply hK)); clear hK K)
    refine ret_pure ?_; simp only [resL_tmp, resL_nil, tupOf, go_sem, hD]
end Go.Proofs.YtblfodnajpamfaaGreatDoor
