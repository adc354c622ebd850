/- The law of soundness: the walk. -/
import Derived.Test.YtblfodnajpamfaaGreatDoorQ7
set_option linter.unusedSimpArgs false
set_option linter.unusedVariables false
set_option linter.unusedSectionVars false
namespace Go.Ab.A15
open Go Go.Ab Go.Ab.A34
theorem code_in (c : Int) : inV (codeV c) := by
  unfold codeV inV
  repeat' split
  all_goals (constructor <;> decide)
theorem ofT_okn (d : List Rc) : OkN (ofT d) := fun t ht r hr v hv => by
  obtain ⟨i, _, rfl⟩ := List.mem_map.1 ht
  obtain ⟨k, _, rfl⟩ := List.mem_map.1 hr
  unfold rowS at hv
  obtain ⟨j, _, rfl⟩ := List.mem_map.1 hv
  exact code_in _
end Go.Ab.A15
namespace Go.Proofs.YtblfodnajpamfaaGreatDoor
open Go Go.Ab Go.Ab.A34 Go.Ab.A15
variable [Gl] [Tabs]
theorem not_r (db : List Tb) (d : Dp) (h : PCall Tryz.prog 23 [DB db, DV d] (SB (hldB db d))) : PCall Tryz.prog 33 [DV d, .fp [TL db]] (SB (!hldB db d)) := by
  generalize hldB db d = z at *
  obtain ⟨df, dl, dt, dr⟩ := d
  refine Call.enter' (N := 8) (rs := [.tmp 3]) Tryz.func33 rfl rfl rfl (by decide) rfl ?_; simp only [argT]; have hD : (0 : Nat) = 0 := rfl
  repeat' first | (refine SW.seq_k fun K hK => ?_) | ((first | refine SW.region ?_ | refine SW.ret ?_ | refine Call.of_pure (h) ?_ | (refine allF_i fun b hb => ?_; replace hD := And.intro hb hD; clear hb; try simp only [fresh_cons, fresh_nil, and_true, ne_eq, neF] at hD)); try simp only [go_sem, hD, true_implies]) | ((first | apply hK | (clear hK K; apply hK) | (clear hK K; clear hK K; apply hK)); clear hK K)
  refine ret_pure ?_; simp only [resL_tmp, resL_nil, tupOf, go_sem, hD]
set_option maxHeartbeats 2000000 in
set_option maxRecDepth 20000 in
theorem law_sound (d : List Rc) (l : List Lk) (g : Lk) (hd : OkRcs d) (hdl : d.length ≤ 9223372036854775807) (hl : OkKs l) (hg : OkK g) :
    PCall Tryz.prog 8 [RcL d, LkL l, LkV g] (SB true) := by
  have of := of_r d hd hdl
  have aw := awake_c
  obtain ⟨gf, gt, gl, gr⟩ := g
  rcases draft_cases d l with h1 | ⟨h1, h2⟩ | ⟨h1, h5, h0, h3⟩ | ⟨h1, h5, h0, h3⟩
  · rw [ofV_bad h1] at of
    have li := list_nil l
    refine Call.enter' (N := 71) (rs := [.tmp 6]) Tryz.func8 rfl rfl rfl (by decide) rfl ?_; simp only [argT]; have hD : (0 : Nat) = 0 := rfl
    repeat' first | (refine SW.seq_k fun K hK => ?_) | ((first | refine SW.region ?_ | refine SW.cond ?_ | refine SW.ret ?_ | refine Call.of_pure (of) ?_ | refine Call.of_pure (li) ?_ | refine Call.of_pure (aw) ?_ | (refine allF_i fun b hb => ?_; replace hD := And.intro hb hD; clear hb; try simp only [fresh_cons, fresh_nil, and_true, ne_eq, neF] at hD)); try simp only [go_sem, hD, true_implies]) | ((first | apply hK | (clear hK K; apply hK) | (clear hK K; clear hK K; apply hK)); clear hK K)
    refine ret_pure ?_; simp only [resL_tmp, resL_nil, tupOf, go_sem, hD]
  · rw [ofV_good h1] at of
    have li := list_bad (ofT d) l h2
    generalize ofT d = db at *
    generalize decide (d.length ≤ 3) = D3 at *
    cases D3
    · refine Call.enter' (N := 71) (rs := [.tmp 6]) Tryz.func8 rfl rfl rfl (by decide) rfl ?_; simp only [argT]; have hD : (0 : Nat) = 0 := rfl
      repeat' first | (refine SW.seq_k fun K hK => ?_) | ((first | refine SW.region ?_ | refine SW.cond ?_ | refine SW.ret ?_ | refine Call.of_pure (of) ?_ | refine Call.of_pure (li) ?_ | refine Call.of_pure (aw) ?_ | (refine allF_i fun b hb => ?_; replace hD := And.intro hb hD; clear hb; try simp only [fresh_cons, fresh_nil, and_true, ne_eq, neF] at hD)); try simp only [go_sem, hD, true_implies]) | ((first | apply hK | (clear hK K; apply hK) | (clear hK K; clear hK K; apply hK)); clear hK K)
      refine ret_pure ?_; simp only [resL_tmp, resL_nil, tupOf, go_sem, hD]
    · refine Call.enter' (N := 71) (rs := [.tmp 6]) Tryz.func8 rfl rfl rfl (by decide) rfl ?_; simp only [argT]; have hD : (0 : Nat) = 0 := rfl
      repeat' first | (refine SW.seq_k fun K hK => ?_) | ((first | refine SW.region ?_ | refine SW.cond ?_ | refine SW.ret ?_ | refine Call.of_pure (of) ?_ | refine Call.of_pure (li) ?_ | refine Call.of_pure (aw) ?_ | (refine allF_i fun b hb => ?_; replace hD := And.intro hb hD; clear hb; try simp only [fresh_cons, fresh_nil, and_true, ne_eq, neF] at hD)); try simp only [go_sem, hD, true_implies]) | ((first | apply hK | (clear hK K; apply hK) | (clear hK K; clear hK K; apply hK)); clear hK K)
      refine ret_pure ?_; simp only [resL_tmp, resL_nil, tupOf, go_sem, hD]
  · rw [ofV_good h1, decide_eq_false h3] at of
    have Dr := ofT_dra h1
    have h3' := Dr.n3
    have li := list_r (ofT d) l hl h5 h0 (by omega) (dra_at Dr)
    clear Dr
    generalize (l.map (indS (ofT d))) = L at *
    generalize ofT d = db at *
    refine Call.enter' (N := 71) (rs := [.tmp 6]) Tryz.func8 rfl rfl rfl (by decide) rfl ?_; simp only [argT]; have hD : (0 : Nat) = 0 := rfl
    repeat' first | (refine SW.seq_k fun K hK => ?_) | ((first | refine SW.region ?_ | refine SW.cond ?_ | refine SW.ret ?_ | refine Call.of_pure (of) ?_ | refine Call.of_pure (li) ?_ | refine Call.of_pure (aw) ?_ | (refine allF_i fun b hb => ?_; replace hD := And.intro hb hD; clear hb; try simp only [fresh_cons, fresh_nil, and_true, ne_eq, neF] at hD)); try simp only [go_sem, hD, true_implies]) | ((first | apply hK | (clear hK K; apply hK) | (clear hK K; clear hK K; apply hK)); clear hK K)
    refine ret_pure ?_; simp only [resL_tmp, resL_nil, tupOf, go_sem, hD]
  rw [ofV_good h1, decide_eq_true h3] at of
  have Dr := ofT_dra h1
  have h3' := Dr.n3
  have hon := ofT_okn d
  have li := list_r (ofT d) l hl h5 h0 (by omega) (dra_at Dr)
  have ig := ind_r (ofT d) ⟨gf, gt, gl, gr⟩ hg h0 (by omega) (dra_at Dr)
  have hf := dra_few Dr h0 l ⟨gf, gt, gl, gr⟩ h5
  have V := dra_vall Dr h0 l ⟨gf, gt, gl, gr⟩
  have hok := dra_okdb Dr
  clear Dr
  generalize indS (ofT d) ⟨gf, gt, gl, gr⟩ = G at *
  generalize (l.map (indS (ofT d))) = L at *
  generalize ofT d = db at *
  have hall := allS_of V (by omega)
  have hcs := chkS_of V.vd (by omega)
  have hvg := vE_of hcs (fitsS_of V.g)
  have hS := V.small hf.d4 hf.g3
  have hB := hS.bds
  have hc := fun x (hx : x ∈ L) => not_r db x (holds_r db x (by omega) hok (hf.okl x hx))
  have ct := contF_d 33 [.fp [TL db]] (fun x => !hldB db x) L hf.ll hc
  have hp := holds_p db G (by omega) hf.okg hon
  have hr := holds_r db G (by omega) hok hf.okg
  rw [hvg] at hp
  by_cases hn : findS G.t G.r 0 (states L G) < 0
  · have pr := prove_no db L G hf hall hn
    obtain ⟨Gf, Gl', Gt, Gr⟩ := G
    refine Call.enter' (N := 71) (rs := [.tmp 6]) Tryz.func8 rfl rfl rfl (by decide) rfl ?_; simp only [argT]; have hD : (0 : Nat) = 0 := rfl
    repeat' first | (refine SW.seq_k fun K hK => ?_) | ((first | refine SW.region ?_ | refine SW.cond ?_ | refine SW.skip ?_ | refine SW.ret ?_ | refine Call.of_pure (of) ?_ | refine Call.of_pure (li) ?_ | refine Call.of_pure (aw) ?_ | refine Call.of_pure (ig) ?_ | refine Call.of_pure (pr) ?_ | (refine allF_i fun b hb => ?_; replace hD := And.intro hb hD; clear hb; try simp only [fresh_cons, fresh_nil, and_true, ne_eq, neF] at hD)); try simp only [go_sem, hD, true_implies]) | ((first | apply hK | (clear hK K; apply hK) | (clear hK K; clear hK K; apply hK)); clear hK K)
    refine ret_pure ?_; simp only [resL_tmp, resL_nil, tupOf, go_sem, hD]
  · have pr := prove_p db L G hf hall hn
    obtain ⟨k1, k2⟩ := proof_ok hB (by omega)
    have hld := fun h => hld_proved hvg h k1
    generalize proofS L G = P at *
    cases ha : L.any (fun x => !hldB db x) with
    | true =>
      rw [ha] at ct
      obtain ⟨Gf, Gl', Gt, Gr⟩ := G
      refine Call.enter' (N := 71) (rs := [.tmp 6]) Tryz.func8 rfl rfl rfl (by decide) rfl ?_; simp only [argT]; have hD : (0 : Nat) = 0 := rfl
      repeat' first | ((refine Ab.SW.le (St.le_freezeP (i := 7) (n := 1) rfl (by rw [find_cons, if_pos rfl]) (by exact Nat.le_refl 1)) ?_); (rw [del_head]); (simp only [getN, Blk.get])) | (refine SW.seq_k fun K hK => ?_) | ((first | refine SW.region ?_ | refine SW.cond ?_ | refine SW.skip ?_ | refine SW.ret ?_ | refine Call.of_pure (of) ?_ | refine Call.of_pure (li) ?_ | refine Call.of_pure (aw) ?_ | refine Call.of_pure (ig) ?_ | refine Call.of_pure (pr) ?_ | refine Call.of_pure (ct) ?_ | (refine allF_i fun b hb => ?_; replace hD := And.intro hb hD; clear hb; try simp only [fresh_cons, fresh_nil, and_true, ne_eq, neF] at hD)); try simp only [go_sem, hD, true_implies]) | ((first | apply hK | (clear hK K; apply hK) | (clear hK K; clear hK K; apply hK)); clear hK K)
      refine ret_pure ?_; simp only [resL_tmp, resL_nil, tupOf, go_sem, hD]
    | false =>
      rw [ha] at ct
      have hz := hld fun x hx => by
        have := List.any_eq_false.1 ha x hx
        simpa using this
      rw [hz] at hp hr
      obtain ⟨Gf, Gl', Gt, Gr⟩ := G
      refine Call.enter' (N := 71) (rs := [.tmp 6]) Tryz.func8 rfl rfl rfl (by decide) rfl ?_; simp only [argT]; have hD : (0 : Nat) = 0 := rfl
      repeat' first | ((refine Ab.SW.le (St.le_freezeP (i := 7) (n := 1) rfl (by rw [find_cons, if_pos rfl]) (by exact Nat.le_refl 1)) ?_); (rw [del_head]); (simp only [getN, Blk.get])) | (refine SW.seq_k fun K hK => ?_) | ((first | refine SW.region ?_ | refine SW.cond ?_ | refine SW.skip ?_ | refine SW.ret ?_ | refine Call.of_pure (of) ?_ | refine Call.of_pure (li) ?_ | refine Call.of_pure (aw) ?_ | refine Call.of_pure (ig) ?_ | refine Call.of_pure (pr) ?_ | refine Call.of_pure (ct) ?_ | refine Call.of_pure (hp) ?_ | refine Call.of_pure (hr) ?_ | (refine allF_i fun b hb => ?_; replace hD := And.intro hb hD; clear hb; try simp only [fresh_cons, fresh_nil, and_true, ne_eq, neF] at hD)); try simp only [go_sem, hD, true_implies]) | ((first | apply hK | (clear hK K; apply hK) | (clear hK K; clear hK K; apply hK)); clear hK K)
      refine ret_pure ?_; simp only [resL_tmp, resL_nil, tupOf, go_sem, hD]
end Go.Proofs.YtblfodnajpamfaaGreatDoor
