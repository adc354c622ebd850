/- The law of Holds: the walk. -/
import Derived.Test.YtblfodnajpamfaaGreatDoorQ6
set_option linter.unusedSimpArgs false
set_option linter.unusedVariables false
set_option linter.unusedSectionVars false
namespace Go.Proofs.YtblfodnajpamfaaGreatDoor
open Go Go.Ab Go.Ab.A34 Go.Ab.A15
variable [Gl] [Tabs]
set_option maxHeartbeats 2000000 in
set_option maxRecDepth 20000 in
theorem law_holds (db : List Tb) (d : Dp) (hdb : db.length ≤ 9223372036854775807) (hok : OkDb db) (hn : OkN db) (hd : OkD d) :
    PCall Tryz.prog 7 [DB db, DV d] (SB true) := by
  have aw := awake_c
  obtain ⟨W, fw⟩ : ∃ W, PCall Tryz.prog 25 [DB db] (SB W) := ⟨_, few_p db hdb⟩
  have hp := holds_p db d hdb hd hn
  cases W with
  | false =>
    obtain ⟨df, dl, dt, dr⟩ := d
    refine Call.enter' (N := 73) (rs := [.tmp 4]) Tryz.func7 rfl rfl rfl (by decide) rfl ?_; simp only [argT]; have hD : (0 : Nat) = 0 := rfl
    repeat' first | (refine SW.seq_k fun K hK => ?_) | ((first | refine SW.region ?_ | refine SW.cond ?_ | refine SW.ret ?_ | refine Call.of_pure (aw) ?_ | refine Call.of_pure (fw) ?_ | (refine allF_i fun b hb => ?_; replace hD := And.intro hb hD; clear hb; try simp only [fresh_cons, fresh_nil, and_true, ne_eq, neF] at hD)); try simp only [go_sem, hD, true_implies]) | ((first | apply hK | (clear hK K; apply hK) | (clear hK K; clear hK K; apply hK)); clear hK K)
    refine ret_pure ?_; simp only [resL_tmp, resL_nil, tupOf, go_sem, hD]
  | true =>
    by_cases h1 : (20 : Int) < ((d.l.length : Nat) : Int)
    · obtain ⟨df, dl, dt, dr⟩ := d
      simp only at h1
      refine Call.enter' (N := 73) (rs := [.tmp 4]) Tryz.func7 rfl rfl rfl (by decide) rfl ?_; simp only [argT]; have hD : (0 : Nat) = 0 := rfl
      repeat' first | (refine SW.seq_k fun K hK => ?_) | ((first | refine SW.region ?_ | refine SW.cond ?_ | refine SW.ret ?_ | refine Call.of_pure (aw) ?_ | refine Call.of_pure (fw) ?_ | (refine allF_i fun b hb => ?_; replace hD := And.intro hb hD; clear hb; try simp only [fresh_cons, fresh_nil, and_true, ne_eq, neF] at hD)); try simp only [go_sem, hD, h1, true_implies]) | ((first | apply hK | (clear hK K; apply hK) | (clear hK K; clear hK K; apply hK)); clear hK K)
      refine ret_pure ?_; simp only [resL_tmp, resL_nil, tupOf, go_sem, hD]
    by_cases h2 : (20 : Int) < ((d.r.length : Nat) : Int)
    · obtain ⟨df, dl, dt, dr⟩ := d
      simp only at h1 h2
      refine Call.enter' (N := 73) (rs := [.tmp 4]) Tryz.func7 rfl rfl rfl (by decide) rfl ?_; simp only [argT]; have hD : (0 : Nat) = 0 := rfl
      repeat' first | (refine SW.seq_k fun K hK => ?_) | ((first | refine SW.region ?_ | refine SW.cond ?_ | refine SW.ret ?_ | refine Call.of_pure (aw) ?_ | refine Call.of_pure (fw) ?_ | (refine allF_i fun b hb => ?_; replace hD := And.intro hb hD; clear hb; try simp only [fresh_cons, fresh_nil, and_true, ne_eq, neF] at hD)); try simp only [go_sem, hD, h1, h2, true_implies]) | ((first | apply hK | (clear hK K; apply hK) | (clear hK K; clear hK K; apply hK)); clear hK K)
      refine ret_pure ?_; simp only [resL_tmp, resL_nil, tupOf, go_sem, hD]
    have bff : (false == false) = true := rfl
    have btt : (true == true) = true := rfl
    by_cases h : vE db d = 0
    · have vp := viol_p db d hdb hd hn h
      have vr := viol_r db d hdb hok hd h
      have V := vE_ok h
      have hl := violP_len (rowsAt db d.f) (rowsAt db d.t) d.l d.r (rowsAt db d.f).length
      have hr := (rows_k V.1 V.2.f).n
      have is := ids_same (violS (rowsAt db d.f) (rowsAt db d.t) d.l d.r) (by unfold violS; omega)
      unfold hldB at hp
      rw [h, decide_eq_true rfl, Bool.true_and] at hp
      clear hl hr V
      generalize violS (rowsAt db d.f) (rowsAt db d.t) d.l d.r = W at *
      obtain ⟨df, dl, dt, dr⟩ := d
      simp only at h1 h2
      cases W with
      | nil =>
        have he : ([] : List Int).isEmpty = true := rfl
        rw [he] at hp
        refine Call.enter' (N := 73) (rs := [.tmp 4]) Tryz.func7 rfl rfl rfl (by decide) rfl ?_; simp only [argT]; have hD : (0 : Nat) = 0 := rfl
        repeat' first | (refine SW.seq_k fun K hK => ?_) | ((first | refine SW.region ?_ | refine SW.cond ?_ | refine SW.skip ?_ | refine SW.ret ?_ | refine Call.of_pure (aw) ?_ | refine Call.of_pure (fw) ?_ | refine Call.of_pure (hp) ?_ | refine Call.of_pure (vp) ?_ | refine Call.of_pure (vr) ?_ | refine Call.of_pure (is) ?_ | (refine allF_i fun b hb => ?_; replace hD := And.intro hb hD; clear hb; try simp only [fresh_cons, fresh_nil, and_true, ne_eq, neF] at hD)); try simp only [go_sem, hD, h1, h2, bff, btt, true_implies]) | ((first | apply hK | (clear hK K; apply hK) | (clear hK K; clear hK K; apply hK)); clear hK K)
        refine ret_pure ?_; simp only [resL_tmp, resL_nil, tupOf, go_sem, hD]
      | cons x W =>
        have hw : ¬ (((x :: W).length : Nat) : Int) = 0 := by rw [List.length_cons]; omega
        have hY : (x :: W).isEmpty = false := rfl
        rw [hY] at hp
        clear hY
        generalize x :: W = Y at *
        refine Call.enter' (N := 73) (rs := [.tmp 4]) Tryz.func7 rfl rfl rfl (by decide) rfl ?_; simp only [argT]; have hD : (0 : Nat) = 0 := rfl
        repeat' first | (refine SW.seq_k fun K hK => ?_) | ((first | refine SW.region ?_ | refine SW.cond ?_ | refine SW.skip ?_ | refine SW.ret ?_ | refine Call.of_pure (aw) ?_ | refine Call.of_pure (fw) ?_ | refine Call.of_pure (hp) ?_ | refine Call.of_pure (vp) ?_ | refine Call.of_pure (vr) ?_ | refine Call.of_pure (is) ?_ | (refine allF_i fun b hb => ?_; replace hD := And.intro hb hD; clear hb; try simp only [fresh_cons, fresh_nil, and_true, ne_eq, neF] at hD)); try simp only [go_sem, hD, h1, h2, hw, bff, btt, true_implies]) | ((first | apply hK | (clear hK K; apply hK) | (clear hK K; clear hK K; apply hK)); clear hK K)
        refine ret_pure ?_; simp only [resL_tmp, resL_nil, tupOf, go_sem, hD]
    · have vp := viol_bad db d hdb hd h
      have vr := viol_rbad db d hdb hok hd h
      have is := ids_nil
      unfold hldB at hp
      rw [decide_eq_false h, Bool.false_and] at hp
      generalize vE db d = v at *
      obtain ⟨df, dl, dt, dr⟩ := d
      simp only at h1 h2
      refine Call.enter' (N := 73) (rs := [.tmp 4]) Tryz.func7 rfl rfl rfl (by decide) rfl ?_; simp only [argT]; have hD : (0 : Nat) = 0 := rfl
      repeat' first | (refine SW.seq_k fun K hK => ?_) | ((first | refine SW.region ?_ | refine SW.cond ?_ | refine SW.skip ?_ | refine SW.ret ?_ | refine Call.of_pure (aw) ?_ | refine Call.of_pure (fw) ?_ | refine Call.of_pure (hp) ?_ | refine Call.of_pure (vp) ?_ | refine Call.of_pure (vr) ?_ | refine Call.of_pure (is) ?_ | (refine allF_i fun b hb => ?_; replace hD := And.intro hb hD; clear hb; try simp only [fresh_cons, fresh_nil, and_true, ne_eq, neF] at hD)); try simp only [go_sem, hD, h1, h2, h, bff, btt, true_implies]) | ((first | apply hK | (clear hK K; apply hK) | (clear hK K; clear hK K; apply hK)); clear hK K)
      refine ret_pure ?_; simp only [resL_tmp, resL_nil, tupOf, go_sem, hD]
end Go.Proofs.YtblfodnajpamfaaGreatDoor
