import Derived.Test.YtpidncgibgiidaaGreatPE
set_option linter.unusedSimpArgs false
set_option linter.unusedVariables false
set_option linter.unusedSectionVars false
namespace Go.Proofs.YtpidncgibgiidaaGreat
open Go Go.Ab Go.Ab.A34 Go.Ab.A15 Go.Ab.A01
variable [Gl] [Tabs]
set_option maxHeartbeats 1000000 in
set_option maxRecDepth 20000 in
theorem clone_d (l : List Dp) (hl : l.length ≤ 1000) : Ab.Call Tryz.prog 18 [DpL l] [] (fun r h' => (l = [] ∧ r = SN ∧ h' = []) ∨ ∃ b, r = .os b 0 l.length 4 ∧ h' = [(b, .svs (dCs l))]) := by
  have hfm := fl_dCs l
  refine Call.enter' (N := 8) (rs := [.tmp 2]) Tryz.func18 rfl rfl rfl (by decide) rfl ?_; simp only [argT]; have hD : (0 : Nat) = 0 := rfl
  refine SW.seq_k fun K0 hK0 => ?_
  refine SW.region ?_
  simp only [go_sem, hD]
  refine hK0 _ ?_
  clear hK0 K0
  refine SW.seq_k fun K hK => ?_
  refine SW.seq_k fun K2 hK2 => ?_
  refine SW.region_nil (i := 0) (j := 3) (k := 4) rfl rfl rfl rfl rfl rfl Tryz.underlying30 rfl (by decide) (by decide) (fun hn => ?_) ?_
  · refine hK2 _ ?_
    clear hK2 K2
    have hl0 : l = [] := List.eq_nil_of_length_eq_zero hn
    subst hl0
    repeat' first | (refine SW.seq_k fun K hK => ?_) | ((first | refine SW.region ?_ | refine SW.cond ?_ | refine SW.ret ?_); try simp only [go_sem, hD]) | (apply hK; clear hK K)
    refine retQ_le (fun M w0 D N a w r => r) ?_
    simp only [resL_tmp, resL_nil, tupOf, go_sem, hD]
    try exact .inl ⟨rfl, rfl, rfl⟩
  · refine hK2 _ ?_
    clear hK2 K2
    repeat' first | (refine SW.seq_k fun K hK => ?_) | ((first | refine SW.region ?_ | refine SW.cond ?_ | refine SW.skip ?_ | (refine allF_i fun b hb => ?_; replace hD := And.intro hb hD; clear hb; try simp only [fresh_cons, fresh_nil, and_true, ne_eq, neF] at hD) | simp only [appK, appOsK]); try simp only [go_sem, hD]) | (apply hK; clear hK K)
    rw [hfm]
    refine ⟨?_, by omega, by omega, allF_i fun b' hb' => ?_⟩
    · rw [List.all_eq_true]
      intro x hx
      obtain ⟨r, _, hr⟩ := List.mem_flatMap.1 hx
      simp only [List.mem_cons, List.not_mem_nil, or_false] at hr
      rcases hr with rfl | rfl | rfl | rfl <;> rfl
    · apply hK
      clear hK K
      repeat' (refine SW.ret ?_; try simp only [go_sem, hD])
      refine retQ_le (fun M w0 D N a w r => r) ?_
      simp only [resL_tmp, resL_nil, tupOf, go_sem, hD]
      exact .inr ⟨_, rfl, rfl⟩
theorem eqc_1 (y d : Dp) (hy : OkS y) (hd : OkS d) : PCall Tryz.prog 21 [DV y, .fp (dC d)] (SB (decide (y = d))) := by
  have c := equal_d y d hy hd
  generalize decide (y = d) = z at *
  obtain ⟨y1, y2, y3, y4⟩ := y
  obtain ⟨b1, b2, b3, b4⟩ := d
  refine Call.enter' (N := 7) (rs := [.tmp 3]) Tryz.func21 rfl rfl rfl (by decide) rfl ?_; simp only [argT]; have hD : (0 : Nat) = 0 := rfl
  repeat' first | (refine SW.seq_k fun K hK => ?_) | ((first | refine SW.region ?_ | refine SW.ret ?_ | refine Call.of_pure (c) ?_ | (refine allF_i fun b hb => ?_; replace hD := And.intro hb hD; clear hb; try simp only [fresh_cons, fresh_nil, and_true, ne_eq, neF] at hD)); try simp only [go_sem, hD, true_implies]) | (apply hK; clear hK K)
  refine ret_pure ?_; simp only [resL_tmp, resL_nil, tupOf, go_sem, hD]
  try rfl
theorem eqc_2 (y d : Dp) (hy : OkS y) (hd : OkS d) : PCall Tryz.prog 23 [DV y, .fp (dC d)] (SB (decide (y = d))) := by
  have c := equal_d y d hy hd
  generalize decide (y = d) = z at *
  obtain ⟨y1, y2, y3, y4⟩ := y
  obtain ⟨b1, b2, b3, b4⟩ := d
  refine Call.enter' (N := 7) (rs := [.tmp 3]) Tryz.func23 rfl rfl rfl (by decide) rfl ?_; simp only [argT]; have hD : (0 : Nat) = 0 := rfl
  repeat' first | (refine SW.seq_k fun K hK => ?_) | ((first | refine SW.region ?_ | refine SW.ret ?_ | refine Call.of_pure (c) ?_ | (refine allF_i fun b hb => ?_; replace hD := And.intro hb hD; clear hb; try simp only [fresh_cons, fresh_nil, and_true, ne_eq, neF] at hD)); try simp only [go_sem, hD, true_implies]) | (apply hK; clear hK K)
  refine ret_pure ?_; simp only [resL_tmp, resL_nil, tupOf, go_sem, hD]
  try rfl
theorem cont_o (g : FuncId) (caps : List SV) (p : Dp → Bool) (l : List Dp) (b : Nat) (hl : l.length ≤ 1000000) (hg : ∀ d ∈ l, PCall Tryz.prog g (DV d :: caps) (SB (p d))) :
    Ab.Call Tryz.prog 20 [.os b 0 l.length 4, .fn (.func g) [] caps] [(b, .svs (dCs l))] (fun r h' => r = SB (l.any p) ∧ h' = [(b, .svs (dCs l))]) :=
  Call.lend (args := [.os b 0 l.length 4, .fn (.func g) [] caps]) (k := .svs (dCs l)) (off := 0) (sz := 4) 0 (dpF l) (by simp) rfl (by rw [find_cons, if_pos rfl]) (by rw [Blk.len_svs, dCs_len]; omega) (fun j hj => by
    exact dCs_get l hj) (contF_d g caps p l hl hg)
end Go.Proofs.YtpidncgibgiidaaGreat
