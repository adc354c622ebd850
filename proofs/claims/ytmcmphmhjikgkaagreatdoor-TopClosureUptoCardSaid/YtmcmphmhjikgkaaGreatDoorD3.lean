/- The chase. -/
import Derived.Test.YtmcmphmhjikgkaaGreatDoorD2
set_option linter.unusedSimpArgs false
set_option linter.unusedVariables false
set_option linter.unusedSectionVars false
namespace Go.Proofs.YtmcmphmhjikgkaaGreatDoor
open Go Go.Ab Go.Ab.A20
variable [Gl] [Bru]

set_option maxHeartbeats 2000000 in
set_option maxRecDepth 20000 in
theorem steps_p (n y : Nat) (l : List D2) (hn : n ≤ 6) (hy : y < 2 ^ n) (h2 : In2 n l) (h64 : l.length ≤ 64) :
    PCall Tryz.prog 33 [TB n (tabL n y), DL l, .sc (.slice none 0 0)] (.tup [.any, TB n (tabL n (cl l y)), I64 0]) := by
  have h6 := pow6 hn
  have hok := in2_ok (by omega) h2
  have ck := checked_p n y l hn hy h2 h64
  have cf := copied_f n (tabL n y) hn (Nat.le_trans (tab_len n y) (by omega))
  have hnx := fun z (hz : z < 2 ^ n) => next_p n z l hn h2 hz (by omega)
  have hap := fun z i (hz : z < 2 ^ n) he => apply_p n z i l hn hz h2 he h64
  have hcl : Clo l (cl l y) := cl_clo hok (by omega)
  have hcm : ∀ z, Clo l z → Sb y z → Sb (cl l y) z := fun z h1 h2 => cl_min h1 h2
  obtain ⟨C, hC⟩ : ∃ C, C = cl l y := ⟨_, rfl⟩
  have hyC : Sb y C := by rw [hC]; exact cl_sb l y
  rw [← hC] at hcl hcm ⊢
  refine Call.enter' (N := 53) (rs := [.tmp 6, .cell 7 40, .tmp 8]) Tryz.func33 rfl rfl rfl (by decide) rfl ?_; simp only [argT]; have hD : (0 : Nat) = 0 := rfl
  repeat' first | (with_reducible refine And.intro (by omega) ?_) | (refine SW.seq_k fun K hK => ?_) | (refine SW.block ?_) | ((first | refine SW.region ?_ | refine SW.regionD (Checked.mixed Tryz.checked) (by kernel_rfl) ?_ | refine SW.cond ?_ | refine SW.skip ?_ | refine SW.exit ?_ | refine SW.ret ?_ | refine Call.of_pure (ck) ?_ | refine ⟨_, ck, ?_⟩ | refine Call.of_pure (cf) ?_ | refine ⟨_, cf, ?_⟩ | (refine allF_i fun b hb => ?_; replace hD := And.intro hb hD; clear hb; try simp only [fresh_cons, fresh_nil, and_true, ne_eq, neF] at hD) | simp only [appK, appOsK]); try simp only [go_sem, hD]) | (refine And.intro (by omega) ?_) | (refine ifI (fun hc => ?_) (fun hc => ?_) <;> first | (exfalso; omega) | skip) | ((first | apply hK | ((iterate 1 (clear hK K)); apply hK) | ((iterate 2 (clear hK K)); apply hK) | ((iterate 3 (clear hK K)); apply hK) | ((iterate 4 (clear hK K)); apply hK) | ((iterate 5 (clear hK K)); apply hK)); clear hK K)
  rename_i tb
  obtain ⟨rb, rfl⟩ : ∃ x, x = b := ⟨_, rfl⟩
  refine Ab.SW.le (St.le_pick [(tb, .svs [I64 n, RL n (tabL n y)]), (rb, .svs [I64 0, .sc (.slice none 0 0)])] ?_ ?_) ?_
  · repeat' (first | exact (fun x hx => (List.not_mem_nil hx).elim) | refine List.forall_mem_cons.2 ⟨?_, ?_⟩ | exact List.mem_cons_self | apply List.mem_cons_of_mem)
  · simp [fresh_cons, fresh_nil, hD]
  obtain ⟨I, hI⟩ : ∃ I : Nat → St → Prop, ∀ m S, I m S ↔ (∃ (z k : Nat) (x : SV) (h : Heap) (cs : List SV), m = 64 - z ∧ z < 2 ^ n ∧ k ≤ z ∧ Sb y z ∧ Sb z C ∧ Acc 4 x h [(tb, .svs [I64 n, RL n (tabL n z)]), (rb, .svs [I64 0, .sc (.slice none 0 0)])] k cs ∧ S = ⟨[(1, DL l), (2, .sc (.slice none 0 0)), (3, .op tb 0), (7, .op rb 0), (10, x)], h⟩) := ⟨fun k S => _, fun _ _ => Iff.rfl⟩
  refine SW.loop' I (64 - y) ((hI _ _).2 ⟨y, 0, _, _, [], rfl, hy, Nat.zero_le _, sb_refl y, hyC, .nil _ _, rfl⟩) (by repeat' (first | exact rfl | exact trivial | exact int_eq (by omega) | exact int_eq (by (rw [i64_wrap] <;> omega)) | constructor)) ?_
  clear ck cf
  intro m S hIn
  obtain ⟨z, k, x, h, cs, rfl, hz, hk, hyz, hzC, hB, rfl⟩ := (hI _ _).1 hIn
  clear hIn
  have nx := hnx z hz
  cases he : enlI l z with
  | none =>
    rw [he] at nx
    have hzc : z = C := sb_eq hzC (hcm z (enl_none he) hyz)
    subst hzc
    have nx' : PCall Tryz.prog 66 [TB n (tabL n z), DL l, .sc (.slice none 0 0)] (.tup [.agg [SB false, I64 0, I64 0, I64 0], SB false]) := nx
    generalize tabL n z = R at *
    rcases hB.casesH with ⟨e0, e1, rfl, rfl⟩ | ⟨g, hgf, e0, rfl, hle⟩
    · repeat' first | (with_reducible refine And.intro (by omega) ?_) | (refine SW.seq_k fun K hK => ?_) | (refine SW.block ?_) | ((first | refine SW.region ?_ | refine SW.regionZ (id := 8) (Checked.mixed Tryz.checked) ((.one 0 [0, 2, 3, 4] (.one 1 [1, 3, 4] (.one 2 [2, 3, 4] (.alt 3 (.one 4 [4] .done) .nil)))) : OZ) (by kernel_rfl) ?_ | refine SW.regionZ (id := 12) (Checked.mixed Tryz.checked) ((.one 0 [0, 3, 5, 6] (.one 1 [1, 2, 3, 5, 6] (.alt 2 (.alt 3 (.one 4 [4, 6] (.one 5 [5, 6] (.alt 6 .done .nil))) (.alt 4 (.alt 3 (.one 5 [5, 6] (.alt 6 .done .nil)) .nil) .nil)) (.alt 4 (.alt 2 (.alt 3 (.one 5 [5, 6] (.alt 6 .done .nil)) .nil) .nil) .nil)))) : OZ) (by kernel_rfl) ?_ | refine SW.regionD (Checked.mixed Tryz.checked) (by kernel_rfl) ?_ | refine SW.cond ?_ | refine SW.skip ?_ | refine SW.exit ?_ | refine SW.ret ?_ | refine Call.of_pure (nx') ?_ | refine ⟨_, nx', ?_⟩ | (refine allF_i fun b hb => ?_; replace hD := And.intro hb hD; clear hb; try simp only [fresh_cons, fresh_nil, and_true, ne_eq, neF] at hD) | simp only [appK, appOsK]); try simp only [go_sem, hD, true_implies]) | (refine And.intro (by omega) ?_) | (refine ifI (fun hc => ?_) (fun hc => ?_) <;> first | (exfalso; omega) | skip) | ((first | apply hK | ((iterate 1 (clear hK K)); apply hK) | ((iterate 2 (clear hK K)); apply hK) | ((iterate 3 (clear hK K)); apply hK) | ((iterate 4 (clear hK K)); apply hK) | ((iterate 5 (clear hK K)); apply hK)); clear hK K) | (refine And.intro ?_ ?_)
      refine retQ_le (((St.le_say (i := 6) (v := .any) (fun E u hr => .any _)).trans (St.le_freezeP (i := 7) (b := rb) (off := 0) (n := 2) (k := .svs [I64 n, RL n R]) rfl (by simp only [find_cons, go_sem, hD]) (by exact Nat.le_refl 2))).trans St.le_drop) ?_
      simp only [resL_tmp, resL_cellE, resC_ok, resL_nil, tupOf, getN, go_sem, hD]
    · refine Ab.SW.le (hle _) ?_
      have k1 : ¬ g = tb := fun e => by simp [e, fresh_cons] at hgf
      have k2 : ¬ g = rb := fun e => by simp [e, fresh_cons] at hgf
      have k3 : ¬ tb = g := fun e => k1 e.symm
      have k4 : ¬ rb = g := fun e => k2 e.symm
      repeat' first | (with_reducible refine And.intro (by omega) ?_) | (refine SW.seq_k fun K hK => ?_) | (refine SW.block ?_) | ((first | refine SW.region ?_ | refine SW.regionZ (id := 8) (Checked.mixed Tryz.checked) ((.one 0 [0, 2, 3, 4] (.one 1 [1, 3, 4] (.one 2 [2, 3, 4] (.alt 3 (.one 4 [4] .done) .nil)))) : OZ) (by kernel_rfl) ?_ | refine SW.regionZ (id := 12) (Checked.mixed Tryz.checked) ((.one 0 [0, 3, 5, 6] (.one 1 [1, 2, 3, 5, 6] (.alt 2 (.alt 3 (.one 4 [4, 6] (.one 5 [5, 6] (.alt 6 .done .nil))) (.alt 4 (.alt 3 (.one 5 [5, 6] (.alt 6 .done .nil)) .nil) .nil)) (.alt 4 (.alt 2 (.alt 3 (.one 5 [5, 6] (.alt 6 .done .nil)) .nil) .nil) .nil)))) : OZ) (by kernel_rfl) ?_ | refine SW.regionD (Checked.mixed Tryz.checked) (by kernel_rfl) ?_ | refine SW.cond ?_ | refine SW.skip ?_ | refine SW.exit ?_ | refine SW.ret ?_ | refine Call.of_pure (nx') ?_ | refine ⟨_, nx', ?_⟩ | (refine allF_i fun b hb => ?_; replace hD := And.intro hb hD; clear hb; try simp only [fresh_cons, fresh_nil, and_true, ne_eq, neF] at hD) | simp only [appK, appOsK]); try simp only [go_sem, hD, true_implies, k1, k2, k3, k4]) | (refine And.intro (by omega) ?_) | (refine ifI (fun hc => ?_) (fun hc => ?_) <;> first | (exfalso; omega) | skip) | ((first | apply hK | ((iterate 1 (clear hK K)); apply hK) | ((iterate 2 (clear hK K)); apply hK) | ((iterate 3 (clear hK K)); apply hK) | ((iterate 4 (clear hK K)); apply hK) | ((iterate 5 (clear hK K)); apply hK)); clear hK K) | (refine And.intro ?_ ?_)
      refine retQ_le (((St.le_say (i := 6) (v := .any) (fun E u hr => .any _)).trans (St.le_freezeP (i := 7) (b := rb) (off := 0) (n := 2) (k := .svs [I64 n, RL n R]) rfl (by simp only [find_cons, k2, go_sem, hD]) (by exact Nat.le_refl 2))).trans St.le_drop) ?_
      simp only [resL_tmp, resL_cellE, resC_ok, resL_nil, tupOf, getN, go_sem, hD]
  | some i =>
    rw [he] at nx
    have nx' : PCall Tryz.prog 66 [TB n (tabL n z), DL l, .sc (.slice none 0 0)] (.tup [.agg [SB false, I64 i, I64 0, I64 1], SB true]) := nx
    have ap := hap z i hz he
    have hg := enl_grow he
    have hs := enl_some he
    have hzn : z ||| (l.getD i d0).2 < 2 ^ n := or_n hz (h2 _ (getD_mem d0 hs.1)).2
    have hzC2 : Sb (z ||| (l.getD i d0).2) C := by
      obtain ⟨hi, h3, _⟩ := hs
      rw [getD_in d0 hi]
      exact sb_or.2 ⟨hzC, hcl _ (List.getElem_mem hi) (sb_trans h3 hzC)⟩
    have hyz2 := sb_trans hyz (sb_l z (l.getD i d0).2)
    generalize z ||| (l.getD i d0).2 = z2 at *
    have ba : (k + 1) * 32 ≤ 140737488355328 := by omega
    rcases hB.casesH with ⟨e0, e1, rfl, rfl⟩ | ⟨g, hgf, e0, rfl, hle⟩
    · subst e0 e1
      repeat' first | (with_reducible refine And.intro (by omega) ?_) | (refine SW.seq_k fun K hK => ?_) | (refine SW.block ?_) | ((first | refine SW.region ?_ | refine SW.regionZ (id := 8) (Checked.mixed Tryz.checked) ((.one 0 [0, 2, 3, 4] (.one 1 [1, 3, 4] (.one 2 [2, 3, 4] (.alt 3 (.one 4 [4] .done) .nil)))) : OZ) (by kernel_rfl) ?_ | refine SW.regionZ (id := 12) (Checked.mixed Tryz.checked) ((.one 0 [0, 3, 5, 6] (.one 1 [1, 2, 3, 5, 6] (.alt 2 (.alt 3 (.one 4 [4, 6] (.one 5 [5, 6] (.alt 6 .done .nil))) (.alt 4 (.alt 3 (.one 5 [5, 6] (.alt 6 .done .nil)) .nil) .nil)) (.alt 4 (.alt 2 (.alt 3 (.one 5 [5, 6] (.alt 6 .done .nil)) .nil) .nil) .nil)))) : OZ) (by kernel_rfl) ?_ | refine SW.regionD (Checked.mixed Tryz.checked) (by kernel_rfl) ?_ | refine SW.cond ?_ | refine SW.skip ?_ | refine SW.exit ?_ | refine SW.ret ?_ | refine Call.of_pure (nx') ?_ | refine ⟨_, nx', ?_⟩ | refine Call.of_pure (ap) ?_ | refine ⟨_, ap, ?_⟩ | (refine allF_i fun b hb => ?_; replace hD := And.intro hb hD; clear hb; try simp only [fresh_cons, fresh_nil, and_true, ne_eq, neF] at hD) | simp only [appK, appOsK]); try simp only [go_sem, hD, true_implies, ba]) | (refine And.intro (by omega) ?_) | (refine ifI (fun hc => ?_) (fun hc => ?_) <;> first | (exfalso; omega) | skip) | ((first | apply hK | ((iterate 1 (clear hK K)); apply hK) | ((iterate 2 (clear hK K)); apply hK) | ((iterate 3 (clear hK K)); apply hK) | ((iterate 4 (clear hK K)); apply hK) | ((iterate 5 (clear hK K)); apply hK)); clear hK K) | (refine And.intro ?_ ?_)
      all_goals
        refine Rnd.le (St.le_pick [(b, .svs [SB false, I64 i, I64 0, I64 1]), (tb, .svs [I64 n, RL n (tabL n z2)]), (rb, .svs [I64 0, .sc (.slice none 0 0)])] ?_ ?_) (Rnd.sub (64 - z2) (by omega) ((hI _ _).2 ⟨z2, 0 + 1, _, _, _, rfl, hzn, by omega, hyz2, hzC2, Acc.osH (by simp [fresh_cons, fresh_nil, hD]) rfl, rfl⟩) (by repeat' (first | exact rfl | exact trivial | exact int_eq (by omega) | exact int_eq (by (rw [i64_wrap] <;> omega)) | constructor)))
        · repeat' (first | exact (fun x hx => (List.not_mem_nil hx).elim) | refine List.forall_mem_cons.2 ⟨?_, ?_⟩ | exact List.mem_cons_self | apply List.mem_cons_of_mem)
        · simp [fresh_cons, fresh_nil, hD]
    · refine Ab.SW.le (hle _) ?_
      have k1 : ¬ g = tb := fun e => by simp [e, fresh_cons] at hgf
      have k2 : ¬ g = rb := fun e => by simp [e, fresh_cons] at hgf
      have k3 : ¬ tb = g := fun e => k1 e.symm
      have k4 : ¬ rb = g := fun e => k2 e.symm
      repeat' first | (with_reducible refine And.intro (by omega) ?_) | (refine SW.seq_k fun K hK => ?_) | (refine SW.block ?_) | ((first | refine SW.region ?_ | refine SW.regionZ (id := 8) (Checked.mixed Tryz.checked) ((.one 0 [0, 2, 3, 4] (.one 1 [1, 3, 4] (.one 2 [2, 3, 4] (.alt 3 (.one 4 [4] .done) .nil)))) : OZ) (by kernel_rfl) ?_ | refine SW.regionZ (id := 12) (Checked.mixed Tryz.checked) ((.one 0 [0, 3, 5, 6] (.one 1 [1, 2, 3, 5, 6] (.alt 2 (.alt 3 (.one 4 [4, 6] (.one 5 [5, 6] (.alt 6 .done .nil))) (.alt 4 (.alt 3 (.one 5 [5, 6] (.alt 6 .done .nil)) .nil) .nil)) (.alt 4 (.alt 2 (.alt 3 (.one 5 [5, 6] (.alt 6 .done .nil)) .nil) .nil) .nil)))) : OZ) (by kernel_rfl) ?_ | refine SW.regionD (Checked.mixed Tryz.checked) (by kernel_rfl) ?_ | refine SW.cond ?_ | refine SW.skip ?_ | refine SW.exit ?_ | refine SW.ret ?_ | refine Call.of_pure (nx') ?_ | refine ⟨_, nx', ?_⟩ | refine Call.of_pure (ap) ?_ | refine ⟨_, ap, ?_⟩ | (refine allF_i fun b hb => ?_; replace hD := And.intro hb hD; clear hb; try simp only [fresh_cons, fresh_nil, and_true, ne_eq, neF] at hD) | simp only [appK, appOsK]); try simp only [go_sem, hD, true_implies, ba, k1, k2, k3, k4, e0]) | (refine And.intro (by omega) ?_) | (refine ifI (fun hc => ?_) (fun hc => ?_) <;> first | (exfalso; omega) | skip) | ((first | apply hK | ((iterate 1 (clear hK K)); apply hK) | ((iterate 2 (clear hK K)); apply hK) | ((iterate 3 (clear hK K)); apply hK) | ((iterate 4 (clear hK K)); apply hK) | ((iterate 5 (clear hK K)); apply hK)); clear hK K) | (refine And.intro ?_ ?_)
      all_goals
        refine Rnd.le (St.le_pick [(b, .svs (cs ++ [SB false, I64 i, I64 0, I64 1])), (tb, .svs [I64 n, RL n (tabL n z2)]), (rb, .svs [I64 0, .sc (.slice none 0 0)])] ?_ ?_) (Rnd.sub (64 - z2) (by omega) ((hI _ _).2 ⟨z2, k + 1, _, _, _, rfl, hzn, by omega, hyz2, hzC2, Acc.osH (by simp [fresh_cons, fresh_nil, hD]) (by rw [List.length_append, ← e0, Nat.add_mul, Nat.one_mul]; rfl), rfl⟩) (by repeat' (first | exact rfl | exact trivial | exact int_eq (by omega) | exact int_eq (by (rw [i64_wrap] <;> omega)) | constructor)))
        · repeat' (first | exact (fun x hx => (List.not_mem_nil hx).elim) | refine List.forall_mem_cons.2 ⟨?_, ?_⟩ | exact List.mem_cons_self | apply List.mem_cons_of_mem)
        · simp [fresh_cons, fresh_nil, hD]

set_option maxHeartbeats 1000000 in
set_option maxRecDepth 20000 in
theorem run_p (n y : Nat) (l : List D2) (hn : n ≤ 6) (hy : y < 2 ^ n) (h2 : In2 n l) (h64 : l.length ≤ 64) :
    PCall Tryz.prog 12 [TB n (tabL n y), DL l, .sc (.slice none 0 0)] (.tup [TB n (tabL n (cl l y)), I64 0]) := by
  have st := steps_p n y l hn hy h2 h64
  generalize tabL n (cl l y) = R at *
  generalize tabL n y = L at *
  refine Call.enter' (N := 21) (rs := [.cell 6 40, .tmp 7]) Tryz.func12 rfl rfl rfl (by decide) rfl ?_; simp only [argT]; have hD : (0 : Nat) = 0 := rfl
  repeat' first | (with_reducible refine And.intro (by omega) ?_) | (refine SW.seq_k fun K hK => ?_) | (refine SW.block ?_) | ((first | refine SW.region ?_ | refine SW.regionD (Checked.mixed Tryz.checked) (by kernel_rfl) ?_ | refine SW.cond ?_ | refine SW.skip ?_ | refine SW.exit ?_ | refine SW.ret ?_ | refine Call.of_pure (st) ?_ | refine ⟨_, st, ?_⟩ | (refine allF_i fun b hb => ?_; replace hD := And.intro hb hD; clear hb; try simp only [fresh_cons, fresh_nil, and_true, ne_eq, neF] at hD) | simp only [appK, appOsK]); try simp only [go_sem, hD]) | (refine And.intro (by omega) ?_) | (refine ifI (fun hc => ?_) (fun hc => ?_) <;> first | (exfalso; omega) | skip) | ((first | apply hK | ((iterate 1 (clear hK K)); apply hK) | ((iterate 2 (clear hK K)); apply hK) | ((iterate 3 (clear hK K)); apply hK) | ((iterate 4 (clear hK K)); apply hK) | ((iterate 5 (clear hK K)); apply hK)); clear hK K)
  apply ret_cell (i := 6) (n := 2); exact rfl; (simp only [go_sem, hD]; try rfl); (first | exact Nat.le_refl _ | decide); simp only [resL_tmp, resL_cellE, resC_ok, resL_nil, tupOf, getN, go_sem, hD]
end Go.Proofs.YtmcmphmhjikgkaaGreatDoor
