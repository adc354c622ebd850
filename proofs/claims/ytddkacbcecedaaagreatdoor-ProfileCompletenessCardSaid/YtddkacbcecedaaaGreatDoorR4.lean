/- Contracts: cmp.Or, Compare of the program. -/
import Derived.Test.YtddkacbcecedaaaGreatDoorZ8
import Derived.Test.YtddkacbcecedaaaGreatDoorR2
set_option linter.unusedSimpArgs false
set_option linter.unusedVariables false
set_option linter.unusedSectionVars false
namespace Go.Ab
open Go
/-- The first number that is not 0. -/
def orS : List Int → Int
  | [] => 0
  | x :: l => if x = 0 then orS l else x
theorem orS_step {l : List Int} {j : Nat} (h : j < l.length) : orS (l.drop j) = if l.getD j 0 = 0 then orS (l.drop (j + 1)) else l.getD j 0 := by
  have g : l.getD j 0 = l[j] := by simp [List.getD_eq_getElem?_getD, h]
  rw [List.drop_eq_getElem_cons h, g]
  rfl
theorem orS_end {l : List Int} {j : Nat} (h : ¬ j < l.length) : orS (l.drop j) = 0 := by
  rw [List.drop_of_length_le (by omega)]
  rfl
end Go.Ab
namespace Go.Proofs.YtddkacbcecedaaaGreatDoor
open Go Go.Ab
variable [Gl] [Tabs]

theorem or_c (l : List Int) (hl : l.length ≤ 9223372036854775807) : PCall Tryz.prog 79 [ints .i64 l] (I64 (orS l)) := by
  obtain ⟨R, hR⟩ : ∃ R, R = orS l := ⟨_, rfl⟩
  rw [← hR]
  refine Call.enter' (N := 18) (rs := [.tmp 2]) Tryz.func79 rfl rfl rfl (by decide) rfl ?_; simp only [argT]; have hD : (0 : Nat) = 0 := rfl
  repeat' first | (with_reducible refine And.intro (by omega) ?_) | (refine SW.seq_k fun K hK => ?_) | (refine SW.block ?_) | ((first | refine SW.region ?_ | refine SW.regionD (Checked.mixed Tryz.checked) (by kernel_rfl) ?_ | refine SW.cond ?_ | refine SW.skip ?_ | refine SW.exit ?_ | refine SW.ret ?_ | (refine allF_i fun b hb => ?_; replace hD := And.intro hb hD; clear hb; try simp only [fresh_cons, fresh_nil, and_true, ne_eq, neF] at hD) | simp only [appK, appOsK]); try simp only [go_sem, hD]) | (refine And.intro (by omega) ?_) | (refine ifI (fun hc => ?_) (fun hc => ?_) <;> first | (exfalso; omega) | skip) | ((first | apply hK | ((iterate 1 (clear hK K)); apply hK) | ((iterate 2 (clear hK K)); apply hK) | ((iterate 3 (clear hK K)); apply hK) | ((iterate 4 (clear hK K)); apply hK) | ((iterate 5 (clear hK K)); apply hK)); clear hK K)
  obtain ⟨Ij, hIj⟩ : ∃ I : Nat → St → Prop, ∀ n S, I n S ↔ (∃ j : Nat, n = l.length - j ∧ j ≤ l.length ∧ (R = orS (l.drop j)) ∧ S = ⟨[(8, I64 j), (7, I64 l.length), (6, ints .i64 l), (3, I64 0)], []⟩) := ⟨fun n S => _, fun _ _ => Iff.rfl⟩
  refine SW.loop' Ij (l.length) ((hIj _ _).2 ⟨0, rfl, Nat.zero_le _, hR, rfl⟩) (by repeat' (first | exact rfl | exact trivial | exact int_eq (by omega) | exact int_eq (by (rw [i64_wrap] <;> omega)) | constructor)) ?_
  intro n S hIn
  obtain ⟨j, rfl, hj, hC, rfl⟩ := (hIj _ _).1 hIn
  clear hIn
  clear hR
  have ie : ((j : Nat) : Int).toNat = j := Int.toNat_natCast _
  have i0 : (0 : Int) ≤ ((j : Nat) : Int) := by omega
  by_cases h1 : j < l.length
  · have h1i : ((j : Nat) : Int) < ((l.length : Nat) : Int) := by omega
    rw [orS_step h1] at hC
    by_cases hz : l.getD j 0 = 0
    · rw [if_pos hz] at hC
      repeat' first | (with_reducible refine And.intro (by omega) ?_) | (refine SW.seq_k fun K hK => ?_) | (refine SW.block ?_) | ((first | refine SW.region ?_ | refine SW.regionD (Checked.mixed Tryz.checked) (by kernel_rfl) ?_ | refine SW.cond ?_ | refine SW.skip ?_ | refine SW.exit ?_ | refine SW.ret ?_ | (refine allF_i fun b hb => ?_; replace hD := And.intro hb hD; clear hb; try simp only [fresh_cons, fresh_nil, and_true, ne_eq, neF] at hD) | simp only [appK, appOsK]); try simp only [go_sem, hD, h1i, ie, i0, hz]) | (refine And.intro (by omega) ?_) | (refine ifI (fun hc => ?_) (fun hc => ?_) <;> first | (exfalso; omega) | skip) | ((first | apply hK | ((iterate 1 (clear hK K)); apply hK) | ((iterate 2 (clear hK K)); apply hK) | ((iterate 3 (clear hK K)); apply hK) | ((iterate 4 (clear hK K)); apply hK) | ((iterate 5 (clear hK K)); apply hK)); clear hK K)
      refine Rnd.sub (l.length - (j + 1)) (by omega) ((hIj _ _).2 ⟨j + 1, rfl, by omega, hC, rfl⟩) (by repeat' (first | exact rfl | exact trivial | exact int_eq (by omega) | exact int_eq (by (rw [i64_wrap] <;> omega)) | constructor))
    · rw [if_neg hz] at hC
      subst hC
      repeat' first | (with_reducible refine And.intro (by omega) ?_) | (refine SW.seq_k fun K hK => ?_) | (refine SW.block ?_) | ((first | refine SW.region ?_ | refine SW.regionD (Checked.mixed Tryz.checked) (by kernel_rfl) ?_ | refine SW.cond ?_ | refine SW.skip ?_ | refine SW.exit ?_ | refine SW.ret ?_ | (refine allF_i fun b hb => ?_; replace hD := And.intro hb hD; clear hb; try simp only [fresh_cons, fresh_nil, and_true, ne_eq, neF] at hD) | simp only [appK, appOsK]); try simp only [go_sem, hD, h1i, ie, i0, hz]) | (refine And.intro (by omega) ?_) | (refine ifI (fun hc => ?_) (fun hc => ?_) <;> first | (exfalso; omega) | skip) | ((first | apply hK | ((iterate 1 (clear hK K)); apply hK) | ((iterate 2 (clear hK K)); apply hK) | ((iterate 3 (clear hK K)); apply hK) | ((iterate 4 (clear hK K)); apply hK) | ((iterate 5 (clear hK K)); apply hK)); clear hK K)
      refine ret_pure ?_; simp only [resL_tmp, resL_nil, tupOf, go_sem, hD]
  · have h1i : ¬ ((j : Nat) : Int) < ((l.length : Nat) : Int) := by omega
    rw [orS_end h1] at hC
    subst hC
    repeat' first | (with_reducible refine And.intro (by omega) ?_) | (refine SW.seq_k fun K hK => ?_) | (refine SW.block ?_) | ((first | refine SW.region ?_ | refine SW.regionD (Checked.mixed Tryz.checked) (by kernel_rfl) ?_ | refine SW.cond ?_ | refine SW.skip ?_ | refine SW.exit ?_ | refine SW.ret ?_ | (refine allF_i fun b hb => ?_; replace hD := And.intro hb hD; clear hb; try simp only [fresh_cons, fresh_nil, and_true, ne_eq, neF] at hD) | simp only [appK, appOsK]); try simp only [go_sem, hD, h1i]) | (refine And.intro (by omega) ?_) | (refine ifI (fun hc => ?_) (fun hc => ?_) <;> first | (exfalso; omega) | skip) | ((first | apply hK | ((iterate 1 (clear hK K)); apply hK) | ((iterate 2 (clear hK K)); apply hK) | ((iterate 3 (clear hK K)); apply hK) | ((iterate 4 (clear hK K)); apply hK) | ((iterate 5 (clear hK K)); apply hK)); clear hK K)
    refine ret_pure ?_; simp only [resL_tmp, resL_nil, tupOf, go_sem, hD]

theorem compare_p (k n : Int) (s : ByteArray) (k' n' : Int) (s' : ByteArray) : PCall Tryz.prog 61 [VS k n s, VS k' n' s'] (I64 (cmpV k n s k' n' s')) := by
  have c1 := cmp_i k k'
  have c2 := cmp_l n n'
  have c3 := compare_c s s'
  have hc : cmpV k n s k' n' s' = orS [sgn k k', sgn n n', Lib.compareBytes s.data.toList s'.data.toList] := by
    unfold cmpV orS orS orS orS
    by_cases h1 : sgn k k' = 0
    · rw [if_pos h1, if_pos h1]
      by_cases h2 : sgn n n' = 0
      · rw [if_pos h2, if_pos h2]
        split <;> simp_all
      · rw [if_neg h2, if_neg h2]
    · rw [if_neg h1, if_neg h1]
  have orc := or_c [sgn k k', sgn n n', Lib.compareBytes s.data.toList s'.data.toList] (by simp)
  rw [← hc] at orc
  refine Call.enter' (N := 22) (rs := [.tmp 4]) Tryz.func61 rfl rfl rfl (by decide) rfl ?_; simp only [argT]; have hD : (0 : Nat) = 0 := rfl
  repeat' first | (with_reducible refine And.intro (by omega) ?_) | (refine SW.seq_k fun K hK => ?_) | (refine SW.block ?_) | ((first | refine SW.region ?_ | refine SW.regionY [16] (id := 1) (Checked.mixed Tryz.checked) ((.one 0 [0, 1, 4, 9, 14, 15, 16, 17] (.one 1 [1, 4, 9, 14, 15, 16, 17] (.one 2 [2, 3, 4, 9, 14, 15, 16, 17] (.one 3 [3, 4, 9, 14, 15, 16, 17] (.one 4 [4, 9, 14, 15, 16, 17] (.one 5 [5, 6, 9, 14, 15, 16, 17] (.one 6 [6, 9, 14, 15, 16, 17] (.one 7 [7, 8, 9, 14, 15, 16, 17] (.one 8 [8, 9, 14, 15, 16, 17] (.one 9 [9, 14, 15, 16, 17] (.one 10 [10, 11, 14, 15, 16, 17] (.one 11 [11, 14, 15, 16, 17] (.one 12 [12, 13, 14, 15, 16, 17] (.one 13 [13, 14, 15, 16, 17] (.one 14 [14, 15, 16, 17] (.alt 15 false (.alt 16 true (.one 17 [17] .done) .nil) .nil)))))))))))))))) : OY) (by kernel_rfl) ?_ | refine SW.regionD (Checked.mixed Tryz.checked) (by kernel_rfl) ?_ | refine SW.cond ?_ | refine SW.skip ?_ | refine SW.exit ?_ | refine SW.ret ?_ | refine Call.of_pure (c1) ?_ | refine ⟨_, c1, ?_⟩ | refine Call.of_pure (c2) ?_ | refine ⟨_, c2, ?_⟩ | refine Call.of_pure (c3) ?_ | refine ⟨_, c3, ?_⟩ | (refine allF_i fun b hb => ?_; replace hD := And.intro hb hD; clear hb; try simp only [fresh_cons, fresh_nil, and_true, ne_eq, neF] at hD) | simp only [appK, appOsK]); try simp only [go_sem, hD]) | (refine And.intro (by omega) ?_) | (refine ifI (fun hc => ?_) (fun hc => ?_) <;> first | (exfalso; omega) | skip) | ((first | apply hK | ((iterate 1 (clear hK K)); apply hK) | ((iterate 2 (clear hK K)); apply hK) | ((iterate 3 (clear hK K)); apply hK) | ((iterate 4 (clear hK K)); apply hK) | ((iterate 5 (clear hK K)); apply hK)); clear hK K) | (refine And.intro ?_ ?_)
  refine Ab.Call.freeze_ints 0 .i64 [sgn k k', sgn n n', Lib.compareBytes s.data.toList s'.data.toList] (by simp) rfl rfl (by rw [find_cons, if_pos rfl]) (by simp [Blk.cells]) ?_
  refine Call.of_pure orc ?_
  simp only [go_sem, hD]
  repeat' first | (with_reducible refine And.intro (by omega) ?_) | (refine SW.seq_k fun K hK => ?_) | (refine SW.block ?_) | ((first | refine SW.region ?_ | refine SW.regionZ (id := 1) (Checked.mixed Tryz.checked) ((.one 0 [0, 1, 4, 9, 14, 15, 16, 17] (.one 1 [1, 4, 9, 14, 15, 16, 17] (.one 2 [2, 3, 4, 9, 14, 15, 16, 17] (.one 3 [3, 4, 9, 14, 15, 16, 17] (.one 4 [4, 9, 14, 15, 16, 17] (.one 5 [5, 6, 9, 14, 15, 16, 17] (.one 6 [6, 9, 14, 15, 16, 17] (.one 7 [7, 8, 9, 14, 15, 16, 17] (.one 8 [8, 9, 14, 15, 16, 17] (.one 9 [9, 14, 15, 16, 17] (.one 10 [10, 11, 14, 15, 16, 17] (.one 11 [11, 14, 15, 16, 17] (.one 12 [12, 13, 14, 15, 16, 17] (.one 13 [13, 14, 15, 16, 17] (.one 14 [14, 15, 16, 17] (.alt 15 (.one 16 [16, 17] (.one 17 [17] .done)) .nil)))))))))))))))) : OZ) (by kernel_rfl) ?_ | refine SW.regionD (Checked.mixed Tryz.checked) (by kernel_rfl) ?_ | refine SW.cond ?_ | refine SW.skip ?_ | refine SW.exit ?_ | refine SW.ret ?_ | (refine allF_i fun b hb => ?_; replace hD := And.intro hb hD; clear hb; try simp only [fresh_cons, fresh_nil, and_true, ne_eq, neF] at hD) | simp only [appK, appOsK]); try simp only [go_sem, hD]) | (refine And.intro (by omega) ?_) | (refine ifI (fun hc => ?_) (fun hc => ?_) <;> first | (exfalso; omega) | skip) | ((first | apply hK | ((iterate 1 (clear hK K)); apply hK) | ((iterate 2 (clear hK K)); apply hK) | ((iterate 3 (clear hK K)); apply hK) | ((iterate 4 (clear hK K)); apply hK) | ((iterate 5 (clear hK K)); apply hK)); clear hK K) | (refine And.intro ?_ ?_)
  refine ret_pure ?_; simp only [resL_tmp, resL_nil, tupOf, go_sem, hD]
end Go.Proofs.YtddkacbcecedaaaGreatDoor
