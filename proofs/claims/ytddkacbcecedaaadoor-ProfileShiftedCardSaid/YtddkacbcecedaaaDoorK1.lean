/- Shifted numbers have the same outliers, and these lie outside the quartiles. -/
import Derived.Test.YtddkacbcecedaaaDoorM5
import Derived.Test.YtddkacbcecedaaaDoorM6
set_option linter.unusedSimpArgs false
set_option linter.unusedVariables false
set_option linter.unusedSectionVars false
namespace Go.Proofs.YtddkacbcecedaaaDoor
open Go Go.Ab Go.Ab.A34
theorem sgn_add (a b c : Int) : sgn (a + c) (b + c) = sgn a b := by
  unfold sgn
  have e1 : (a + c < b + c) = (a < b) := propext ⟨fun h => by omega, fun h => by omega⟩
  have e2 : (b + c < a + c) = (b < a) := propext ⟨fun h => by omega, fun h => by omega⟩
  simp only [e1, e2]
def shV (d : Int) (v : V3) : V3 := (v.1, v.2.1 + d, v.2.2)
theorem cmp3_sh (d : Int) (x y : V3) : cmp3 (shV d x) (shV d y) = cmp3 x y := by
  unfold cmp3 shV
  rw [cmpV_lex, cmpV_lex, sgn_add]
theorem sort_sh (d : Int) (l : List V3) : sortV (l.map (shV d)) = (sortV l).map (shV d) := by
  refine sort_is ?_ ((sortV_perm l).symm.map _)
  rw [List.pairwise_map]
  exact (sortV_sorted l).imp fun h => by rw [cmp3_sh]; exact h
theorem nums_sh (d : Int) (l : List V3) : numsOf (l.map (shV d)) = (numsOf l).map (· + d) := by
  unfold numsOf
  rw [List.filter_map, List.map_map, List.map_map]
  rfl
theorem getD_sh (d : Int) (L : List Int) (j : Nat) (h : j < L.length) : (L.map (· + d)).getD j 0 = L.getD j 0 + d := by
  simp [List.getD_eq_getElem?_getD, h]
def shR (d : Int) (r : R3) : R3 := (r.1, r.2.map (shV d))
theorem rows_sh (d : Int) (l : List Int) : (colT (l.map (· + d))).rows = (colT l).rows.map (shR d) := by
  unfold colT
  simp only [List.length_map, List.map_map]
  refine List.map_congr_left fun j hj => ?_
  have hj := List.mem_range.1 hj
  unfold cellR shR
  simp only [Function.comp, List.map_cons, List.map_nil]
  rw [getD_sh d l j hj]
  rfl
theorem col_one (l : List Int) : ∀ r ∈ (colT l).rows, ∃ j, j < l.length ∧ r = cellR l j := fun r hr => by
  unfold colT at hr
  obtain ⟨j, hj, rfl⟩ := List.mem_map.1 hr
  exact ⟨j, List.mem_range.1 hj, rfl⟩
theorem sh_cell (d : Int) (l : List Int) : ∀ r ∈ (colT l).rows, (shR d r).2.getD 0 v0 = shV d (r.2.getD 0 v0) := fun r hr => by
  obtain ⟨j, _, rfl⟩ := col_one l r hr
  rfl
theorem col_sh (d : Int) (l : List Int) : colS (colT (l.map (· + d))) 0 = (colS (colT l) 0).map (shV d) := by
  unfold colS
  rw [rows_sh, ← sort_sh, List.map_map, List.map_map]
  congr 1
  exact List.map_congr_left fun r hr => sh_cell d l r hr
theorem outB_sh (q1 q3 d : Int) (v : V3) : outB (q1 + d) (q3 + d) (shV d v) = outB q1 q3 v := by
  unfold outB shV
  have e1 : (v.2.1 + d < q1 + d) = (v.2.1 < q1) := propext ⟨fun h => by omega, fun h => by omega⟩
  have e2 : (q3 + d < v.2.1 + d) = (q3 < v.2.1) := propext ⟨fun h => by omega, fun h => by omega⟩
  have e3 : q1 + d - (v.2.1 + d) = q1 - v.2.1 := by omega
  have e4 : q3 + d - (q1 + d) = q3 - q1 := by omega
  have e5 : v.2.1 + d - (q3 + d) = v.2.1 - q3 := by omega
  simp only [e1, e2, e3, e4, e5]
theorem outRows_sh (q1 q3 d : Int) (l : List Int) : outRows (q1 + d) (q3 + d) 0 ((colT l).rows.map (shR d)) = outRows q1 q3 0 (colT l).rows := by
  unfold outRows
  rw [List.filter_map, List.map_map]
  have e : (colT l).rows.filter ((fun r => outB (q1 + d) (q3 + d) (r.2.getD 0 v0)) ∘ shR d) = (colT l).rows.filter fun r => outB q1 q3 (r.2.getD 0 v0) :=
    List.filter_congr fun r hr => by
      show outB _ _ ((shR d r).2.getD 0 v0) = _
      rw [sh_cell d l r hr, outB_sh]
  rw [e]
  rfl
theorem shift_out (l : List Int) (d : Int) : outS (colT (l.map (· + d))) 0 = outS (colT l) 0 := by
  unfold outS
  rw [col_sh, nums_sh, List.length_map]
  by_cases h : (numsOf (colS (colT l) 0)).length < 4
  · rw [if_pos h, if_pos h]
  · rw [if_neg h, if_neg h, rows_sh]
    unfold q1S q3S
    rw [List.length_map, getD_sh d _ _ (by omega), getD_sh d _ _ (by omega), outRows_sh]
theorem find_from [Gl] [Tabs] (l : List Int) (j : Nat) (hj : j < l.length) : ∀ n k, k + n = l.length → k ≤ j → findI ((j + 1 : Nat) : Int) k ((colT l).rows.drop k) = some j
  | 0, k, h, hk => by omega
  | n + 1, k, h, hk => by
    have hlen : (colT l).rows.length = l.length := by unfold colT; simp
    rw [findI_step (by omega)]
    have hg : (colT l).rows.getD k r0 = cellR l k := by
      unfold colT
      have : k < l.length := by omega
      simp [List.getD_eq_getElem?_getD, this]
    rw [hg]
    by_cases e : k = j
    · subst e
      rw [if_pos (by rfl)]
    · rw [if_neg (by show ¬ ((k + 1 : Nat) : Int) = _; omega)]
      exact find_from l j hj n (k + 1) (by omega) (by omega)
theorem out_prop [Gl] [Tabs] (l : List Int) : ∃ q1 q3 ok, quartS (numsOf (colS (colT l) 0)) = .tup [I64 q1, I64 q3, SB ok] ∧
    ∀ id ∈ outS (colT l) 0, ok = true ∧ ∃ j, j < l.length ∧ findI id 0 (colT l).rows = some j ∧ (l.getD j 0 < q1 ∨ q3 < l.getD j 0) := by
  unfold quartS outS
  by_cases h : (numsOf (colS (colT l) 0)).length < 4
  · rw [if_pos h, if_pos h]
    exact ⟨0, 0, false, rfl, fun id hid => by cases hid⟩
  · rw [if_neg h, if_neg h]
    refine ⟨_, _, true, rfl, fun id hid => ⟨rfl, ?_⟩⟩
    unfold outRows at hid
    obtain ⟨r, hr, rfl⟩ := List.mem_map.1 hid
    obtain ⟨hr, ho⟩ := List.mem_filter.1 hr
    obtain ⟨j, hj, rfl⟩ := col_one l r hr
    refine ⟨j, hj, find_from l j hj l.length 0 (by omega) (Nat.zero_le _), ?_⟩
    have ho : outB _ _ (1, l.getD j 0, ⟨#[]⟩) = true := ho
    unfold outB at ho
    simp only [Bool.and_eq_true, Bool.or_eq_true, decide_eq_true_eq] at ho
    omega
end Go.Proofs.YtddkacbcecedaaaDoor
