/- The plain law of partial assignments: further columns of zeros stand for none. -/
import Derived.Test.YtockdinjmnkdoaaP6
import Derived.Test.YtockdinjmnkdoaaR9
set_option linter.unusedSimpArgs false
set_option linter.unusedVariables false
namespace Go.Proofs.Ytockdinjmnkdoaa
open Go Go.Ab Go.Ab.A40

theorem least_of {m : List (List Int)} {u v row cols : List Int} (H : HInv m (wid m) m.length u v row) (C : Cols m (wid m) row cols) : ∀ L, isS m L false = true → sumS m cols ≤ sumS m L := by
  have hl : (v.take (wid m)).length = wid m := by rw [List.length_take, H.lv]; omega
  have hp : okP m u (v.take (wid m)) = true := by
    refine okP_iff.2 ⟨⟨H.lu, hl⟩, fun k hk => ?_, fun i hi => ?_⟩
    · rw [hl] at hk
      have := H.vb hk
      exact okV_iff.2 (by rw [take_get hk]; omega)
    · rw [H.lu] at hi
      have := H.ub i hi
      refine okU_iff.2 ⟨by omega, fun k hk => ?_⟩
      rw [hl] at hk
      have := H.feas i k hi hk
      unfold sl at this
      rw [take_get hk]
      omega
  have he : provesS m u (v.take (wid m)) = sumS m cols := by
    rw [provesS, if_pos hp, hl, H.lu, H.sumv C]
    have := H.step C m.length (Nat.le_refl _)
    rw [sumS, C.len]
    omega
  intro L hL
  rw [← he]
  exact weak hp hL

theorem opp_len (m : List (List Int)) (more : Nat) : (opp m more).length = m.length := by simp [opp]

theorem oppR_get (more : Nat) (r : List Int) (q : Nat) : (oppR more r).getD q 0 = -(r.getD q 0) := by
  unfold oppR
  simp only [List.getD_eq_getElem?_getD, List.getElem?_append, List.length_map, List.getElem?_map, List.getElem?_replicate]
  split
  · rename_i h; rw [List.getElem?_eq_getElem h]; rfl
  · rename_i h; rw [List.getElem?_eq_none (Nat.le_of_not_lt h)]; split <;> rfl

theorem opp_row (m : List (List Int)) (more : Nat) {i : Nat} (hi : i < m.length) : (opp m more).getD i [] = oppR more (m.getD i []) := by
  unfold opp
  rw [List.getD_eq_getElem?_getD, List.getElem?_map, List.getElem?_eq_getElem hi, getD_list _ _ _ hi]; rfl

theorem opp_get (m : List (List Int)) (more i j : Nat) : ((opp m more).getD i []).getD j 0 = -((m.getD i []).getD j 0) := by
  by_cases hi : i < m.length
  · rw [opp_row m more hi, oppR_get]
  · rw [getD_ge (l := opp m more) (by rw [opp_len]; omega), getD_ge (l := m) (by omega)]; rfl

theorem opp_wid {m : List (List Int)} : wid (opp m m.length) = wid m + m.length := by
  cases m with
  | nil => rfl
  | cons r m => unfold wid; rw [opp_row _ _ (by simp)]; simp [oppR]

theorem opp_rows {m : List (List Int)} (hv : VMat m) {i : Nat} (hi : i < m.length) : ((opp m m.length).getD i []).length = wid m + m.length := by
  rw [opp_row _ _ hi, ← hv.w i hi]; simp [oppR]

theorem opp_small {m : List (List Int)} (hv : VMat m) (more : Nat) : Small (opp m more) := fun i j => by
  rw [opp_get]
  have := hv.small i j
  omega

/-- A further column stands for none. -/
def prt (n : Nat) (x : Int) : Int := if (n : Int) ≤ x then -1 else x

theorem term_prt {m : List (List Int)} (hv : VMat m) {L L' : List Int} (more : Nat) {i : Nat} (hi : i < m.length) (h0 : 0 ≤ L.getD i 0) (e : L'.getD i 0 = prt (wid m) (L.getD i 0)) : term (opp m more) L i = -(term m L' i) := by
  unfold term
  rw [if_pos h0, e, opp_get, prt]
  have hw := hv.w i hi
  split
  · rw [if_neg (by decide), getD_ge (l := m.getD i []) (by omega)]
  · rfl

theorem sum_prt {m : List (List Int)} (hv : VMat m) {L L' : List Int} (more : Nat) : ∀ j, j ≤ m.length → (∀ i, i < j → 0 ≤ L.getD i 0) → (∀ i, i < j → L'.getD i 0 = prt (wid m) (L.getD i 0)) → sumTo (opp m more) L j = -(sumTo m L' j)
  | 0, _, _, _ => rfl
  | j + 1, hj, h0, he => by
    rw [sumTo, sumTo, sum_prt hv more j (by omega) (fun i hi => h0 i (by omega)) (fun i hi => he i (by omega)), term_prt hv more (by omega) (h0 j (by omega)) (he j (by omega))]
    omega

theorem okC_true {m : List (List Int)} {L : List Int} (h : isS m L true = true) {i : Nat} (hi : i < L.length) : L.getD i 0 = -1 ∨ (0 ≤ L.getD i 0 ∧ L.getD i 0 < wid m ∧ ∀ k, k < i → L.getD k 0 ≠ L.getD i 0) := by
  have := (isS_iff.1 h).2 i hi
  simp only [okC, Bool.or_eq_true, Bool.and_eq_true, decide_eq_true_eq, all_range_iff] at this
  rcases this with ⟨h, _⟩ | ⟨⟨h1, h2⟩, h3⟩
  · exact .inl h
  · exact .inr ⟨h1, h2, fun k hk => by simpa using h3 k hk⟩

/-- A partial assignment as a whole one of the wider matrix. -/
def full (n : Nat) (L : List Int) : List Int := (List.range L.length).map fun (i : Nat) => if L.getD i 0 = -1 then (n : Int) + (i : Int) else L.getD i 0

theorem full_get {n : Nat} {L : List Int} {i : Nat} (hi : i < L.length) : (full n L).getD i 0 = if L.getD i 0 = -1 then (n : Int) + (i : Int) else L.getD i 0 := by
  unfold full
  simp [List.getD_eq_getElem?_getD, List.getElem?_map, List.getElem?_range hi]

theorem full_is {m : List (List Int)} {L : List Int} (h : isS m L true = true) : isS (opp m m.length) (full (wid m) L) false = true := by
  have hl := (isS_iff.1 h).1
  have hfl : (full (wid m) L).length = L.length := by simp [full]
  refine isS_yes (by rw [hfl, opp_len, hl]) fun i hi => ?_
  rw [hfl] at hi
  have hi' := okC_true h hi
  refine okC_good ?_ ?_ fun k hk => ?_
  · rw [full_get hi]; split <;> omega
  · rw [full_get hi, opp_wid]; split <;> omega
  · rw [full_get hi, full_get (Nat.lt_trans hk hi)]
    have hk' := okC_true h (Nat.lt_trans hk hi)
    split <;> split
    · omega
    · rename_i a b
      rcases hi' with h3 | ⟨_, h3, _⟩
      · exact absurd h3 b
      · omega
    · rename_i a b
      rcases hk' with h3 | ⟨_, h3, _⟩
      · exact absurd h3 a
      · omega
    · rename_i a b
      rcases hi' with h3 | ⟨_, _, h3⟩
      · exact absurd h3 b
      · exact h3 k hk

theorem full_sum {m : List (List Int)} (hv : VMat m) {L : List Int} (h : isS m L true = true) : sumS (opp m m.length) (full (wid m) L) = -(sumS m L) := by
  have hl := (isS_iff.1 h).1
  have hfl : (full (wid m) L).length = L.length := by simp [full]
  rw [sumS, sumS, hfl]
  refine sum_prt hv _ _ (by omega) (fun i hi => ?_) fun i hi => ?_
  · have := okC_true h hi
    rw [full_get hi]; split <;> omega
  · have := okC_true h hi
    rw [full_get hi, prt]
    split
    · rw [if_pos (by omega)]; assumption
    · rw [if_neg (by omega)]

theorem map_prt_get {n : Nat} {cols : List Int} {i : Nat} (hi : i < cols.length) : (cols.map (prt n)).getD i 0 = prt n (cols.getD i 0) := by
  simp [List.getD_eq_getElem?_getD, List.getElem?_eq_getElem hi]

theorem part_sum {m : List (List Int)} (hv : VMat m) {row cols : List Int} (C : Cols (opp m m.length) (wid m + m.length) row cols) {j : Nat} (hj : j ≤ m.length) : sumTo (opp m m.length) cols j = -(sumTo m (cols.map (prt (wid m))) j) := by
  have hl := C.len
  rw [opp_len] at hl
  refine sum_prt hv _ _ hj (fun i hi => ?_) fun i hi => map_prt_get (by omega)
  obtain ⟨k, _, e, _⟩ := C.col i (by rw [opp_len]; omega)
  omega

theorem part_is {m : List (List Int)} {row cols : List Int} (C : Cols (opp m m.length) (wid m + m.length) row cols) : isS m (cols.map (prt (wid m))) true = true := by
  have hl := C.len
  rw [opp_len] at hl
  refine isS_yes (by simpa using hl) fun i hi => ?_
  rw [List.length_map] at hi
  obtain ⟨k, hk, e, _⟩ := C.col i (by rw [opp_len]; omega)
  by_cases h : (wid m : Int) ≤ cols.getD i 0
  · exact okC_skip (by rw [map_prt_get hi, prt, if_pos h])
  · have ei : (cols.map (prt (wid m))).getD i 0 = cols.getD i 0 := by rw [map_prt_get hi, prt, if_neg h]
    refine okC_good (by omega) (by omega) fun q hq => ?_
    rw [ei, map_prt_get (by omega), prt]
    split
    · omega
    · intro e2
      have := C.inj (i := q) (k := i) (by rw [opp_len]; omega) (by rw [opp_len]; omega) e2
      omega

/-- **The columns of the wider matrix, partly none, have the greatest gain.** -/
theorem part_most {m : List (List Int)} (hv : VMat m) {u v row cols : List Int} (H : HInv (opp m m.length) (wid m + m.length) (opp m m.length).length u v row) (C : Cols (opp m m.length) (wid m + m.length) row cols) :
    searchF m true m.length [] = some (sumS m (cols.map (prt (wid m)))) := by
  have hl := C.len
  rw [opp_len] at hl
  refine greatest_spec.2 ⟨⟨_, part_is C, rfl⟩, fun L hL => ?_⟩
  have h1 := part_sum hv C (Nat.le_refl _)
  have h2 := full_sum hv hL
  have h3 := full_is hL
  rw [← opp_wid] at H C
  have h4 := least_of H C _ h3
  rw [h2, sumS, hl, h1] at h4
  have e : sumS m (cols.map (prt (wid m))) = sumTo m (cols.map (prt (wid m))) m.length := by rw [sumS, List.length_map, hl]
  rw [e]
  omega

theorem none_is (m : List (List Int)) : isS m (List.replicate m.length (-1)) true = true := by
  refine isS_yes (by simp) fun i hi => okC_skip ?_
  simp only [List.length_replicate] at hi
  simp [List.getD_eq_getElem?_getD, List.getElem?_replicate, hi]

theorem none_sum (m : List (List Int)) (n : Nat) : ∀ j, j ≤ n → sumTo m (List.replicate n (-1)) j = 0
  | 0, _ => rfl
  | j + 1, h => by
    rw [sumTo, none_sum m n j (by omega), term, if_neg]
    · rfl
    · simp [List.getD_eq_getElem?_getD, List.getElem?_replicate, show j < n by omega]

theorem most_pos {m : List (List Int)} {c : Int} (h : searchF m true m.length [] = some c) : 0 ≤ c := by
  have := (greatest_spec.1 h).2 _ (none_is m)
  rw [sumS, none_sum m _ _ (by simp)] at this
  exact this
end Go.Proofs.Ytockdinjmnkdoaa
