/- The plain law of the solver: its assignment and its prices prove one another. -/
import Derived.Test.YtockdinjmnkdoaaP4
import Derived.Test.YtockdinjmnkdoaaP5
set_option linter.unusedSimpArgs false
set_option linter.unusedVariables false
namespace Go.Ab.A40
open Go

/-- What stands over different columns is the sum of all, where the others are zero. -/
theorem sum_eq {v : List Int} {cols : List Int} {j : Nat} (h0 : ∀ i, i < j → 0 ≤ cols.getD i 0 ∧ cols.getD i 0 < v.length) (hd : ∀ i k, i < j → k < i → cols.getD k 0 ≠ cols.getD i 0)
    (hz : ∀ k, k < v.length → (∀ i, i < j → cols.getD i 0 ≠ k) → v.getD k 0 = 0) : ∀ n, n ≤ v.length → 
    lsum v n = ((List.range j).filter fun i => decide (cols.getD i 0 < n)).foldr (fun i s => v.getD (cols.getD i 0).toNat 0 + s) 0 := by
  intro n
  induction n with
  | zero =>
    intro _
    have : ((List.range j).filter fun i => decide (cols.getD i 0 < (0 : Nat))) = [] := by
      rw [List.filter_eq_nil_iff]
      intro i hi
      have := (h0 i (List.mem_range.1 hi)).1
      simp only [decide_eq_true_eq]; omega
    rw [this]
    simp [lsum]
  | succ n ih =>
    intro hn
    have h1 := ih (by omega)
    rw [lsum]
    by_cases hex : ∃ i, i < j ∧ cols.getD i 0 = n
    · obtain ⟨i, hi, he⟩ := hex
      have key : ∀ l : List Nat, l.Nodup → i ∈ l → (∀ k ∈ l, k ≠ i → cols.getD k 0 ≠ n) →
          (l.filter fun k => decide (cols.getD k 0 < ((n + 1 : Nat) : Int))).foldr (fun i s => v.getD (cols.getD i 0).toNat 0 + s) 0 = (l.filter fun k => decide (cols.getD k 0 < (n : Int))).foldr (fun i s => v.getD (cols.getD i 0).toNat 0 + s) 0 + v.getD n 0 := by
        intro l
        induction l with
        | nil => intro _ h; cases h
        | cons a l ihl =>
          intro hnd hm hne
          rw [List.nodup_cons] at hnd
          by_cases ha : a = i
          · subst ha
            have same : (l.filter fun k => decide (cols.getD k 0 < ((n + 1 : Nat) : Int))) = (l.filter fun k => decide (cols.getD k 0 < (n : Int))) := by
              refine List.filter_congr fun k hk => ?_
              have := hne k (List.mem_cons_of_mem _ hk) (fun e => hnd.1 (e ▸ hk))
              rw [decide_eq_decide]
              omega
            rw [List.filter_cons_of_pos (by simp only [decide_eq_true_eq]; omega), List.filter_cons_of_neg (by simp only [decide_eq_true_eq]; omega), same, List.foldr_cons, he, Int.toNat_natCast]
            omega
          · have hm' : i ∈ l := by
              rcases List.mem_cons.1 hm with h | h
              · exact absurd h.symm ha
              · exact h
            have hr := ihl hnd.2 hm' (fun k hk => hne k (List.mem_cons_of_mem _ hk))
            have hna := hne a List.mem_cons_self ha
            by_cases hlt : cols.getD a 0 < (n : Int)
            · rw [List.filter_cons_of_pos (by simp only [decide_eq_true_eq]; omega), List.filter_cons_of_pos (by simp only [decide_eq_true_eq]; omega), List.foldr_cons, List.foldr_cons, hr]
              omega
            · rw [List.filter_cons_of_neg (by simp only [decide_eq_true_eq]; omega), List.filter_cons_of_neg (by simp only [decide_eq_true_eq]; omega), hr]
      rw [key (List.range j) List.nodup_range (List.mem_range.2 hi) (fun k hk hne => ?_)]
      · omega
      · intro e
        rcases Nat.lt_or_ge k i with h | h
        · exact hd i k hi h (by omega)
        · exact hd k i (List.mem_range.1 hk) (by omega) (by omega)
    · have same : ((List.range j).filter fun k => decide (cols.getD k 0 < ((n + 1 : Nat) : Int))) = ((List.range j).filter fun k => decide (cols.getD k 0 < (n : Int))) := by
        refine List.filter_congr fun k hk => ?_
        have : cols.getD k 0 ≠ n := fun e => hex ⟨k, List.mem_range.1 hk, e⟩
        rw [decide_eq_decide]
        omega
      have hv := hz n (by omega) (fun i hi e => hex ⟨i, hi, e⟩)
      rw [same]
      omega

/-- What the columns of the solver are. -/
structure Cols (m : List (List Int)) (w : Nat) (row cols : List Int) : Prop where
  len : cols.length = m.length
  col : ∀ i, i < m.length → ∃ j : Nat, j < w ∧ cols.getD i 0 = j ∧ row.getD j 0 = i

theorem HInv.cols {m : List (List Int)} {w : Nat} {u v row cols : List Int} (H : HInv m w m.length u v row) (hl : cols.length = m.length) (hc : ∀ k, k < w → 0 ≤ row.getD k 0 → cols.getD (row.getD k 0).toNat 0 = k) : Cols m w row cols :=
  ⟨hl, fun i hi => by
    obtain ⟨j, hj, e⟩ := H.surj i hi
    have := hc j hj (by omega)
    rw [e, Int.toNat_natCast] at this
    exact ⟨j, hj, this, e⟩⟩

section
variable {m : List (List Int)} {w : Nat} {u v row cols : List Int}

theorem Cols.inj (C : Cols m w row cols) {i k : Nat} (hi : i < m.length) (hk : k < m.length) (e : cols.getD i 0 = cols.getD k 0) : i = k := by
  obtain ⟨j, _, e1, e2⟩ := C.col i hi
  obtain ⟨j', _, e3, e4⟩ := C.col k hk
  have : j = j' := by omega
  subst this
  omega

theorem HInv.ub (H : HInv m w m.length u v row) (r : Nat) (hr : r < m.length) : -1000000000 ≤ u.getD r 0 ∧ u.getD r 0 ≤ 1000000000 := by
  obtain ⟨j0, hj0, e0⟩ := H.vz (by omega)
  have h1 := H.feas r j0 hr hj0
  have h2 := H.small r j0
  obtain ⟨j, hj, e⟩ := H.surj r hr
  have h3 := H.tight j hj r e
  have h4 := H.small r j
  have h5 := H.vneg j hj
  unfold sl at h1 h3
  omega

theorem HInv.vb (H : HInv m w m.length u v row) {j : Nat} (hj : j < w) : -2000000000 ≤ v.getD j 0 ∧ v.getD j 0 ≤ 0 := by
  refine ⟨?_, H.vneg j hj⟩
  by_cases h : row.getD j 0 < 0
  · rw [H.vfree j hj h]; omega
  · have hr := H.rng j hj
    obtain ⟨r, hr'⟩ : ∃ r : Nat, row.getD j 0 = r := ⟨(row.getD j 0).toNat, by omega⟩
    have h3 := H.tight j hj r hr'
    have h4 := H.small r j
    have h5 := H.ub r (by omega)
    unfold sl at h3
    omega

theorem take_get {v : List Int} {w k : Nat} (hk : k < w) : (v.take w).getD k 0 = v.getD k 0 := by
  simp [List.getD_eq_getElem?_getD, List.getElem?_take, hk]

theorem lsum_take {v : List Int} {w : Nat} : ∀ n, n ≤ w → lsum (v.take w) n = lsum v n
  | 0, _ => rfl
  | n + 1, h => by rw [lsum, lsum, lsum_take n (by omega), take_get (by omega)]

/-- What the solver takes is an assignment. -/
theorem Cols.is (C : Cols m (wid m) row cols) : isS m cols false = true := by
  refine isS_yes C.len fun i hi => ?_
  have hi' : i < m.length := by rw [← C.len]; exact hi
  obtain ⟨j, hj, e1, e2⟩ := C.col i hi'
  exact okC_good (by omega) (by omega) (fun k hk e => by have := C.inj (by omega) hi' e; omega)

theorem HInv.step (H : HInv m w m.length u v row) (C : Cols m w row cols) : ∀ j, j ≤ m.length → lsum u j + takenSum v cols j = sumTo m cols j := by
  intro j
  induction j with
  | zero => intro _; simp [lsum, takenSum, sumTo]
  | succ j ih =>
    intro hj
    have h3 := ih (by omega)
    obtain ⟨k, hk, e1, e2⟩ := C.col j (by omega)
    have h4 := H.tight k hk j e2
    unfold sl at h4
    rw [lsum, taken_succ, sumTo, term, if_pos (by omega), e1, Int.toNat_natCast]
    omega

theorem HInv.sumv (H : HInv m w m.length u v row) (C : Cols m w row cols) : lsum (v.take w) w = takenSum v cols m.length := by
  have hl : (v.take w).length = w := by rw [List.length_take, H.lv]; omega
  have h := sum_eq (v := v.take w) (cols := cols) (j := m.length) (fun i hi => by
      obtain ⟨k, hk, e1, e2⟩ := C.col i hi
      rw [hl]; omega) (fun i k hi hk e => by have := C.inj (show k < m.length by omega) hi e; omega) (fun k hk hne => by
      rw [hl] at hk
      rw [take_get hk]
      refine H.vfree k hk (Classical.byContradiction fun h => ?_)
      have hr := H.rng k hk
      have h1 : (row.getD k 0).toNat < m.length := by omega
      obtain ⟨k', hk', e1, e2⟩ := C.col _ h1
      have := H.inj k k' hk hk' (by omega) (by omega)
      subst this
      exact hne _ h1 e1) w (by omega)
  rw [h]
  have all : ((List.range m.length).filter fun i => decide (cols.getD i 0 < w)) = List.range m.length := by
    rw [List.filter_eq_self]
    intro i hi
    obtain ⟨k, hk, e1, e2⟩ := C.col i (List.mem_range.1 hi)
    simp only [decide_eq_true_eq]; omega
  rw [all]
  unfold takenSum
  have key : ∀ l : List Nat, (∀ i ∈ l, i < m.length) → l.foldr (fun i s => (v.take w).getD (cols.getD i 0).toNat 0 + s) 0 = l.foldr (fun i s => v.getD (cols.getD i 0).toNat 0 + s) 0 := by
    intro l
    induction l with
    | nil => intro _; rfl
    | cons a l ih =>
      intro hl
      obtain ⟨k, hk, e1, e2⟩ := C.col a (hl a List.mem_cons_self)
      rw [List.foldr_cons, List.foldr_cons, ih (fun i hi => hl i (List.mem_cons_of_mem _ hi)), take_get (by omega)]
  exact key _ (fun i hi => List.mem_range.1 hi)

/-- **The solver's prices prove its assignment.** -/
theorem HInv.check (H : HInv m (wid m) m.length u v row) (C : Cols m (wid m) row cols) (h0 : szs m true = 0) : checkS m cols u (v.take (wid m)) = true := by
  have hl : (v.take (wid m)).length = wid m := by rw [List.length_take, H.lv]; omega
  have hp : okP m u (v.take (wid m)) = true := by
    refine okP_iff.2 ⟨⟨H.lu, hl⟩, fun k hk => ?_, fun i hi => ?_⟩
    · rw [hl] at hk
      have := H.vb hk
      exact okV_iff.2 (by rw [take_get hk]; omega)
    · rw [H.lu] at hi
      have := H.ub i hi
      refine okU_iff.2 ⟨by omega, fun k hk => ?_⟩
      rw [hl] at hk
      have := H.feas i k hi hk
      unfold sl at this
      rw [take_get hk]
      omega
  have hs := C.is
  unfold checkS
  rw [costS, if_pos h0, if_pos hs, provesS, if_pos hp, hp, hl, H.lu, H.sumv C]
  have := H.step C m.length (Nat.le_refl _)
  rw [sumS, C.len]
  simp only [decide_true, Bool.true_and, decide_eq_true_eq]
  omega
end
end Go.Ab.A40
