/- Plain law: what the search finds is greatest; prices bound every assignment. -/
import Derived.Test.YtockdinjmnkdoaaP2
set_option linter.unusedSimpArgs false
set_option linter.unusedVariables false
namespace Go.Ab.A40

/-- The columns of a list are allowed, one after the other. -/
def okL (m : List (List Int)) (none : Bool) : List Int → List Int → Prop
  | _, [] => True
  | pre, k :: r => (-1 ≤ k ∧ k < wid m ∧ allowed none pre k = true) ∧ okL m none (pre ++ [k]) r

theorem comb_le {acc r : Option Int} : (∀ b, acc = some b → ∃ c, comb acc r = some c ∧ b ≤ c) ∧ (∀ b, r = some b → ∃ c, comb acc r = some c ∧ b ≤ c) := by
  cases acc <;> cases r <;> simp [comb]
  split <;> simp <;> omega
theorem comb_is {acc r : Option Int} {c : Int} (h : comb acc r = some c) : acc = some c ∨ r = some c := by
  cases acc <;> cases r <;> simp [comb] at h ⊢
  · exact h
  · exact h
  · split at h <;> simp_all

theorem srch_le {f : List Int → Option Int} {none : Bool} {cols : List Int} : ∀ (j : Nat) (i : Nat), i < j → allowed none cols ((i : Int) - 1) = true → ∀ b, f (cols ++ [(i : Int) - 1]) = some b → ∃ c, srchTo f none cols j = some c ∧ b ≤ c
  | 0, i, hi, _, _, _ => by omega
  | j + 1, i, hi, ha, b, hb => by
    rw [srchTo]
    by_cases hij : i = j
    · subst hij
      rw [if_pos ha]
      exact comb_le.2 b hb
    · obtain ⟨c, h1, h2⟩ := srch_le j i (by omega) ha b hb
      split
      · obtain ⟨c', h3, h4⟩ := (comb_le (acc := srchTo f none cols j) (r := f (cols ++ [(j : Int) - 1]))).1 c h1
        exact ⟨c', h3, by omega⟩
      · exact ⟨c, h1, h2⟩

theorem srch_is {f : List Int → Option Int} {none : Bool} {cols : List Int} {c : Int} : ∀ (j : Nat), srchTo f none cols j = some c → ∃ i, i < j ∧ allowed none cols ((i : Int) - 1) = true ∧ f (cols ++ [(i : Int) - 1]) = some c
  | 0, h => by cases h
  | j + 1, h => by
    rw [srchTo] at h
    split at h
    · rename_i ha
      rcases comb_is h with h | h
      · obtain ⟨i, h1, h2⟩ := srch_is j h
        exact ⟨i, by omega, h2⟩
      · exact ⟨j, by omega, ha, h⟩
    · obtain ⟨i, h1, h2⟩ := srch_is j h
      exact ⟨i, by omega, h2⟩

/-- **What is found is no less than any completion's sum.** -/
theorem search_le {m : List (List Int)} {none : Bool} : ∀ (r : Nat) (cols L : List Int), L.length = r → okL m none cols L → ∃ c, searchF m none r cols = some c ∧ sumS m (cols ++ L) ≤ c
  | 0, cols, L, hl, _ => by
    obtain rfl : L = [] := List.eq_nil_of_length_eq_zero hl
    exact ⟨_, rfl, by simp⟩
  | r + 1, cols, [], hl, _ => by simp at hl
  | r + 1, cols, k :: L, hl, hk => by
    obtain ⟨⟨h1, h2, h3⟩, h4⟩ := hk
    obtain ⟨c, e1, e2⟩ := search_le r (cols ++ [k]) L (by simpa using hl) h4
    have hi : ((k + 1).toNat : Int) - 1 = k := by omega
    obtain ⟨c', e3, e4⟩ := srch_le (f := searchF m none r) (none := none) (cols := cols) (wid m + 1) (k + 1).toNat (by omega) (by rw [hi]; exact h3) c (by rw [hi]; exact e1)
    refine ⟨c', e3, ?_⟩
    have : cols ++ k :: L = cols ++ [k] ++ L := by simp
    rw [this]
    omega

/-- **What is found is some completion's sum.** -/
theorem search_is {m : List (List Int)} {none : Bool} {c : Int} : ∀ (r : Nat) (cols : List Int), searchF m none r cols = some c → ∃ L, L.length = r ∧ okL m none cols L ∧ sumS m (cols ++ L) = c
  | 0, cols, h => by cases h; exact ⟨[], rfl, trivial, by simp⟩
  | r + 1, cols, h => by
    obtain ⟨i, h1, h2, h3⟩ := srch_is _ h
    obtain ⟨L, e1, e2, e3⟩ := search_is r _ h3
    refine ⟨((i : Int) - 1) :: L, by simp [e1], ⟨⟨by omega, by omega, h2⟩, e2⟩, ?_⟩
    have : cols ++ ((i : Int) - 1) :: L = cols ++ [(i : Int) - 1] ++ L := by simp
    rw [this]
    exact e3

/-- Lists of allowed columns are assignments, and the other way round. -/
theorem okL_get {m : List (List Int)} {none : Bool} : ∀ (L pre : List Int), okL m none pre L ↔ ∀ i, i < L.length → (-1 ≤ L.getD i 0 ∧ L.getD i 0 < wid m ∧ allowed none (pre ++ L.take i) (L.getD i 0) = true)
  | [], pre => by simp [okL]
  | k :: L, pre => by
    rw [okL, okL_get L (pre ++ [k])]
    constructor
    · rintro ⟨h1, h2⟩ i hi
      cases i with
      | zero => simpa using h1
      | succ i =>
        have := h2 i (by simpa using hi)
        simpa using this
    · intro h
      refine ⟨by simpa using h 0 (by simp), fun i hi => ?_⟩
      have := h (i + 1) (by simpa using hi)
      simpa using this

theorem mem_take_iff {L : List Int} {i : Nat} {x : Int} : x ∈ L.take i ↔ ∃ k, k < i ∧ k < L.length ∧ L.getD k 0 = x := by
  rw [List.mem_take_iff_getElem]
  constructor
  · rintro ⟨k, hk, rfl⟩
    exact ⟨k, by omega, by omega, getD_list _ _ _ (by omega)⟩
  · rintro ⟨k, h1, h2, rfl⟩
    exact ⟨k, by omega, (getD_list _ _ _ h2).symm⟩

theorem okL_is {m : List (List Int)} {none : Bool} {L : List Int} (hl : L.length = m.length) : okL m none [] L ↔ isS m L none = true := by
  rw [okL_get, isS_iff]
  constructor
  · intro h
    refine ⟨hl, fun i hi => ?_⟩
    obtain ⟨h1, h2, h3⟩ := h i hi
    rw [List.nil_append] at h3
    unfold allowed at h3
    split at h3
    · rename_i hn
      subst h3
      exact okC_skip (by omega)
    · rename_i hn
      refine okC_good (by omega) h2 (fun k hk e => ?_)
      have hm : L.getD i 0 ∈ L.take i := mem_take_iff.2 ⟨k, hk, by omega, e⟩
      rw [decide_eq_true hm] at h3
      cases h3
  · rintro ⟨_, h⟩ i hi
    have h1 := okC_lt (h i hi)
    refine ⟨h1.2, h1.1, ?_⟩
    rw [List.nil_append]
    have h2 := h i hi
    simp only [okC, Bool.or_eq_true, Bool.and_eq_true, decide_eq_true_eq, all_range_iff] at h2
    unfold allowed
    split
    · rename_i hn
      rcases h2 with h2 | h2
      · exact h2.2
      · omega
    · rename_i hn
      rcases h2 with h2 | h2
      · omega
      · have : ¬ L.getD i 0 ∈ L.take i := fun hm => by
          obtain ⟨k, hk, _, e⟩ := mem_take_iff.1 hm
          have := h2.2 k hk
          rw [decide_eq_true e] at this
          cases this
        rw [decide_eq_false this]
        rfl

/-- The greatest sum. -/
theorem greatest_spec {m : List (List Int)} {none : Bool} {c : Int} : searchF m none m.length [] = some c ↔ (∃ L, isS m L none = true ∧ sumS m L = c) ∧ ∀ L, isS m L none = true → sumS m L ≤ c := by
  constructor
  · intro h
    refine ⟨?_, fun L hL => ?_⟩
    · obtain ⟨L, h1, h2, h3⟩ := search_is _ _ h
      exact ⟨L, (okL_is h1).1 h2, by simpa using h3⟩
    · have hl := (isS_iff.1 hL).1
      obtain ⟨c', h1, h2⟩ := search_le (m := m) (none := none) m.length [] L hl ((okL_is hl).2 hL)
      rw [h] at h1
      cases h1
      simpa using h2
  · rintro ⟨⟨L, hL, rfl⟩, h2⟩
    have hl := (isS_iff.1 hL).1
    obtain ⟨c', h3, h4⟩ := search_le (m := m) (none := none) m.length [] L hl ((okL_is hl).2 hL)
    obtain ⟨L', h5, h6, h7⟩ := search_is _ _ h3
    have := h2 L' ((okL_is h5).1 h6)
    simp at h4 h7
    rw [h3]
    congr 1
    omega

/-! ### prices -/

/-- What stands over a list of different columns is no less than the sum of what is at most 0. -/
theorem sub_sum {v : List Int} {cols : List Int} (hv : ∀ k, k < v.length → v.getD k 0 ≤ 0) : ∀ n, n ≤ v.length → ∀ j, j ≤ cols.length → (∀ i, i < j → 0 ≤ cols.getD i 0 ∧ cols.getD i 0 < v.length) → (∀ i k, i < j → k < i → cols.getD k 0 ≠ cols.getD i 0) →
    lsum v n ≤ ((List.range j).filter fun i => decide (cols.getD i 0 < n)).foldr (fun i s => v.getD (cols.getD i 0).toNat 0 + s) 0 := by
  intro n
  induction n with
  | zero =>
    intro _ j _ h0 _
    have : ((List.range j).filter fun i => decide (cols.getD i 0 < (0 : Nat))) = [] := by
      rw [List.filter_eq_nil_iff]
      intro i hi
      have := (h0 i (List.mem_range.1 hi)).1
      simp only [decide_eq_true_eq]; omega
    rw [this]
    simp [lsum]
  | succ n ih =>
    intro hn j hj h0 hd
    have h1 := ih (by omega) j hj h0 hd
    rw [lsum]
    have hvn := hv n (by omega)
    by_cases hex : ∃ i, i < j ∧ cols.getD i 0 = n
    · obtain ⟨i, hi, he⟩ := hex
      have key : ∀ l : List Nat, l.Nodup → i ∈ l → (∀ k ∈ l, k ≠ i → cols.getD k 0 ≠ n) →
          (l.filter fun k => decide (cols.getD k 0 < ((n + 1 : Nat) : Int))).foldr (fun i s => v.getD (cols.getD i 0).toNat 0 + s) 0 = (l.filter fun k => decide (cols.getD k 0 < (n : Int))).foldr (fun i s => v.getD (cols.getD i 0).toNat 0 + s) 0 + v.getD n 0 := by
        intro l
        induction l with
        | nil => intro _ h; cases h
        | cons a l ihl =>
          intro hnd hm hne
          rw [List.nodup_cons] at hnd
          by_cases ha : a = i
          · subst ha
            have same : (l.filter fun k => decide (cols.getD k 0 < ((n + 1 : Nat) : Int))) = (l.filter fun k => decide (cols.getD k 0 < (n : Int))) := by
              refine List.filter_congr fun k hk => ?_
              have := hne k (List.mem_cons_of_mem _ hk) (fun e => hnd.1 (e ▸ hk))
              rw [decide_eq_decide]
              omega
            rw [List.filter_cons_of_pos (by simp only [decide_eq_true_eq]; omega), List.filter_cons_of_neg (by simp only [decide_eq_true_eq]; omega), same, List.foldr_cons, he, Int.toNat_natCast]
            omega
          · have hm' : i ∈ l := by
              rcases List.mem_cons.1 hm with h | h
              · exact absurd h.symm ha
              · exact h
            have hr := ihl hnd.2 hm' (fun k hk => hne k (List.mem_cons_of_mem _ hk))
            have hna := hne a List.mem_cons_self ha
            by_cases hlt : cols.getD a 0 < (n : Int)
            · rw [List.filter_cons_of_pos (by simp only [decide_eq_true_eq]; omega), List.filter_cons_of_pos (by simp only [decide_eq_true_eq]; omega), List.foldr_cons, List.foldr_cons, hr]
              omega
            · rw [List.filter_cons_of_neg (by simp only [decide_eq_true_eq]; omega), List.filter_cons_of_neg (by simp only [decide_eq_true_eq]; omega), hr]
      rw [key (List.range j) List.nodup_range (List.mem_range.2 hi) (fun k hk hne => ?_)]
      · omega
      · intro e
        rcases Nat.lt_or_ge k i with h | h
        · exact hd i k hi h (by omega)
        · exact hd k i (List.mem_range.1 hk) (by omega) (by omega)
    · have same : ((List.range j).filter fun k => decide (cols.getD k 0 < ((n + 1 : Nat) : Int))) = ((List.range j).filter fun k => decide (cols.getD k 0 < (n : Int))) := by
        refine List.filter_congr fun k hk => ?_
        have : cols.getD k 0 ≠ n := fun e => hex ⟨k, List.mem_range.1 hk, e⟩
        rw [decide_eq_decide]
        omega
      rw [same]
      omega

/-- The prices of the columns that are taken. -/
def takenSum (v cols : List Int) (j : Nat) : Int := (List.range j).foldr (fun i s => v.getD (cols.getD i 0).toNat 0 + s) 0

theorem taken_succ (v cols : List Int) (j : Nat) : takenSum v cols (j + 1) = takenSum v cols j + v.getD (cols.getD j 0).toNat 0 := by
  have key : ∀ (l : List Nat) (z : Int), l.foldr (fun i s => v.getD (cols.getD i 0).toNat 0 + s) z = l.foldr (fun i s => v.getD (cols.getD i 0).toNat 0 + s) 0 + z := by
    intro l z
    induction l with
    | nil => simp
    | cons a l ih => rw [List.foldr_cons, ih, List.foldr_cons]; omega
  unfold takenSum
  rw [List.range_succ, List.foldr_append, key]
  simp

/-- **Weak duality.** -/
theorem weak {m : List (List Int)} {u v : List Int} (hp : okP m u v = true) {L : List Int} (hL : isS m L false = true) : provesS m u v ≤ sumS m L := by
  obtain ⟨⟨hu, hv⟩, h1, h2⟩ := okP_iff.1 hp
  obtain ⟨hl, hc⟩ := isS_iff.1 hL
  have col : ∀ i, i < L.length → (0 ≤ L.getD i 0 ∧ L.getD i 0 < wid m) ∧ ∀ k, k < i → L.getD k 0 ≠ L.getD i 0 := fun i hi => by
    have := hc i hi
    simp only [okC, Bool.and_false, Bool.false_or, Bool.and_eq_true, decide_eq_true_eq, all_range_iff] at this
    exact ⟨this.1, fun k hk => by simpa using this.2 k hk⟩
  have low : lsum v v.length ≤ takenSum v L L.length := by
    have := sub_sum (v := v) (cols := L) (fun k hk => (okV_iff.1 (h1 k hk)).2) v.length (Nat.le_refl _) L.length (Nat.le_refl _) (fun i hi => by rw [hv]; exact (col i hi).1) (fun i k hi hk => (col i hi).2 k hk)
    have all : ((List.range L.length).filter fun i => decide (L.getD i 0 < v.length)) = List.range L.length := by
      rw [List.filter_eq_self]
      intro i hi
      have := (col i (List.mem_range.1 hi)).1
      simp only [decide_eq_true_eq]; omega
    rw [all] at this
    exact this
  have step : ∀ j, j ≤ L.length → lsum u j + takenSum v L j ≤ sumTo m L j := by
    intro j
    induction j with
    | zero => intro _; simp [lsum, takenSum, sumTo]
    | succ j ih =>
      intro hj
      have h3 := ih (by omega)
      have h4 := (okU_iff.1 (h2 j (by omega))).2 (L.getD j 0).toNat (by have := (col j (by omega)).1; omega)
      rw [lsum, taken_succ, sumTo, term, if_pos (col j (by omega)).1.1]
      omega
  have := step L.length (Nat.le_refl _)
  rw [provesS, if_pos hp, sumS, hu, ← hl]
  omega

theorem neg_wid (m : List (List Int)) : wid (neg m) = wid m := by
  unfold wid neg
  cases m with
  | nil => rfl
  | cons r m => simp
theorem neg_len (m : List (List Int)) : (neg m).length = m.length := by simp [neg]
theorem neg_get (m : List (List Int)) (i j : Nat) : ((neg m).getD i []).getD j 0 = -((m.getD i []).getD j 0) := by
  unfold neg
  simp only [List.getD_eq_getElem?_getD, List.getElem?_map]
  cases m[i]? with
  | none => simp
  | some r => simp only [Option.map_some, Option.getD_some, List.getElem?_map]; cases r[j]? <;> simp
theorem neg_sumTo (m : List (List Int)) (L : List Int) : ∀ j, sumTo (neg m) L j = -(sumTo m L j)
  | 0 => rfl
  | j + 1 => by
    rw [sumTo, sumTo, neg_sumTo m L j, term, term]
    split
    · rw [neg_get]; omega
    · omega
theorem neg_isS (m : List (List Int)) (L : List Int) (none : Bool) : isS (neg m) L none = isS m L none := by
  unfold isS okC
  rw [neg_len, neg_wid]

/-- **What is checked is least.** -/
theorem check_least {m : List (List Int)} {cols u v : List Int} (h : checkS m cols u v = true) (h0 : szs m true = 0) : isS m cols false = true ∧ searchF (neg m) false m.length [] = some (-(sumS m cols)) := by
  unfold checkS at h
  simp only [Bool.and_eq_true, decide_eq_true_eq] at h
  obtain ⟨hc, hp, he⟩ := h
  have hi : isS m cols false = true := by
    unfold costS at hc
    rw [if_pos h0] at hc
    split at hc
    · assumption
    · cases hc
  have hcost : (costS m cols).1 = sumS m cols := by rw [costS, if_pos h0, if_pos hi]
  rw [hcost] at he
  refine ⟨hi, ?_⟩
  rw [← neg_len m, greatest_spec]
  refine ⟨⟨cols, by rw [neg_isS]; exact hi, ?_⟩, fun L hL => ?_⟩
  · rw [sumS, neg_sumTo]; rfl
  · rw [neg_isS] at hL
    have := weak hp hL
    rw [sumS, neg_sumTo]
    show -(sumS m L) ≤ _
    omega
end Go.Ab.A40
