/- Plain words for assignments: what the reference and the program compute, on lists of numbers. -/
import Derived.Test.YtockdinjmnkdoaaAz
set_option linter.unusedSimpArgs false
set_option linter.unusedVariables false
namespace Go.Ab.A40


theorem any_of {α : Type} {l : List α} {p : α → Bool} {i : Nat} {d : α} (hi : i < l.length) (hp : p (l.getD i d) = true) : l.any p = true := by
  rw [getD_list _ _ _ hi] at hp
  exact List.any_eq_true.2 ⟨_, List.getElem_mem hi, hp⟩
theorem any_none {α : Type} {l : List α} {p : α → Bool} {d : α} (h : ∀ i, i < l.length → p (l.getD i d) = false) : l.any p = false := by
  rw [List.any_eq_false]
  intro x hx
  obtain ⟨i, hi, he⟩ := List.getElem_of_mem hx
  have := h i hi
  rw [getD_list _ _ _ hi, he] at this
  rw [this]; simp

def wid (m : List (List Int)) : Nat := (m.getD 0 []).length

def szs (m : List (List Int)) (sq : Bool) : Int :=
  if 60 < m.length then 3 else if m.any (fun r => decide (60 < r.length)) = true then 3
  else if m.any (fun r => (!decide (r.length = wid m)) || (sq && decide (r.length < m.length))) = true then 6
  else if m.any (fun r => r.any fun x => decide (1000000000 < x) || decide (x < -1000000000)) = true then 7 else 0

theorem bad_iff {a b c d : Nat} {sq : Bool} : ((!decide (a = b)) || (sq && decide (c < d))) = true ↔ a ≠ b ∨ (sq = true ∧ c < d) := by simp
theorem good_iff {a b c d : Nat} {sq : Bool} : ((!decide (a = b)) || (sq && decide (c < d))) = false ↔ a = b ∧ (sq = true → d ≤ c) := by
  cases sq <;> simp

theorem out_iff {x : Int} : (decide (1000000000 < x) || decide (x < -1000000000)) = true ↔ 1000000000 < x ∨ x < -1000000000 := by simp
theorem in_iff {x : Int} : (decide (1000000000 < x) || decide (x < -1000000000)) = false ↔ x ≤ 1000000000 ∧ -1000000000 ≤ x := by simp

/-- One more row is as the rows ahead of it. -/
theorem upto {p : Nat → Prop} {j : Nat} (h : ∀ i, i < j → p i) (hj : p j) : ∀ i, i < j + 1 → p i := fun i hi => by
  by_cases e : i = j
  · rw [e]; exact hj
  · exact h i (by omega)

theorem all_range {p : Nat → Bool} {n : Nat} (h : ∀ i, i < n → p i = true) : (List.range n).all p = true := List.all_eq_true.2 fun i hi => h i (List.mem_range.1 hi)
theorem all_range_iff {p : Nat → Bool} {n : Nat} : (List.range n).all p = true ↔ ∀ i, i < n → p i = true := ⟨fun h i hi => List.all_eq_true.1 h i (List.mem_range.2 hi), all_range⟩
theorem not_all_range {p : Nat → Bool} {n i : Nat} (hi : i < n) (h : p i = false) : (List.range n).all p = false := by
  rw [← Bool.not_eq_true]
  intro ha
  rw [all_range_iff.1 ha i hi] at h
  cases h

/-- The i-th column of a list is right. -/
def okC (m : List (List Int)) (cols : List Int) (none : Bool) (i : Nat) : Bool :=
  (decide (cols.getD i 0 = -1) && none) || (decide (0 ≤ cols.getD i 0) && decide (cols.getD i 0 < wid m) && (List.range i).all fun k => !decide (cols.getD k 0 = cols.getD i 0))

/-- Is a list an assignment? -/
def isS (m : List (List Int)) (cols : List Int) (none : Bool) : Bool := decide (cols.length = m.length) && (List.range cols.length).all (okC m cols none)

theorem okC_skip {m : List (List Int)} {cols : List Int} {i : Nat} (h : cols.getD i 0 = -1) : okC m cols true i = true := by simp only [okC, h]; rfl
theorem okC_bad {m : List (List Int)} {cols : List Int} {none : Bool} {i : Nat} (h : ¬ (cols.getD i 0 = -1 ∧ none = true)) (h2 : cols.getD i 0 < 0 ∨ (wid m : Int) ≤ cols.getD i 0) : okC m cols none i = false := by
  rw [← Bool.not_eq_true]
  simp only [okC, Bool.or_eq_true, Bool.and_eq_true, decide_eq_true_eq]
  rintro (h3 | ⟨⟨h3, h4⟩, _⟩)
  · exact h h3
  · omega
theorem okC_twice {m : List (List Int)} {cols : List Int} {none : Bool} {i k : Nat} (h : ¬ (cols.getD i 0 = -1 ∧ none = true)) (hk : k < i) (h2 : cols.getD k 0 = cols.getD i 0) : okC m cols none i = false := by
  rw [← Bool.not_eq_true]
  simp only [okC, Bool.or_eq_true, Bool.and_eq_true, decide_eq_true_eq, all_range_iff]
  rintro (h3 | ⟨_, h5⟩)
  · exact h h3
  · have := h5 k hk
    rw [decide_eq_true h2] at this
    cases this
theorem okC_good {m : List (List Int)} {cols : List Int} {none : Bool} {i : Nat} (h1 : 0 ≤ cols.getD i 0) (h2 : cols.getD i 0 < wid m) (h3 : ∀ k, k < i → cols.getD k 0 ≠ cols.getD i 0) : okC m cols none i = true := by
  simp only [okC, Bool.or_eq_true, Bool.and_eq_true, decide_eq_true_eq, all_range_iff]
  exact .inr ⟨⟨h1, h2⟩, fun k hk => by simpa using h3 k hk⟩
theorem isS_no {m : List (List Int)} {cols : List Int} {none : Bool} {i : Nat} (hi : i < cols.length) (h : okC m cols none i = false) : isS m cols none = false := by
  rw [isS, not_all_range hi h, Bool.and_false]
theorem isS_yes {m : List (List Int)} {cols : List Int} {none : Bool} (hl : cols.length = m.length) (h : ∀ i, i < cols.length → okC m cols none i = true) : isS m cols none = true := by
  rw [isS, all_range h, decide_eq_true hl]; rfl

/-- What one row adds. -/
def term (m : List (List Int)) (cols : List Int) (i : Nat) : Int := if 0 ≤ cols.getD i 0 then (m.getD i []).getD (cols.getD i 0).toNat 0 else 0
def sumTo (m : List (List Int)) (cols : List Int) : Nat → Int
  | 0 => 0
  | k + 1 => sumTo m cols k + term m cols k
def sumS (m : List (List Int)) (cols : List Int) : Int := sumTo m cols cols.length

/-- All numbers are small. -/
def Small (m : List (List Int)) : Prop := ∀ i j, -1000000000 ≤ (m.getD i []).getD j 0 ∧ (m.getD i []).getD j 0 ≤ 1000000000
theorem term_le {m : List (List Int)} (h : Small m) (cols : List Int) (i : Nat) : -1000000000 ≤ term m cols i ∧ term m cols i ≤ 1000000000 := by
  unfold term
  split
  · exact h _ _
  · omega
theorem sumTo_le {m : List (List Int)} (h : Small m) (cols : List Int) : ∀ k : Nat, -(1000000000 * (k : Int)) ≤ sumTo m cols k ∧ sumTo m cols k ≤ 1000000000 * (k : Int)
  | 0 => by simp [sumTo]
  | k + 1 => by
    have h1 := sumTo_le h cols k
    have h2 := term_le h cols k
    rw [sumTo]
    omega

/-- A valid matrix. -/
structure VMat (m : List (List Int)) : Prop where
  rows : m.length ≤ 60
  w : ∀ i, i < m.length → (m.getD i []).length = wid m
  w60 : wid m ≤ 60
  small : Small m

theorem getD_ge {α : Type} {l : List α} {i : Nat} {d : α} (h : l.length ≤ i) : l.getD i d = d := by rw [List.getD_eq_getElem?_getD, List.getElem?_eq_none h]; rfl

theorem any_false {α : Type} {l : List α} {p : α → Bool} (h : ¬ l.any p = true) {i : Nat} (d : α) (hi : i < l.length) : p (l.getD i d) = false := by
  rw [← Bool.not_eq_true]
  exact fun hp => h (any_of hi hp)

theorem vmat_of {m : List (List Int)} {sq : Bool} (h : szs m sq = 0) : VMat m ∧ (sq = true → m.length ≤ wid m) := by
  unfold szs at h
  split at h
  · omega
  · split at h
    · omega
    · split at h
      · omega
      · split at h
        · omega
        · rename_i h1 h2 h3 h4
          have hw : ∀ i, i < m.length → (m.getD i []).length = wid m := fun i hi => (good_iff.1 (any_false h3 [] hi)).1
          have h60 : wid m ≤ 60 := by
            by_cases h0 : 0 < m.length
            · have := any_false h2 [] h0
              simp only [decide_eq_false_iff_not] at this
              unfold wid; omega
            · unfold wid; rw [getD_ge (by omega)]; simp
          refine ⟨⟨by omega, hw, h60, fun i j => ?_⟩, fun hs => ?_⟩
          · by_cases hi : i < m.length
            · have h5 := any_false h4 [] hi
              by_cases hj : j < (m.getD i []).length
              · have := in_iff.1 (any_false (by rw [h5]; simp) 0 hj)
                omega
              · rw [getD_ge (l := m.getD i []) (by omega)]; omega
            · rw [getD_ge (l := m) (by omega)]; simp
          · by_cases h0 : 0 < m.length
            · have := (good_iff.1 (any_false h3 [] h0)).2 hs
              unfold wid; omega
            · omega

def costS (m : List (List Int)) (cols : List Int) : Int × Int :=
  if szs m true = 0 then (if isS m cols false = true then (sumS m cols, 0) else (0, 1)) else (0, szs m true)

theorem okC_lt {m : List (List Int)} {cols : List Int} {none : Bool} {i : Nat} (h : okC m cols none i = true) : cols.getD i 0 < wid m ∧ -1 ≤ cols.getD i 0 := by
  simp only [okC, Bool.or_eq_true, Bool.and_eq_true, decide_eq_true_eq] at h
  rcases h with ⟨h, _⟩ | ⟨⟨h1, h2⟩, _⟩
  · have : (0 : Int) ≤ wid m := by omega
    omega
  · omega

theorem isS_iff {m : List (List Int)} {cols : List Int} {none : Bool} : isS m cols none = true ↔ cols.length = m.length ∧ ∀ i, i < cols.length → okC m cols none i = true := by
  simp only [isS, Bool.and_eq_true, decide_eq_true_eq, all_range_iff]

end Go.Ab.A40
