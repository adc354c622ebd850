/- Plain words for prices that prove a bound. -/
import Derived.Test.YtockdinjmnkdoaaP1
set_option linter.unusedSimpArgs false
set_option linter.unusedVariables false
namespace Go.Ab.A40

def lsum (l : List Int) : Nat → Int
  | 0 => 0
  | k + 1 => lsum l k + l.getD k 0

theorem lsum_le {l : List Int} {B : Int} : ∀ k : Nat, (∀ i, i < k → -B ≤ l.getD i 0 ∧ l.getD i 0 ≤ B) → -(B * (k : Int)) ≤ lsum l k ∧ lsum l k ≤ B * (k : Int)
  | 0, _ => by simp [lsum]
  | k + 1, h => by
    have h1 := lsum_le k (fun i hi => h i (by omega))
    have h2 := h k (by omega)
    rw [lsum, show ((k + 1 : Nat) : Int) = (k : Int) + 1 by omega, Int.mul_add, Int.mul_one]
    omega

def okV (v : List Int) (k : Nat) : Bool := decide (-1000000000000 ≤ v.getD k 0) && decide (v.getD k 0 ≤ 0)
def okUV (m : List (List Int)) (u v : List Int) (i k : Nat) : Bool := decide (u.getD i 0 + v.getD k 0 ≤ (m.getD i []).getD k 0)
def okU (m : List (List Int)) (u v : List Int) (i : Nat) : Bool := (decide (-1000000000000 ≤ u.getD i 0) && decide (u.getD i 0 ≤ 1000000000000)) && (List.range v.length).all (okUV m u v i)
/-- Do prices prove their bound? -/
def okP (m : List (List Int)) (u v : List Int) : Bool := (decide (u.length = m.length) && decide (v.length = wid m)) && ((List.range v.length).all (okV v) && (List.range u.length).all (okU m u v))

theorem okV_iff {v : List Int} {k : Nat} : okV v k = true ↔ -1000000000000 ≤ v.getD k 0 ∧ v.getD k 0 ≤ 0 := by simp only [okV, Bool.and_eq_true, decide_eq_true_eq]
theorem okUV_iff {m : List (List Int)} {u v : List Int} {i k : Nat} : okUV m u v i k = true ↔ u.getD i 0 + v.getD k 0 ≤ (m.getD i []).getD k 0 := by simp only [okUV, decide_eq_true_eq]
theorem okU_iff {m : List (List Int)} {u v : List Int} {i : Nat} : okU m u v i = true ↔ (-1000000000000 ≤ u.getD i 0 ∧ u.getD i 0 ≤ 1000000000000) ∧ ∀ k, k < v.length → u.getD i 0 + v.getD k 0 ≤ (m.getD i []).getD k 0 := by
  simp only [okU, Bool.and_eq_true, decide_eq_true_eq, all_range_iff, okUV_iff]
theorem okP_iff {m : List (List Int)} {u v : List Int} : okP m u v = true ↔ (u.length = m.length ∧ v.length = wid m) ∧ (∀ k, k < v.length → okV v k = true) ∧ ∀ i, i < u.length → okU m u v i = true := by
  simp only [okP, Bool.and_eq_true, decide_eq_true_eq, all_range_iff]
theorem okP_no {m : List (List Int)} {u v : List Int} (h : ¬ ((u.length = m.length ∧ v.length = wid m) ∧ (∀ k, k < v.length → okV v k = true) ∧ ∀ i, i < u.length → okU m u v i = true)) : okP m u v = false := by
  rw [← Bool.not_eq_true, okP_iff]; exact h

def provesS (m : List (List Int)) (u v : List Int) : Int := if okP m u v = true then lsum v v.length + lsum u u.length else 0

theorem rows_big {m : List (List Int)} (hv : VMat m) : m.length ≤ 9223372036854775807 ∧ ∀ i, (m.getD i []).length ≤ 9223372036854775807 := by
  have := hv.w60
  have := hv.rows
  refine ⟨by omega, fun i => ?_⟩
  by_cases h : i < m.length
  · have := hv.w i h; omega
  · rw [getD_ge (by omega)]; simp

def checkS (m : List (List Int)) (cols u v : List Int) : Bool :=
  decide ((costS m cols).2 = 0) && (okP m u v && decide (provesS m u v = (costS m cols).1))


def neg (m : List (List Int)) : List (List Int) := m.map fun r => r.map fun x => -x

/-- May the column k follow? -/
def allowed (none : Bool) (cols : List Int) (k : Int) : Bool := if k < 0 then none else !decide (k ∈ cols)
def comb (acc r : Option Int) : Option Int := match r with
  | none => acc
  | some n => match acc with
    | none => some n
    | some b => if b < n then some n else some b
def srchTo (f : List Int → Option Int) (none : Bool) (cols : List Int) : Nat → Option Int
  | 0 => .none
  | j + 1 => if allowed none cols ((j : Int) - 1) = true then comb (srchTo f none cols j) (f (cols ++ [(j : Int) - 1])) else srchTo f none cols j
/-- The greatest sum of a list that begins so. -/
def searchF (m : List (List Int)) (none : Bool) : Nat → List Int → Option Int
  | 0, cols => some (sumS m cols)
  | r + 1, cols => srchTo (searchF m none r) none cols (wid m + 1)

theorem snoc_lt {cols : List Int} {k w : Int} (h : ∀ i, i < cols.length → cols.getD i 0 < w) (hk : k < w) : ∀ i, i < (cols ++ [k]).length → (cols ++ [k]).getD i 0 < w := fun i hi => by
  simp only [List.length_append, List.length_cons, List.length_nil] at hi
  by_cases hc : i < cols.length
  · rw [List.getD_eq_getElem?_getD, List.getElem?_append_left hc, ← List.getD_eq_getElem?_getD]
    exact h i hc
  · obtain rfl : i = cols.length := by omega
    simpa using hk

theorem take_map_succ {α β : Type} (f : α → β) (l : List α) (k : Nat) (d : α) (h : k < l.length) : (l.take (k + 1)).map f = (l.take k).map f ++ [f (l.getD k d)] := by
  rw [List.take_succ_eq_append_getElem h, List.map_append, getD_list _ _ _ h]
  rfl

theorem map_take_all {α β : Type} (f : α → β) (l : List α) : (l.take l.length).map f = l.map f := by rw [List.take_length]

end Go.Ab.A40
