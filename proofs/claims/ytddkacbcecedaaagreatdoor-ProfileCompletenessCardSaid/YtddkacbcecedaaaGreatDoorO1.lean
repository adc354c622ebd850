/- Plain law: the order of values. -/
import Derived.Test.YtddkacbcecedaaaGreatDoorR4
set_option linter.unusedSimpArgs false
set_option linter.unusedVariables false
set_option linter.unusedSectionVars false
namespace Go.Ab
open Go
theorem sgn_swap (a b : Int) : sgn b a = -sgn a b := by
  unfold sgn
  rcases Int.lt_trichotomy a b with h | h | h
  · rw [if_neg (by omega), if_pos h, if_pos h]; rfl
  · rw [if_neg (by omega), if_neg (by omega), if_neg (by omega), if_neg (by omega)]; rfl
  · rw [if_pos h, if_neg (by omega), if_pos h]
theorem sgn_zero {a b : Int} : sgn a b = 0 ↔ a = b := by
  unfold sgn
  constructor
  · intro h
    split at h
    · cases h
    · split at h
      · cases h
      · omega
  · rintro rfl
    rw [if_neg (by omega), if_neg (by omega)]
theorem sgn_cases (a b : Int) : (sgn a b = -1 ∧ a < b) ∨ (sgn a b = 0 ∧ a = b) ∨ (sgn a b = 1 ∧ b < a) := by
  unfold sgn
  rcases Int.lt_trichotomy a b with h | h | h
  · exact .inl ⟨by rw [if_pos h], h⟩
  · exact .inr (.inl ⟨by rw [if_neg (by omega), if_neg (by omega)], h⟩)
  · exact .inr (.inr ⟨by rw [if_neg (by omega), if_pos h], h⟩)
theorem cb_cases : ∀ (a b : List UInt8), Lib.compareBytes a b = -1 ∨ (Lib.compareBytes a b = 0 ∧ a = b) ∨ Lib.compareBytes a b = 1
  | [], [] => .inr (.inl ⟨rfl, rfl⟩)
  | [], _ :: _ => .inl rfl
  | _ :: _, [] => .inr (.inr rfl)
  | x :: a, y :: b => by
    unfold Lib.compareBytes
    split
    · exact .inl rfl
    · split
      · exact .inr (.inr rfl)
      · rcases cb_cases a b with h | ⟨h, e⟩ | h
        · exact .inl h
        · refine .inr (.inl ⟨h, ?_⟩)
          have : x = y := UInt8.toNat_inj.1 (by simp only [UInt8.lt_iff_toNat_lt] at *; omega)
          rw [e, this]
        · exact .inr (.inr h)
theorem cb_swap : ∀ (a b : List UInt8), Lib.compareBytes b a = -Lib.compareBytes a b
  | [], [] => rfl
  | [], _ :: _ => rfl
  | _ :: _, [] => rfl
  | x :: a, y :: b => by
    unfold Lib.compareBytes
    by_cases h1 : x < y
    · rw [if_pos h1, if_neg (by simp only [UInt8.lt_iff_toNat_lt] at *; omega), if_pos h1]; rfl
    · by_cases h2 : y < x
      · rw [if_pos h2, if_neg h1, if_pos h2]
      · rw [if_neg h2, if_neg h1, if_neg h1, if_neg h2, cb_swap a b]
/-- One comparison behind another. -/
def lex (s t : Int) : Int := if s = 0 then t else s
/-- Transitive. -/
def Tr (m n k : Int) : Prop := (m ≤ 0 → n ≤ 0 → k ≤ 0 ∧ (k = 0 → m = 0 ∧ n = 0)) ∧ (m = 0 → n = 0 → k = 0)
theorem Tr.lex {m n k m' n' k' : Int} (h : Tr m n k) (h' : Tr m' n' k') : Tr (lex m m') (lex n n') (lex k k') := by
  unfold Tr Ab.lex at *
  obtain ⟨h1, h2⟩ := h
  obtain ⟨h3, h4⟩ := h'
  refine ⟨fun a b => ?_, fun a b => ?_⟩
  · have hm : m ≤ 0 := by split at a <;> omega
    have hn : n ≤ 0 := by split at b <;> omega
    obtain ⟨k1, k2⟩ := h1 hm hn
    by_cases hk : k = 0
    · obtain ⟨rfl, rfl⟩ := k2 hk
      rw [if_pos rfl] at a b
      obtain ⟨k3, k4⟩ := h3 a b
      rw [if_pos hk, if_pos rfl, if_pos rfl]
      exact ⟨k3, k4⟩
    · rw [if_neg hk]
      exact ⟨k1, fun x => absurd x hk⟩
  · have hm : m = 0 ∧ m' = 0 := by split at a <;> omega
    have hn : n = 0 ∧ n' = 0 := by split at b <;> omega
    rw [if_pos (h2 hm.1 hn.1)]
    exact h4 hm.2 hn.2
theorem sgn_tr (a b c : Int) : Tr (sgn a b) (sgn b c) (sgn a c) := by
  unfold Tr
  rcases sgn_cases a b with h1 | h1 | h1 <;> rcases sgn_cases b c with h2 | h2 | h2 <;> rcases sgn_cases a c with h3 | h3 | h3 <;> omega
theorem cb_lex (x y : UInt8) (a b : List UInt8) : Lib.compareBytes (x :: a) (y :: b) = lex (sgn x.toNat y.toNat) (Lib.compareBytes a b) := by
  show (if x < y then (-1 : Int) else if y < x then 1 else Lib.compareBytes a b) = _
  unfold lex
  simp only [UInt8.lt_iff_toNat_lt]
  rcases Nat.lt_trichotomy x.toNat y.toNat with h | h | h
  · rw [if_pos h, show sgn (x.toNat : Int) y.toNat = -1 by unfold sgn; rw [if_pos (by omega)], if_neg (by decide)]
  · rw [if_neg (by omega), if_neg (by omega), show sgn (x.toNat : Int) y.toNat = 0 by unfold sgn; rw [if_neg (by omega), if_neg (by omega)], if_pos rfl]
  · rw [if_neg (by omega), if_pos h, show sgn (x.toNat : Int) y.toNat = 1 by unfold sgn; rw [if_neg (by omega), if_pos (by omega)], if_neg (by decide)]
theorem cb_tr : ∀ (a b c : List UInt8), Tr (Lib.compareBytes a b) (Lib.compareBytes b c) (Lib.compareBytes a c)
  | [], [], [] => by unfold Tr; decide
  | [], [], _ :: _ => by
    have e : Lib.compareBytes [] [] = 0 := rfl
    show Tr 0 (-1) (-1)
    unfold Tr; decide
  | [], _ :: _, [] => by
    show Tr (-1) 1 0
    unfold Tr; decide
  | _ :: _, [], [] => by
    show Tr 1 0 1
    unfold Tr; decide
  | [], y :: b, z :: c => by
    show Tr (-1) (Lib.compareBytes (y :: b) (z :: c)) (-1)
    unfold Tr
    omega
  | _ :: _, [], _ :: _ => by
    show Tr 1 (-1) _
    unfold Tr
    omega
  | x :: a, y :: b, [] => by
    show Tr (Lib.compareBytes (x :: a) (y :: b)) 1 1
    unfold Tr
    omega
  | x :: a, y :: b, z :: c => by
    rw [cb_lex, cb_lex, cb_lex]
    exact (sgn_tr _ _ _).lex (cb_tr a b c)
theorem cmpV_lex (k n : Int) (s : ByteArray) (k' n' : Int) (s' : ByteArray) : cmpV k n s k' n' s' = lex (sgn k k') (lex (sgn n n') (Lib.compareBytes s.data.toList s'.data.toList)) := rfl
theorem cmp_tr (k n : Int) (s : ByteArray) (k' n' : Int) (s' : ByteArray) (k'' n'' : Int) (s'' : ByteArray) : Tr (cmpV k n s k' n' s') (cmpV k' n' s' k'' n'' s'') (cmpV k n s k'' n'' s'') := by
  rw [cmpV_lex, cmpV_lex, cmpV_lex]
  exact (sgn_tr _ _ _).lex ((sgn_tr _ _ _).lex (cb_tr _ _ _))
theorem lex_neg (a b : Int) : lex (-a) (-b) = -lex a b := by
  unfold lex
  split <;> split <;> omega
theorem cmp_swap (k n : Int) (s : ByteArray) (k' n' : Int) (s' : ByteArray) : cmpV k' n' s' k n s = -cmpV k n s k' n' s' := by
  rw [cmpV_lex, cmpV_lex, sgn_swap k k', sgn_swap n n', cb_swap, lex_neg, lex_neg]
theorem cmp_cases (k n : Int) (s : ByteArray) (k' n' : Int) (s' : ByteArray) : (cmpV k n s k' n' s' = -1 ∨ cmpV k n s k' n' s' = 0 ∨ cmpV k n s k' n' s' = 1) ∧ (cmpV k n s k' n' s' = 0 ↔ k = k' ∧ n = n' ∧ s = s') := by
  rw [cmpV_lex]
  unfold lex
  have hb : s.data.toList = s'.data.toList ↔ s = s' := by
    constructor
    · intro h
      cases s; cases s'
      simp only at h
      rw [Array.toList_inj.1 h]
    · intro h; rw [h]
  have hcb : Lib.compareBytes s.data.toList s'.data.toList = 0 ↔ s = s' := by
    rw [← hb]
    constructor
    · intro h
      rcases cb_cases s.data.toList s'.data.toList with x | x | x
      · omega
      · exact x.2
      · omega
    · intro h
      rcases cb_cases s.data.toList s'.data.toList with x | x | x
      · have := cb_swap s.data.toList s'.data.toList; rw [h] at this x; omega
      · exact x.1
      · have := cb_swap s.data.toList s'.data.toList; rw [h] at this x; omega
  have hc3 := cb_cases s.data.toList s'.data.toList
  rcases sgn_cases k k' with ⟨h1, h2⟩ | ⟨h1, h2⟩ | ⟨h1, h2⟩
  · rw [if_neg (by omega)]
    exact ⟨by omega, by omega⟩
  · rw [if_pos h1]
    rcases sgn_cases n n' with ⟨g1, g2⟩ | ⟨g1, g2⟩ | ⟨g1, g2⟩
    · rw [if_neg (by omega)]
      exact ⟨by omega, by omega⟩
    · rw [if_pos g1]
      refine ⟨?_, by rw [hcb]; exact ⟨fun h => ⟨h2, g2, h⟩, fun h => h.2.2⟩⟩
      rcases hc3 with x | x | x
      · exact .inl x
      · exact .inr (.inl x.1)
      · exact .inr (.inr x)
    · rw [if_neg (by omega)]
      exact ⟨by omega, by omega⟩
  · rw [if_neg (by omega)]
    exact ⟨by omega, by omega⟩
end Go.Ab
