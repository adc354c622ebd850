/- Plain law of values: texts in quotes. -/
import Derived.Test.YtddkacbcecedaaaGreatDoorZ3
set_option linter.unusedSimpArgs false
set_option linter.unusedVariables false
set_option linter.unusedSectionVars false
namespace Go.Ab.A01
open Go

/-- A hexadecimal digit. -/
def hexd (k : Nat) : UInt8 := if k < 10 then UInt8.ofNat (48 + k) else UInt8.ofNat (87 + k)
/-- A byte within quotes. -/
def quote1 (c : UInt8) : List UInt8 :=
  if c = 34 ∨ c = 92 then [92, c] else if c = 10 then [92, 110] else if c.toNat < 32 ∨ 126 < c.toNat then [92, 120, hexd (c.toNat / 16), hexd (c.toNat % 16)] else [c]
/-- A text in quotes. -/
def quoteL (l : List UInt8) : List UInt8 := 34 :: (l.flatMap quote1 ++ [34])

/-- The value of a hexadecimal digit. -/
def hexv (c : UInt8) : Option Nat := if 48 ≤ c.toNat ∧ c.toNat ≤ 57 then some (c.toNat - 48) else if 97 ≤ c.toNat ∧ c.toNat ≤ 102 then some (c.toNat - 87) else none

/-- What the program reads between quotes, from place i on; h: the byte that stands behind a backslash and an x at a place. -/
def unqP (h : List UInt8 → Nat → UInt8) (s : List UInt8) : Nat → Nat → List UInt8
  | 0, _ => []
  | f + 1, i => if i + 1 < s.length then
      (if s.getD i 0 = 92 ∧ i + 1 < s.length then
        (if s.getD (i + 1) 0 = 110 then 10 :: unqP h s f (i + 2) else if s.getD (i + 1) 0 = 120 then h s (i + 2) :: unqP h s f (i + 4) else s.getD (i + 1) 0 :: unqP h s f (i + 2))
      else s.getD i 0 :: unqP h s f (i + 1)) else []

/-- What the reference reads between quotes. -/
def unqR (h : List UInt8 → Nat → UInt8) (s : List UInt8) : Nat → Nat → List UInt8
  | 0, _ => []
  | f + 1, i => if i + 1 < s.length then
      (if ¬ s.getD i 0 = 92 ∨ s.length ≤ i + 2 then s.getD i 0 :: unqR h s f (i + 1)
      else if s.getD (i + 1) 0 = 110 then 10 :: unqR h s f (i + 2) else if s.getD (i + 1) 0 = 120 ∧ i + 4 < s.length then h s (i + 2) :: unqR h s f (i + 4) else s.getD (i + 1) 0 :: unqR h s f (i + 2))
    else []

theorem getD_mid (p r : List UInt8) (k : Nat) : (p ++ r).getD (p.length + k) 0 = r.getD k 0 := by
  simp only [List.getD_eq_getElem?_getD]
  rw [List.getElem?_append_right (by omega)]
  congr 2
  omega

theorem quote1_len (c : UInt8) : 1 ≤ (quote1 c).length ∧ (quote1 c).length ≤ 4 := by
  unfold quote1
  split
  · simp
  · split
    · simp
    · split <;> simp

/-- Bytes. -/
def mkB (l : List UInt8) : ByteArray := ⟨l.toArray⟩
theorem mkB_app (a b : List UInt8) : mkB a ++ mkB b = mkB (a ++ b) := by
  have h : (mkB a ++ mkB b).data.toList = (mkB (a ++ b)).data.toList := by
    rw [ByteArray.data_append, Array.toList_append]
    rfl
  cases h1 : mkB a ++ mkB b
  rw [h1] at h
  unfold mkB at h ⊢
  simp only at h
  rw [← h]
theorem mkB_size (l : List UInt8) : (mkB l).size = l.length := by
  show l.toArray.size = _
  simp
/-- What Quote has written after j bytes. -/
def accQ (l : List UInt8) (j : Nat) : ByteArray := mkB (34 :: (l.take j).flatMap quote1)
theorem accQ_step {l : List UInt8} {j : Nat} (h : j < l.length) : accQ l (j + 1) = accQ l j ++ mkB (quote1 (l.getD j 0)) := by
  unfold accQ
  rw [mkB_app, List.take_add_one, List.flatMap_append]
  simp [List.getD_eq_getElem?_getD, h]
theorem flat_le (l : List UInt8) : (l.flatMap quote1).length ≤ 4 * l.length := by
  induction l with
  | nil => simp
  | cons x l ih =>
    have := (quote1_len x).2
    simp only [List.flatMap_cons, List.length_append, List.length_cons]
    omega
theorem accQ_size (l : List UInt8) (j : Nat) : (accQ l j).size ≤ 1 + 4 * l.length := by
  unfold accQ
  rw [mkB_size]
  have := flat_le (l.take j)
  have h2 : (l.take j).length ≤ l.length := by rw [List.length_take]; omega
  simp only [List.length_cons]
  omega
theorem accQ_end {l : List UInt8} {j : Nat} (h : l.length ≤ j) : accQ l j ++ ⟨#[34]⟩ = mkB (quoteL l) := by
  show accQ l j ++ mkB [34] = _
  unfold accQ quoteL
  rw [mkB_app, List.take_of_length_le h]
  simp
theorem ext_one {s : ByteArray} {j : Nat} (h : j < s.size) : s.extract j (j + 1) = mkB [s.data.toList.getD j 0] := by
  have e : (s.extract j (j + 1)).data.toList = (mkB [s.data.toList.getD j 0]).data.toList := by
    rw [ByteArray.data_extract, Array.toList_extract, List.extract_eq_take_drop]
    have hl : j < s.data.toList.length := by rw [Array.length_toList]; exact h
    rw [Nat.add_sub_cancel_left, List.drop_eq_getElem_cons hl]
    simp only [mkB, List.take_succ_cons, List.take_zero, List.getD_eq_getElem?_getD]
    rw [List.getElem?_eq_getElem hl]
    rfl
  cases h1 : s.extract j (j + 1)
  rw [h1] at e
  unfold mkB at e ⊢
  simp only at e
  rw [← e]
theorem hex_one : ∀ u : Fin 16, (⟨#[48, 49, 50, 51, 52, 53, 54, 55, 56, 57, 97, 98, 99, 100, 101, 102]⟩ : ByteArray).extract u.val (u.val + 1) = mkB [hexd u.val] := by decide +kernel
theorem q_34 {c : UInt8} (h : c.toNat = 34) : mkB (quote1 c) = ⟨#[92, 34]⟩ := by
  obtain rfl : c = 34 := UInt8.toNat_inj.1 h
  rfl
theorem q_92 {c : UInt8} (h : c.toNat = 92) : mkB (quote1 c) = ⟨#[92, 92]⟩ := by
  obtain rfl : c = 92 := UInt8.toNat_inj.1 h
  rfl
theorem q_10 {c : UInt8} (h : c.toNat = 10) : mkB (quote1 c) = ⟨#[92, 110]⟩ := by
  obtain rfl : c = 10 := UInt8.toNat_inj.1 h
  rfl
theorem q_hex {c : UInt8} (h : c.toNat ≠ 34 ∧ c.toNat ≠ 92 ∧ c.toNat ≠ 10 ∧ (c.toNat < 32 ∨ 126 < c.toNat)) : quote1 c = [92, 120, hexd (c.toNat / 16), hexd (c.toNat % 16)] := by
  have h1 : ¬ (c = 34 ∨ c = 92) := fun e => by rcases e with rfl | rfl; exact h.1 rfl; exact h.2.1 rfl
  have h2 : ¬ c = 10 := fun e => by subst e; exact h.2.2.1 rfl
  unfold quote1
  rw [if_neg h1, if_neg h2, if_pos h.2.2.2]
theorem q_plain {c : UInt8} (h : c.toNat ≠ 34 ∧ c.toNat ≠ 92 ∧ 32 ≤ c.toNat ∧ c.toNat ≤ 126) : quote1 c = [c] := by
  have h1 : ¬ (c = 34 ∨ c = 92) := fun e => by rcases e with rfl | rfl; exact h.1 rfl; exact h.2.1 rfl
  have h2 : ¬ c = 10 := fun e => by subst e; exact absurd h.2.2.1 (by decide)
  unfold quote1
  rw [if_neg h1, if_neg h2, if_neg (by omega)]
theorem str_eq {a b : ByteArray} (h : a = b) : SV.sc (.string a) = SV.sc (.string b) := congrArg (fun x => SV.sc (.string x)) h
/-- The bytes that quoted has written after j bytes. -/
def accL (l : List UInt8) (j : Nat) : List UInt8 := 34 :: (l.take j).flatMap quote1
theorem accL_step {l : List UInt8} {j : Nat} (h : j < l.length) : accL l (j + 1) = accL l j ++ quote1 (l.getD j 0) := by
  unfold accL
  rw [List.take_add_one, List.flatMap_append]
  simp [List.getD_eq_getElem?_getD, h]
theorem accL_size (l : List UInt8) (j : Nat) : (accL l j).length ≤ 1 + 4 * l.length := by
  unfold accL
  have := flat_le (l.take j)
  have h2 : (l.take j).length ≤ l.length := by rw [List.length_take]; omega
  simp only [List.length_cons]
  omega
theorem accL_end {l : List UInt8} {j : Nat} (h : l.length ≤ j) : accL l j ++ [34] = quoteL l := by
  unfold accL quoteL
  rw [List.take_of_length_le h]
  rfl
theorem hexd_of : ∀ u : Fin 16, (⟨#[48, 49, 50, 51, 52, 53, 54, 55, 56, 57, 97, 98, 99, 100, 101, 102]⟩ : ByteArray).data.toList.getD u.val 0 = hexd u.val := by decide +kernel
theorem q_n {c : UInt8} (h : c.toNat = 10) : quote1 c = [92, 110] := by
  obtain rfl : c = 10 := UInt8.toNat_inj.1 h
  rfl
theorem q_b {c : UInt8} (h : c.toNat = 34 ∨ c.toNat = 92) : quote1 c = [92, c] := by
  have h1 : c = 34 ∨ c = 92 := h.imp (fun e => UInt8.toNat_inj.1 e) (fun e => UInt8.toNat_inj.1 e)
  unfold quote1
  rw [if_pos h1]
end Go.Ab.A01
