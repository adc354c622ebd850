/- Beginnings: the simp set, cells of lists. -/
import Derived.Test.YtmcmphmhjikgkaaGreatDoorTab
import Derived.Test.YtmcmphmhjikgkaaGreatDoorChecked
import Derived.Test.YtmcmphmhjikgkaaGreatDoorZ5
import Derived.Test.YtmcmphmhjikgkaaGreatDoorZ8
import Derived.Test.YtmcmphmhjikgkaaGreatDoorZ13
import Derived.Test.YtmcmphmhjikgkaaGreatDoorZ14
import Derived.Test.YtmcmphmhjikgkaaGreatDoorA1
set_option linter.unusedSimpArgs false
set_option linter.unusedVariables false
set_option linter.unusedSectionVars false
attribute [go_sem] Nat.reduceAdd Nat.reduceMul Nat.reduceSub Nat.reduceLT Nat.reduceLeDiff Nat.reduceEqDiff Nat.reduceBEq Nat.reduceBneDiff Int.reduceToNat Int.reduceEq reduceCtorEq List.drop_succ_cons List.take_succ_cons List.take_zero
attribute [go_sem ↓] reduceIte
namespace Go.Ab.A20
open Go Go.Ab Go.Proofs
abbrev U32 (n : Int) : SV := .sc (.int .u32 n)
abbrev U8 (n : Int) : SV := .sc (.int .u8 n)
def In64 (n : Int) : Prop := -9223372036854775808 ≤ n ∧ n ≤ 9223372036854775807
/-- Cells of a list. -/
def fC {α : Type} (enc : α → List SV) (l : List α) : List SV := l.flatMap enc
theorem fC_snoc {α : Type} {enc : α → List SV} (l : List α) (x : α) : fC enc l ++ enc x = fC enc (l ++ [x]) := by unfold fC; rw [List.flatMap_append]; simp
theorem fC_len {α : Type} {enc : α → List SV} {k : Nat} (hk : ∀ x, (enc x).length = k) (l : List α) : l.length * k = (fC enc l).length := by
  unfold fC
  induction l with
  | nil => simp
  | cons a r ih => rw [List.flatMap_cons, List.length_append, ← ih, hk, List.length_cons, Nat.add_mul, Nat.one_mul, Nat.add_comm]
theorem fC_at {α : Type} {enc : α → List SV} {k : Nat} (hk : ∀ x, (enc x).length = k) (d : α) : ∀ (l : List α) (j : Nat), j < l.length → enc (l.getD j d) = ((fC enc l).drop (j * k)).take k
  | [], j, h => absurd h (by simp)
  | a :: l, 0, _ => by
    unfold fC
    rw [Nat.zero_mul, List.drop_zero, List.flatMap_cons, List.take_append_of_le_length (by rw [hk]; exact Nat.le_refl _), List.take_of_length_le (by rw [hk]; exact Nat.le_refl _)]
    rfl
  | a :: l, j + 1, h => by
    have := fC_at hk d l j (by rw [List.length_cons] at h; omega)
    unfold fC at *
    rw [List.flatMap_cons, show (j + 1) * k = (enc a).length + j * k by rw [hk, Nat.add_mul, Nat.one_mul, Nat.add_comm], ← List.drop_drop, List.drop_left]
    exact this
theorem getD_in {α : Type} {l : List α} {i : Nat} (d : α) (h : i < l.length) : l.getD i d = l[i] := by simp [List.getD_eq_getElem?_getD, h]
theorem getD_mem {α : Type} {l : List α} {i : Nat} (d : α) (h : i < l.length) : l.getD i d ∈ l := by rw [getD_in d h]; exact List.getElem_mem h
theorem take_snoc {α : Type} {l : List α} {i : Nat} (d : α) (h : i < l.length) : l.take (i + 1) = l.take i ++ [l.getD i d] := by
  rw [List.take_add_one, List.getElem?_eq_getElem h, getD_in d h]; rfl
theorem drop_cons {α : Type} {l : List α} {i : Nat} (d : α) (h : i < l.length) : l.drop i = l.getD i d :: l.drop (i + 1) := by
  rw [List.drop_eq_getElem_cons h, getD_in d h]
/-- Numbers, sets, dependencies as cells; what is read of slices of them. -/
def nC1 (n : Int) : List SV := [I64 n]
def sC1 (n : Nat) : List SV := [U32 n]
def dC (d : D2) : List SV := [U32 d.1, U32 d.2]
theorem nC1_len (n : Int) : (nC1 n).length = 1 := rfl
theorem sC1_len (n : Nat) : (sC1 n).length = 1 := rfl
theorem dC_len (d : D2) : (dC d).length = 2 := rfl
def nF (l : List Int) (i : Nat) : List SV := nC1 (l.getD i 0)
def sF (l : List Nat) (i : Nat) : List SV := sC1 (l.getD i 0)
def dF (l : List D2) (i : Nat) : List SV := dC (l.getD i d0)
abbrev NL (l : List Int) : SV := .fl l.length 1 (nF l)
abbrev SS (l : List Nat) : SV := .fl l.length 1 (sF l)
abbrev DL (l : List D2) : SV := .fl l.length 2 (dF l)
abbrev DV (d : D2) : SV := .agg (dC d)
end Go.Ab.A20
