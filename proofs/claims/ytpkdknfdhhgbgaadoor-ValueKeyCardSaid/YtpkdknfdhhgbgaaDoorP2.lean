/- Plain law of values: hexadecimal digits. -/
import Derived.Test.YtpkdknfdhhgbgaaDoorP1
set_option linter.unusedSimpArgs false
set_option linter.unusedVariables false
set_option linter.unusedSectionVars false
namespace Go.Ab.A01
open Go

/-- The value of a digit for ParseUint at base 16. -/
def dv (c : UInt8) : Option Nat := if 48 ≤ c.toNat ∧ c.toNat ≤ 57 then some (c.toNat - 48) else if 97 ≤ c.toNat ||| 32 ∧ c.toNat ||| 32 ≤ 102 then some ((c.toNat ||| 32) - 87) else .none
def hexF : Nat → List UInt8 → Option Nat
  | n, [] => some n
  | n, c :: r => match dv c with
    | some d => hexF (n * 16 + d) r
    | .none => .none
/-- The number that ParseUint reads at base 16. -/
def hexO (l : List UInt8) : Option Nat := if l = [] then .none else hexF 0 l
theorem dv_lt {c : UInt8} {d : Nat} (h : dv c = some d) : d < 16 := by
  unfold dv at h
  split at h
  · cases h; omega
  · split at h
    · cases h; omega
    · cases h
theorem hexF_app : ∀ (a b : List UInt8) (n m : Nat), hexF n a = some m → hexF n (a ++ b) = hexF m b
  | [], b, n, m, h => by cases h; rfl
  | c :: a, b, n, m, h => by
    simp only [List.cons_append, hexF] at h ⊢
    cases hd : dv c with
    | none => rw [hd] at h; cases h
    | some d => rw [hd] at h; exact hexF_app a b _ m h
theorem hexF_lt : ∀ (l : List UInt8) (n m k : Nat), n < 16 ^ k → hexF n l = some m → m < 16 ^ (k + l.length)
  | [], n, m, k, h, e => by cases e; simpa using h
  | c :: r, n, m, k, h, e => by
    simp only [hexF] at e
    cases hd : dv c with
    | none => rw [hd] at e; cases e
    | some d =>
      rw [hd] at e
      have hl := dv_lt hd
      have h2 : n * 16 + d < 16 ^ (k + 1) := by rw [Nat.pow_succ]; omega
      have := hexF_lt r _ m (k + 1) h2 e
      rwa [List.length_cons, Nat.add_comm r.length, ← Nat.add_assoc]
theorem hexF_step {l : List UInt8} {i n : Nat} (hi : i < l.length) (h : hexF 0 (l.take i) = some n) :
    (∀ d, dv (l.getD i 0) = some d → hexF 0 (l.take (i + 1)) = some (n * 16 + d)) ∧ (dv (l.getD i 0) = .none → hexF 0 l = .none) := by
  have g : l.getD i 0 = l[i] := by simp [List.getD_eq_getElem?_getD, hi]
  refine ⟨fun d hd => ?_, fun hn => ?_⟩
  · rw [List.take_add_one, List.getElem?_eq_getElem hi, hexF_app _ _ _ _ h, ← g]
    simp only [Option.toList_some, hexF]
    rw [hd]
  · have e2 : l = l.take i ++ (l.getD i 0 :: l.drop (i + 1)) := by
      rw [g, ← List.drop_eq_getElem_cons hi, List.take_append_drop]
    rw [e2, hexF_app _ _ _ _ h]
    simp only [hexF]
    rw [hn]
theorem hexd_dv : ∀ u : Fin 16, dv (hexd u.val) = some u.val := by decide +kernel
/-- Two digits. -/
theorem hex_two {a b : Nat} (ha : a < 16) (hb : b < 16) : hexO [hexd a, hexd b] = some (a * 16 + b) := by
  have h1 := hexd_dv ⟨a, ha⟩
  have h2 := hexd_dv ⟨b, hb⟩
  simp only at h1 h2
  unfold hexO
  rw [if_neg (by simp)]
  simp only [hexF, h1, h2, Nat.zero_mul, Nat.zero_add]
end Go.Ab.A01
