/- Contract: Digits of the reference. -/
import Derived.Test.YtddkacbcecedaaaGreatDoorR2
set_option linter.unusedSimpArgs false
set_option linter.unusedVariables false
set_option linter.unusedSectionVars false
namespace Go.Ab
open Go
/-- A number's decimal digits. -/
def dec (u : Nat) : ByteArray := ⟨(Lib.decDigits u).toArray⟩
theorem dec_size (u : Nat) : (dec u).size = Lib.nDigits u := by
  show (Lib.decDigits u).toArray.size = _
  rw [List.size_toArray, Lib.decDigits_length]
theorem dec_one : ∀ u : Fin 10, (⟨#[48, 49, 50, 51, 52, 53, 54, 55, 56, 57]⟩ : ByteArray).extract u.val (u.val + 1) = ⟨#[UInt8.ofNat (48 + u.val)]⟩ := by decide +kernel
theorem barr_data {a b : ByteArray} (h : a.data.toList = b.data.toList) : a = b := by
  cases a; cases b
  simp only at h
  rw [Array.toList_inj.1 h]
theorem dec_app {u : Nat} (h : ¬ u < 10) : dec (u / 10) ++ dec (u % 10) = dec u := by
  refine barr_data ?_
  rw [ByteArray.data_append, Array.toList_append]
  show Lib.decDigits (u / 10) ++ Lib.decDigits (u % 10) = Lib.decDigits u
  rw [Lib.decDigits.eq_def u, dif_neg h, Lib.decDigits.eq_def (u % 10), dif_pos (by omega)]
end Go.Ab
namespace Go.Proofs.YtddkacbcecedaaaGreatDoor
open Go Go.Ab
variable [Gl] [Tabs]



theorem itoaS_nat (u : Nat) : itoaS (u : Int) = dec u := by unfold itoaS dec; rw [Lib.itoa_nonneg]
theorem itoaS_neg (u : Nat) (h : 1 ≤ u) : itoaS (-(u : Int)) = ⟨#[45]⟩ ++ dec u := by
  refine barr_data ?_
  rw [ByteArray.data_append, Array.toList_append]
  show Lib.itoa (-(u : Int)) = 45 :: Lib.decDigits u
  rw [Lib.itoa_neg u h]
theorem itoaS_min : itoaS (-9223372036854775808) = ⟨#[45, 57, 50, 50, 51, 51, 55, 50, 48, 51, 54, 56, 53, 52, 55, 55, 53, 56, 48, 56]⟩ := by
  have h := itoaS_neg 9223372036854775808 (by decide)
  have e : Lib.nDigits 9223372036854775808 = 19 := Lib.nDigits_unique 18 _ (by decide) (by decide)
  have e2 : Lib.decDigits 9223372036854775808 = [57, 50, 50, 51, 51, 55, 50, 48, 51, 54, 56, 53, 52, 55, 55, 53, 56, 48, 56] := by
    rw [Lib.decDigits_eq, e]
    decide +kernel
  unfold dec at h
  rw [e2] at h
  exact h

end Go.Proofs.YtddkacbcecedaaaGreatDoor