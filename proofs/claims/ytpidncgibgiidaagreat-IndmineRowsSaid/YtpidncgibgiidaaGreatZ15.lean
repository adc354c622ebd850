/- Bits of words of 32 bits, as naturals. -/
import Derived.Laws.Bits64b
set_option linter.unusedSimpArgs false
set_option linter.unusedVariables false
set_option linter.unusedSectionVars false
namespace Go.Ab
open Go
theorem u32w (n : Int) : IntKind.u32.wrap n = n % 4294967296 := by simp [IntKind.wrap, IntKind.signed, IntKind.bits]
theorem u32n {n : Int} (h0 : 0 ≤ n) (h1 : n < 4294967296) : IntKind.u32.wrap n = n := by rw [u32w]; omega
theorem nat32 {a : Nat} (ha : a < 4294967296) : (BitVec.ofInt 32 (a : Int)).toNat = a := by
  rw [BitVec.ofInt_natCast, BitVec.toNat_ofNat]; exact Nat.mod_eq_of_lt (by omega)
theorem or32 (a b : Nat) (ha : a < 4294967296) (hb : b < 4294967296) : bits .or .u32 (a : Int) (b : Int) = ((a ||| b : Nat) : Int) := by
  have hx : a ||| b < 2 ^ 32 := Nat.or_lt_two_pow (by omega) (by omega)
  show IntKind.u32.wrap ((BitVec.ofInt 32 (a : Int) ||| BitVec.ofInt 32 (b : Int)).toNat : Int) = _
  rw [BitVec.toNat_or, nat32 ha, nat32 hb, u32w]
  omega
theorem shl32 (i : Nat) (h : i < 32) : IntKind.u32.wrap ((1 : Int) * 2 ^ min i 32) = ((2 ^ i : Nat) : Int) := by
  rw [Nat.min_eq_left (by omega), Int.one_mul]
  have h1 : (2 : Nat) ^ i < 2 ^ 32 := Nat.pow_lt_pow_right (by omega) h
  have e : ((2 : Int) ^ i) = ((2 ^ i : Nat) : Int) := by simp
  rw [e]
  generalize (2 : Nat) ^ i = x at h1 ⊢
  exact u32n (by omega) (by omega)
theorem shr32 (x i : Nat) : Int.fdiv (x : Int) (2 ^ i) = ((x / 2 ^ i : Nat) : Int) := by
  rw [Int.fdiv_eq_ediv_of_nonneg _ (by exact Int.pow_nonneg (by decide)), Int.natCast_ediv, Int.natCast_pow]; rfl
end Go.Ab
