/- Bits of words of 32 bits, as naturals. -/
import Derived.Laws.Bits64b
set_option linter.unusedSimpArgs false
set_option linter.unusedVariables false
set_option linter.unusedSectionVars false
namespace Go.Ab
open Go
theorem u32w (n : Int) : IntKind.u32.wrap n = n % 4294967296 := by simp [IntKind.wrap, IntKind.signed, IntKind.bits]
theorem u32n {n : Int} (h0 : 0 ≤ n) (h1 : n < 4294967296) : IntKind.u32.wrap n = n := by rw [u32w]; omega
/-- What is in the first set, and not in the second one. -/
def dif (a b : Nat) : Nat := a ^^^ (a &&& b)
theorem dif_bit (a b i : Nat) : (dif a b).testBit i = (a.testBit i && !b.testBit i) := by
  unfold dif
  rw [Nat.testBit_xor, Nat.testBit_and]
  cases a.testBit i <;> cases b.testBit i <;> rfl
theorem dif_zero {a b : Nat} : dif a b = 0 ↔ a &&& b = a := by
  constructor
  · intro h
    refine Nat.eq_of_testBit_eq fun i => ?_
    have := dif_bit a b i
    rw [h, Nat.zero_testBit] at this
    rw [Nat.testBit_and]
    cases ha : a.testBit i <;> cases hb : b.testBit i <;> simp_all
  · intro h
    refine Nat.eq_of_testBit_eq fun i => ?_
    rw [dif_bit, Nat.zero_testBit]
    have h2 : (a &&& b).testBit i = a.testBit i := by rw [h]
    rw [Nat.testBit_and] at h2
    cases ha : a.testBit i <;> cases hb : b.testBit i <;> simp_all
theorem dif_le (a b : Nat) : dif a b ≤ a := by
  have h : dif a b &&& a = dif a b := by
    refine Nat.eq_of_testBit_eq fun i => ?_
    rw [Nat.testBit_and, dif_bit]
    cases a.testBit i <;> simp
  rw [← h]
  exact Nat.and_le_right
theorem nat32 {a : Nat} (ha : a < 4294967296) : (BitVec.ofInt 32 (a : Int)).toNat = a := by
  rw [BitVec.ofInt_natCast, BitVec.toNat_ofNat]; exact Nat.mod_eq_of_lt (by omega)
theorem and32 (a b : Nat) (ha : a < 4294967296) (hb : b < 4294967296) : bits .and .u32 (a : Int) (b : Int) = ((a &&& b : Nat) : Int) := by
  have hx : a &&& b < 2 ^ 32 := Nat.and_lt_two_pow _ (by omega)
  show IntKind.u32.wrap ((BitVec.ofInt 32 (a : Int) &&& BitVec.ofInt 32 (b : Int)).toNat : Int) = _
  rw [BitVec.toNat_and, nat32 ha, nat32 hb, u32w]
  omega
theorem or32 (a b : Nat) (ha : a < 4294967296) (hb : b < 4294967296) : bits .or .u32 (a : Int) (b : Int) = ((a ||| b : Nat) : Int) := by
  have hx : a ||| b < 2 ^ 32 := Nat.or_lt_two_pow (by omega) (by omega)
  show IntKind.u32.wrap ((BitVec.ofInt 32 (a : Int) ||| BitVec.ofInt 32 (b : Int)).toNat : Int) = _
  rw [BitVec.toNat_or, nat32 ha, nat32 hb, u32w]
  omega
theorem xor32 (a b : Nat) (ha : a < 4294967296) (hb : b < 4294967296) : bits .xor .u32 (a : Int) (b : Int) = ((a ^^^ b : Nat) : Int) := by
  have hx : a ^^^ b < 2 ^ 32 := Nat.xor_lt_two_pow (by omega) (by omega)
  show IntKind.u32.wrap ((BitVec.ofInt 32 (a : Int) ^^^ BitVec.ofInt 32 (b : Int)).toNat : Int) = _
  rw [BitVec.toNat_xor, nat32 ha, nat32 hb, u32w]
  omega
theorem not32 (a b : Nat) (ha : a < 4294967296) (hb : b < 4294967296) : bits .andNot .u32 (a : Int) (b : Int) = ((dif a b : Nat) : Int) := by
  have hx : dif a b < 4294967296 := Nat.lt_of_le_of_lt (dif_le a b) ha
  show IntKind.u32.wrap ((BitVec.ofInt 32 (a : Int) &&& ~~~BitVec.ofInt 32 (b : Int)).toNat : Int) = _
  have e : (BitVec.ofInt 32 (a : Int) &&& ~~~BitVec.ofInt 32 (b : Int)).toNat = dif a b := by
    refine Nat.eq_of_testBit_eq fun i => ?_
    rw [dif_bit, BitVec.testBit_toNat, BitVec.getLsbD_and, BitVec.getLsbD_not, ← BitVec.testBit_toNat, ← BitVec.testBit_toNat, nat32 ha, nat32 hb]
    by_cases hi : i < 32
    · simp [hi]
    · have : a.testBit i = false := Nat.testBit_lt_two_pow (Nat.lt_of_lt_of_le ha (show 2 ^ 32 ≤ 2 ^ i from Nat.pow_le_pow_right (by omega) (by omega)))
      simp [hi, this]
  rw [e, u32w]
  omega
/-- The set of the numbers below n. -/
theorem shl32 (i : Nat) (h : i < 32) : IntKind.u32.wrap ((1 : Int) * 2 ^ min i 32) = ((2 ^ i : Nat) : Int) := by
  rw [Nat.min_eq_left (by omega), Int.one_mul]
  have h1 : (2 : Nat) ^ i < 2 ^ 32 := Nat.pow_lt_pow_right (by omega) h
  have e : ((2 : Int) ^ i) = ((2 ^ i : Nat) : Int) := by simp
  rw [e]
  generalize (2 : Nat) ^ i = x at h1 ⊢
  exact u32n (by omega) (by omega)
theorem shr32 (x i : Nat) : Int.fdiv (x : Int) (2 ^ i) = ((x / 2 ^ i : Nat) : Int) := by
  rw [Int.fdiv_eq_ediv_of_nonneg _ (by exact Int.pow_nonneg (by decide)), Int.natCast_ediv, Int.natCast_pow]; rfl
theorem full_step (i : Nat) : (2 ^ i - 1) ||| 2 ^ i = 2 ^ (i + 1) - 1 := by
  refine Nat.eq_of_testBit_eq fun k => ?_
  rw [Nat.testBit_or, Nat.testBit_two_pow_sub_one, Nat.testBit_two_pow_sub_one, Nat.testBit_two_pow]
  by_cases h : k < i
  · simp [h]; omega
  · by_cases h2 : k = i
    · subst h2; simp
    · simp [h, h2]; omega
end Go.Ab
