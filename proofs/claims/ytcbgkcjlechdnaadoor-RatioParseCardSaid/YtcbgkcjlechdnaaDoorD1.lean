/- Plain law of a division of 128 bits by 64 bits, digit by digit. -/
import Derived.Test.YtcbgkcjlechdnaaDoorR1
import Derived.Test.YtcbgkcjlechdnaaDoorS1
import Derived.Laws.Bits64b
import Derived.Lib.ItoaNum
set_option linter.unusedSimpArgs false
set_option linter.unusedVariables false
set_option linter.unusedSectionVars false
namespace Go.Ab
open Go

/-- A digit is being looked for: q and r hold what is known. -/
structure Dig (a c u t Q q r : Nat) : Prop where
  a0 : 1 ≤ a
  ab : a < 4294967296
  cb : c < 4294967296
  tb : t < 4294967296
  ul : u < a * 4294967296 + c
  Qe : Q = (u * 4294967296 + t) / (a * 4294967296 + c)
  eq : q * a + r = u
  le : Q ≤ q

theorem Dig.init {a c u t : Nat} (a0 : 1 ≤ a) (ab : a < 4294967296) (cb : c < 4294967296) (tb : t < 4294967296) (ul : u < a * 4294967296 + c) :
    Dig a c u t ((u * 4294967296 + t) / (a * 4294967296 + c)) (u / a) (u % a) := by
  refine ⟨a0, ab, cb, tb, ul, rfl, ?_, ?_⟩
  · rw [Nat.mul_comm]; exact Nat.div_add_mod u a
  · have h1 : (u * 4294967296 + t) / (a * 4294967296 + c) ≤ (u * 4294967296 + t) / (a * 4294967296) := Nat.div_le_div_left (by omega) (by omega)
    have h2 : (u * 4294967296 + t) / (4294967296 * a) = u / a := by
      rw [← Nat.div_div_eq_div_mul]
      congr 1
      omega
    rw [Nat.mul_comm a 4294967296] at h1
    rw [Nat.mul_comm a 4294967296]
    rw [h2] at h1
    exact h1

theorem Dig.Qlt {a c u t Q q r : Nat} (h : Dig a c u t Q q r) : Q < 4294967296 := by
  have h1 := h.ul
  have h2 := h.tb
  rw [h.Qe, Nat.div_lt_iff_lt_mul (by omega)]
  omega

/-- The number that the digit multiplies. -/
theorem Dig.mul_y (q a c : Nat) : q * (a * 4294967296 + c) = q * a * 4294967296 + q * c := by
  rw [Nat.mul_add, Nat.mul_assoc]

theorem Dig.dec {a c u t Q q r : Nat} (h : Dig a c u t Q q r) (hc : 4294967296 ≤ q ∨ 4294967296 * r + t < q * c) : Dig a c u t Q (q - 1) (r + a) ∧ 1 ≤ q := by
  have hQ := h.Qlt
  have hlt : Q < q := by
    rcases hc with hc | hc
    · omega
    · rw [h.Qe]
      rw [Nat.div_lt_iff_lt_mul (by have := h.a0; omega), Dig.mul_y]
      have := h.eq
      generalize q * a = x at *
      generalize q * c = y at *
      omega
  refine ⟨⟨h.a0, h.ab, h.cb, h.tb, h.ul, h.Qe, ?_, by omega⟩, by omega⟩
  have e := h.eq
  have : q * a = (q - 1) * a + a := by
    have hq : q = (q - 1) + 1 := by omega
    conv => lhs; rw [hq]
    rw [Nat.add_mul, Nat.one_mul]
  rw [this] at e
  omega

theorem Dig.fin {a c u t Q q r : Nat} (h : Dig a c u t Q q r) (h2 : q * c ≤ 4294967296 * r + t) : q = Q := by
  refine Nat.le_antisymm ?_ h.le
  rw [h.Qe, Nat.le_div_iff_mul_le (by have := h.a0; omega), Dig.mul_y]
  have := h.eq
  generalize q * a = x at *
  generalize q * c = y at *
  omega

theorem Dig.brk {a c u t Q q r : Nat} (h : Dig a c u t Q q r) (hr : 4294967296 ≤ r) : q = Q := by
  refine h.fin ?_
  have h1 := h.eq
  have h2 := h.ul
  have h3 := h.cb
  have hqa : q * a < 4294967296 * a := by
    generalize q * a = x at *
    omega
  have hq : q < 4294967296 := Nat.lt_of_mul_lt_mul_right hqa
  have : q * c ≤ 4294967296 * 4294967296 := Nat.mul_le_mul (by omega) (by omega)
  omega

theorem Dig.small {a c u t Q q r : Nat} (h : Dig a c u t Q q r) (hq : q < 4294967296) : q * c < 18446744073709551616 := by
  have := h.cb
  have : q * c ≤ 4294967295 * 4294967295 := Nat.mul_le_mul (by omega) (by omega)
  omega

theorem Dig.qa {a c u t Q q r : Nat} (h : Dig a c u t Q q r) : q ≤ u := by
  have h1 := h.eq
  have : q * 1 ≤ q * a := Nat.mul_le_mul_left q h.a0
  omega

/-- The remainder of a digit. -/
theorem dig_rest {y u t : Nat} (ul : u < y) (tb : t < 4294967296) : (u * 4294967296 + t) / y * y + (u * 4294967296 + t) % y = u * 4294967296 + t ∧ (u * 4294967296 + t) % y < y := by
  refine ⟨?_, Nat.mod_lt _ (by omega)⟩
  rw [Nat.mul_comm]; exact Nat.div_add_mod _ _

/-- Two digits, one behind the other. -/
theorem two_digits {y u t1 t0 : Nat} (hy : 0 < y) (t0b : t0 < 4294967296) :
    (u * 18446744073709551616 + t1 * 4294967296 + t0) / y = (u * 4294967296 + t1) / y * 4294967296 + ((u * 4294967296 + t1) % y * 4294967296 + t0) / y ∧
    (u * 18446744073709551616 + t1 * 4294967296 + t0) % y = ((u * 4294967296 + t1) % y * 4294967296 + t0) % y := by
  have h := Nat.div_add_mod (u * 4294967296 + t1) y
  obtain ⟨q, hq⟩ : ∃ q, q = (u * 4294967296 + t1) / y := ⟨_, rfl⟩
  obtain ⟨r, hr⟩ : ∃ r, r = (u * 4294967296 + t1) % y := ⟨_, rfl⟩
  rw [← hq, ← hr] at h ⊢
  have e : u * 18446744073709551616 + t1 * 4294967296 + t0 = (r * 4294967296 + t0) + y * (q * 4294967296) := by
    rw [← Nat.mul_assoc]
    generalize y * q = x at *
    omega
  rw [e, Nat.add_mul_div_left _ _ hy, Nat.add_mul_mod_self_left]
  exact ⟨Nat.add_comm _ _, rfl⟩

theorem and_mask (x : Nat) : x &&& 4294967295 = x % 4294967296 := Nat.and_two_pow_sub_one_eq_mod x 32

theorem or_parts (h l s : Nat) (hl : l < 2 ^ s) : h * 2 ^ s ||| l = h * 2 ^ s + l := by
  rw [← Nat.shiftLeft_eq, Nat.shiftLeft_add_eq_or_of_lt hl]

theorem bitLen_norm (y : Nat) (h0 : 1 ≤ y) (h1 : y < 18446744073709551616) : ∃ s, s ≤ 63 ∧ Lib.bitLen y = 64 - s ∧ 9223372036854775808 ≤ y * 2 ^ s ∧ y * 2 ^ s < 18446744073709551616 := by
  have e64 : (2 : Nat) ^ 64 = 18446744073709551616 := by decide
  obtain ⟨g1, g2, g3⟩ := Lib.bitLenAux_bounds 64 y (by omega) (by omega)
  have hle : Lib.bitLen y ≤ 64 := Lib.bitLen_le y 64 (by omega) (by omega)
  have e : Lib.bitLen y = Lib.bitLenAux 64 y := rfl
  rw [← e] at g1 g2 g3
  generalize Lib.bitLen y = n at *
  refine ⟨64 - n, by omega, by omega, ?_, ?_⟩
  · have h2 : (2:Nat) ^ (n - 1) * 2 ^ (64 - n) = 9223372036854775808 := by
      rw [← Nat.pow_add]
      have : n - 1 + (64 - n) = 63 := by omega
      rw [this]
    rw [← h2]
    exact Nat.mul_le_mul_right _ g2
  · have h2 : (2:Nat) ^ n * 2 ^ (64 - n) = 18446744073709551616 := by
      rw [← Nat.pow_add]
      have : n + (64 - n) = 64 := by omega
      rw [this]
    rw [← h2]
    exact Nat.mul_lt_mul_of_pos_right g3 (Nat.two_pow_pos _)

/-- A shift of the dividend's words. -/
theorem shift_words {hi lo y s : Nat} (hs : s ≤ 63) (hl : lo < 18446744073709551616) (hh : hi < y) (hy : y * 2 ^ s < 18446744073709551616) :
    hi * 2 ^ s < 18446744073709551616 ∧ lo / 2 ^ (64 - s) < 2 ^ s ∧ hi * 2 ^ s + lo / 2 ^ (64 - s) < y * 2 ^ s ∧
    (hi * 2 ^ s + lo / 2 ^ (64 - s)) * 18446744073709551616 + lo * 2 ^ s % 18446744073709551616 = (hi * 18446744073709551616 + lo) * 2 ^ s := by
  have e : (18446744073709551616 : Nat) = 2 ^ (64 - s) * 2 ^ s := by
    rw [← Nat.pow_add]
    have : 64 - s + s = 64 := by omega
    rw [this]
  have hl2 : lo / 2 ^ (64 - s) < 2 ^ s := Nat.div_lt_of_lt_mul (by rw [← e]; exact hl)
  have hh2 : hi * 2 ^ s + 2 ^ s ≤ y * 2 ^ s := by
    have : (hi + 1) * 2 ^ s ≤ y * 2 ^ s := Nat.mul_le_mul_right _ hh
    rw [Nat.add_mul, Nat.one_mul] at this
    exact this
  have hp := Nat.two_pow_pos s
  refine ⟨by omega, hl2, by omega, ?_⟩
  have e2 : lo * 2 ^ s % 18446744073709551616 = lo % 2 ^ (64 - s) * 2 ^ s := by
    rw [e, Nat.mul_mod_mul_right]
  rw [e2, Nat.add_mul, Nat.add_mul]
  have d := Nat.div_add_mod lo (2 ^ (64 - s))
  have e3 : lo * 2 ^ s = lo / 2 ^ (64 - s) * 18446744073709551616 + lo % 2 ^ (64 - s) * 2 ^ s := by
    conv => lhs; rw [← d]
    rw [Nat.add_mul]
    congr 1
    rw [Nat.mul_comm (2 ^ (64 - s)), Nat.mul_assoc, ← e]
  rw [e3, Nat.mul_right_comm]
  omega
end Go.Ab
