/- How the arguments read. -/
import Derived.Test.YtockdinjmnkdoaaAz
import Derived.Test.YtockdinjmnkdoaaProg
import Derived.Test.YtockdinjmnkdoaaChecked
set_option linter.unusedVariables false
namespace Go.Proofs.Ytockdinjmnkdoaa
open Go Go.Ab Go.RowKit

theorem rd_ints : Rd Try.prog 28 (fun m : List Int => [ints .i64 m]) (fun m => m.length ≤ maxLen ∧ ∀ n ∈ m, fits .i64 n) := Rd.slice Try.underlying28 1 (by kernel_rfl) (by decide) (Rd.int Try.underlying2)
theorem rd_cols : Rd Try.prog 27 (fun m : List Int => [ints .i64 m]) (fun m => m.length ≤ maxLen ∧ ∀ n ∈ m, fits .i64 n) := Rd.slice Try.underlying27 1 (by kernel_rfl) (by decide) (Rd.int Try.underlying3)
theorem rd_mat : Rd Try.prog 22 (fun m : List (List Int) => [mat .i64 m]) (fun m => m.length ≤ maxLen ∧ ∀ r ∈ m, r.length ≤ maxLen ∧ ∀ n ∈ r, fits .i64 n) :=
  Rd.slice Try.underlying22 1 (by kernel_rfl) (by decide) rd_ints
theorem rd_prices : Rd Try.prog 33 (fun m : List (List Int) => m.flatMap fun l => [ints .i64 l]) (fun m => m.length = 2 ∧ ∀ l ∈ m, l.length ≤ maxLen ∧ ∀ n ∈ l, fits .i64 n) :=
  Rd.array Try.underlying33 1 (by kernel_rfl) (by kernel_rfl) (by decide) rd_ints

theorem maxLen_eq : maxLen = 9223372036854775807 := by decide
theorem len_le {l : List Int} (h : l.length ≤ maxLen ∧ ∀ n ∈ l, fits .i64 n) : l.length ≤ 9223372036854775807 := by have := h.1; rw [maxLen_eq] at this; exact this
theorem mat_le {m : List (List Int)} (h : m.length ≤ maxLen ∧ ∀ r ∈ m, r.length ≤ maxLen ∧ ∀ n ∈ r, fits .i64 n) : m.length ≤ 9223372036854775807 := by have := h.1; rw [maxLen_eq] at this; exact this
theorem rows_le {m : List (List Int)} (h : m.length ≤ maxLen ∧ ∀ r ∈ m, r.length ≤ maxLen ∧ ∀ n ∈ r, fits .i64 n) (i : Nat) : (m.getD i []).length ≤ 9223372036854775807 := by
  rw [List.getD_eq_getElem?_getD]
  cases he : m[i]? with
  | none => simp
  | some r => exact len_le (h.2 r (List.mem_of_getElem? he))
theorem fits_i64 {n : Int} (h : fits .i64 n) : -9223372036854775808 ≤ n ∧ n ≤ 9223372036854775807 := bounds_i64 h
theorem ints_fit {l : List Int} (h : l.length ≤ maxLen ∧ ∀ n ∈ l, fits .i64 n) (i : Nat) : -9223372036854775808 ≤ l.getD i 0 ∧ l.getD i 0 ≤ 9223372036854775807 := by
  rw [List.getD_eq_getElem?_getD]
  cases he : l[i]? with
  | none => simp
  | some n => exact fits_i64 (h.2 n (List.mem_of_getElem? he))
end Go.Proofs.Ytockdinjmnkdoaa
