/- Contracts of math/bits: Add64, Sub64 (the model's own), Mul64 (the kit's). -/
import Derived.Test.YtcbgkcjlechdnaaDoorTab
import Derived.Test.YtcbgkcjlechdnaaDoorChecked
import Derived.Laws.Externs
import Derived.Shelf.Spec.BitsCarry
set_option linter.unusedSimpArgs false
set_option linter.unusedVariables false
set_option linter.unusedSectionVars false
namespace Go.Ab
open Go Go.RowKit

/-- A call that the model answers by itself. -/
theorem PCall.native [Gl] {P : Program} {f : FuncId} {args : List SV} {r : SV} (h : ∀ (E : Env) (w : World) (vs : Array Value), Reps E vs args → ∃ v, (callFunc f vs).run P w = .ok (.value v) w ∧ ∀ E', Rep E' v r) : PCall P f args r := by
  refine ⟨fun M w vs own hr => ?_⟩
  obtain ⟨v, hv, hrep⟩ := h _ w vs hr
  exact .inr ⟨v, w, hv, v, r, [], rfl, ⟨rfl, rfl⟩, hrep _, own, ⟨Nat.le_refl _, fun _ _ _ => rfl, fun _ _ x => x, rfl, rfl, rfl⟩, fun b hb _ => hb⟩

theorem rep_sc {E : Env} {v a : Value} (h : Rep E v (.sc a)) : v = a := by cases h; rfl

theorem reps1 {E : Env} {vs : Array Value} {a : Value} (h : Reps E vs [.sc a]) : vs = #[a] := by
  obtain ⟨h1, h2⟩ := h
  have h0 := h2 0 (by simp)
  apply Array.ext
  · simpa using h1
  · intro i hi hi2
    have : i = 0 := by simp at hi2; exact hi2
    subst this
    simp only [Array.getD, hi, dif_pos, List.getD_cons_zero] at h0
    simp only [List.getElem_toArray, List.getElem_cons_zero]
    have h0' : Rep E vs[0] (.sc a) := by simpa using h0
    exact rep_sc h0'

theorem reps2 {E : Env} {vs : Array Value} {a b : Value} (h : Reps E vs [.sc a, .sc b]) : vs = #[a, b] := by
  obtain ⟨h1, h2⟩ := h
  have h0 := h2 0 (by simp)
  have h3 := h2 1 (by simp)
  have hs : vs.size = 2 := by simpa using h1
  apply Array.ext
  · simpa using h1
  · intro i hi hi2
    have : i = 0 ∨ i = 1 := by omega
    rcases this with rfl | rfl
    · have h0' : Rep E vs[0] (.sc a) := by simpa [hi] using h0
      exact rep_sc h0'
    · have h0' : Rep E vs[1] (.sc b) := by simpa [hi] using h3
      exact rep_sc h0'

theorem reps3 {E : Env} {vs : Array Value} {a b c : Value} (h : Reps E vs [.sc a, .sc b, .sc c]) : vs = #[a, b, c] := by
  obtain ⟨h1, h2⟩ := h
  have h0 := h2 0 (by simp)
  have h3 := h2 1 (by simp)
  have h4 := h2 2 (by simp)
  have hs : vs.size = 3 := by simpa using h1
  apply Array.ext
  · simpa using h1
  · intro i hi hi2
    have : i = 0 ∨ i = 1 ∨ i = 2 := by omega
    rcases this with rfl | rfl | rfl
    · have h0' : Rep E vs[0] (.sc a) := by simpa [hi] using h0
      exact rep_sc h0'
    · have h0' : Rep E vs[1] (.sc b) := by simpa [hi] using h3
      exact rep_sc h0'
    · have h0' : Rep E vs[2] (.sc c) := by simpa [hi] using h4
      exact rep_sc h0'

theorem rep_tup2 {E : Env} (a b : Value) : Rep E (.tuple #[a, b]) (.tup [.sc a, .sc b]) := by
  refine .tup _ _ rfl fun j hj => ?_
  have : j = 0 ∨ j = 1 := by simp at hj; omega
  rcases this with rfl | rfl
  · exact .sc _
  · exact .sc _
abbrev U64 (n : Int) : SV := .sc (.int .u64 n)
end Go.Ab
namespace Go.Proofs.YtcbgkcjlechdnaaDoor
open Go Go.Ab
variable [Gl]

theorem add64 (x y c : Nat) (hc : c ≤ 1) : PCall Tryd.prog 52 [U64 x, U64 y, U64 c] (.tup [U64 ((x + y + c) % 18446744073709551616 : Nat), U64 ((x + y + c) / 18446744073709551616 : Nat)]) := by
  refine PCall.native fun E w vs hr => ?_
  obtain rfl := reps3 hr
  refine ⟨_, ?_, fun E' => rep_tup2 _ _⟩
  rw [run_callFunc_extern Tryd.func52 (by kernel_rfl) (by kernel_rfl) (by kernel_rfl) (e := add64Entry) (by kernel_rfl), run_add64 x y c (by omega) (by omega) (by omega) (by omega)]
  simp only [Result.andThen]
  congr 5 <;> omega

theorem sub64 (x y b : Nat) (hb : b ≤ 1) : PCall Tryd.prog 53 [U64 x, U64 y, U64 b] (.tup [U64 ((x + 18446744073709551616 - y - b) % 18446744073709551616 : Nat), U64 (if x < y + b then 1 else 0 : Nat)]) := by
  refine PCall.native fun E w vs hr => ?_
  obtain rfl := reps3 hr
  refine ⟨_, ?_, fun E' => rep_tup2 _ _⟩
  rw [run_callFunc_extern Tryd.func53 (by kernel_rfl) (by kernel_rfl) (by kernel_rfl) (e := sub64Entry) (by kernel_rfl), run_sub64 x y b hb]
  rfl
end Go.Proofs.YtcbgkcjlechdnaaDoor
