/- A slice that is appended to from data that is only read; slices that grow. -/
import Derived.Test.YtockdinjmnkdoaaAu
set_option linter.unusedVariables false
set_option linter.unusedSimpArgs false
namespace Go.Ab
open Go.RowKit

section
variable {P : Program} {N : Nat} {S : St} {K : St → Prop} {t : List (Nat × SV)} {h h0 : Heap}

theorem allF_i {F : Nat → Prop} (hF : ∀ b, fresh h b → F b) : allF h F := hF

/-- **All elements of something are appended.** -/
theorem appK_accS {sz : Nat} {x y : SV} {n n2 bytes e : Nat} {cs c : List SV} {z : List Value} {d : Tmp} {ni : Bool} (hA : Acc sz x h h0 n cs) (hni : ni = true) (hsrc : srcCells y h = some (n2, c)) (hok : srcOk sz y h) (hc : c.length = n2 * sz)
    (hs : c.all single = true) (h0' : 0 < sz) (hz : z.length = sz) (hb : (n + n2) * bytes ≤ 140737488355328) (hn : n + n2 ≤ 140737488355328)
    (hK : ∀ x' h', Acc sz x' h' h0 (n + n2) (cs ++ c) → K ⟨(d, x') :: t, h'⟩) : appK (some (e, sz, bytes)) (some z) ni x y (some d) K ⟨t, h⟩ := by
  subst hni
  unfold appK
  simp only [hsrc]
  refine ⟨trivial, hok, hs, hz, h0', ?_⟩
  rcases hA with ⟨rfl, rfl, rfl, rfl⟩ | ⟨b, blk, hfb, hcells, hlen, rfl, rfl⟩
  · simp only
    rw [Nat.zero_add] at hb hn
    refine ⟨hb, hn, fun x0 => ?_, fun hpos b hfr => ?_⟩
    · subst x0
      have : c = [] := List.eq_nil_of_length_eq_zero (by rw [hc, Nat.zero_mul])
      subst this
      exact hK _ _ (.nil sz h)
    · have := hK (.os b 0 n2 sz) ((b, newB c) :: h) (.inr ⟨b, newB c, hfr, by rw [newB_cells]; rfl, by rw [List.nil_append, Nat.zero_add]; exact hc.symm, by rw [Nat.zero_add], rfl⟩)
      exact this
  · simp only
    unfold appOsK
    rw [find_cons, if_pos rfl]
    refine ⟨rfl, rfl, by rw [← Blk.length_cells, hcells]; omega, hb, hn, fun b' hfr => ?_⟩
    show K ⟨(d, .os b' 0 (n + n2) sz) :: t, Heap.ren ((b, blk) :: h0) b b' (appB blk c)⟩
    rw [ren_cons, if_pos rfl]
    rw [del_cons, if_pos rfl] at hfr
    exact hK _ _ (.inr ⟨b', appB blk c, hfr, by rw [appB_cells, hcells], by rw [List.length_append, ← hlen, hc, Nat.add_mul], rfl, rfl⟩)

end
end Go.Ab
