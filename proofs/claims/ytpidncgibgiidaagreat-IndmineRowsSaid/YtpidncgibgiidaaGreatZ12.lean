/- The abstract layer, part Z12: the library's sort of structs of plain fields by a comparison that parts them all. -/
import Derived.Test.YtpidncgibgiidaaGreatZ6
import Derived.Shelf.SlSortCmp.NoneTotal
set_option linter.unusedVariables false
set_option linter.unusedSectionVars false
set_option linter.unusedSimpArgs false
namespace Go.Ab
open Go.RowKit Go.Sort Go.Proofs Go.Shelf
section
variable {P : Program} {M : Nat → Prop} {h : Heap} {w : World}
theorem frm_ahead (w : World) (n : Nat) : Frm (fun _ => False) w (Go.Sort.ahead w n) := ⟨Nat.le_refl _, fun _ _ _ => rfl, fun _ _ x => x, rfl, rfl, rfl, Nat.le_add_right _ _⟩
theorem frm_grow (w : World) (os : Array Obj) : Frm (fun _ => False) w (grow w os) := by
  have hk : ∀ b, b < w.heap.size → (grow w os).heap[b]? = w.heap[b]? := fun b hb => by simp [grow, Array.getElem?_append, hb]
  exact ⟨by simp [grow], fun b hb _ => hk b hb, fun b m ⟨c, e, fr, hb, hs⟩ => ⟨c, e, fr, by rw [hk b (lt_of_heap hb)]; exact hb, hs⟩, rfl, rfl, rfl, Nat.le_refl _⟩
theorem Frm.weak {D D' : Nat → Prop} {w w' : World} (f : Frm D w w') (hD : ∀ b, D b → D' b) : Frm D' w w' := ⟨f.size, fun b hb hd => f.keep b hb (fun x => hd (hD b x)), f.sizes, f.os, f.tape, f.output, f.drn⟩
theorem grow_of_frm {w w' : World} (f : Frm (fun _ => False) w w') : ∃ q os, w' = grow (w.drewN q) os := by
  refine ⟨w'.drawn - w.drawn, w'.heap.extract w.heap.size w'.heap.size, ?_⟩
  have e1 : w'.heap = w.heap ++ w'.heap.extract w.heap.size w'.heap.size := by
    apply Array.ext_getElem?
    intro i
    rw [Array.getElem?_append]
    by_cases hi : i < w.heap.size
    · rw [if_pos hi]
      exact f.keep i hi (fun x => x)
    · rw [if_neg hi, Array.getElem?_extract]
      have hs := f.size
      by_cases h2 : i < w'.heap.size
      · rw [if_pos (by omega), Nat.add_sub_cancel' (by omega)]
      · rw [if_neg (by omega), Array.getElem?_eq_none (by omega)]
  have e2 : w'.drawn = w.drawn + (w'.drawn - w.drawn) := by have := f.drn; omega
  obtain ⟨hp, tp, dr, os, out⟩ := w'
  obtain ⟨hp0, tp0, dr0, os0, out0⟩ := w
  have h1 := f.os; have h2 := f.tape; have h3 := f.output
  simp only at h1 h2 h3 e1 e2
  subst h1 h2 h3
  unfold grow World.drewN
  simp only
  rw [← e1, ← e2]
variable {α : Type} [Inhabited α]
theorem Call.sortQ0 [Gl] {ρ : Ren} (L : SlLaysF0.n6 P ρ) (hbody : Body P (ρ.f 6)) (g : Nat) : PCall P (ρ.f 6) [.sc (.slice none 0 0), .fn (.func g) [] []] (.tup []) := by
  refine PCall.of_calls hbody fun w E vs _ _ _ hr => ?_
  obtain ⟨hs1, hs2⟩ := hr
  have r0 := hs2 0 (by simp)
  simp only [List.getD_cons_zero] at r0
  have hv0 : vs.getD 0 undef = .slice none 0 0 := by
    generalize vs.getD 0 undef = v0 at r0
    cases r0; rfl
  have hvs : vs = #[.slice none 0 0, vs.getD 1 undef] := by
    apply Array.ext
    · simpa using hs1
    · intro i h2 h3
      simp at h3
      rcases (by omega : i = 0 ∨ i = 1) with rfl | rfl
      · have : vs[0] = vs.getD 0 undef := by simp [h2]
        rw [this, hv0]; rfl
      · simp [h2]
  rw [hvs]
  exact (AnyF.slices_SortFunc_none L none 0 _ w).mono fun e w' ⟨he, hw⟩ => ⟨_, he, fun _ => .tup #[] [] rfl (fun j hj => absurd hj (by simp)), by rw [hw]; exact ⟨RowKit.Below.refl _ _, Nat.le_refl _⟩⟩
end
end Go.Ab
