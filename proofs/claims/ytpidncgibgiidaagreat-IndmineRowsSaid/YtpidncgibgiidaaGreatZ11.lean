/- The abstract layer, part Z11: slices of structs that were appended to, handed on to be read. -/
import Derived.Test.YtpidncgibgiidaaGreatZ3
set_option linter.unusedVariables false
set_option linter.unusedSectionVars false
set_option linter.unusedSimpArgs false
namespace Go.Ab
open Go.RowKit
theorem getN_take [Gl] (k : Blk) : ∀ (n off : Nat), off + n ≤ k.len → getN k off n = (k.cells.drop off).take n
  | 0, off, _ => rfl
  | n + 1, off, h => by
    have hl : off < k.cells.length := by rw [Blk.length_cells]; omega
    rw [List.drop_eq_getElem_cons hl, List.take_succ_cons, ← getN_take k n (off + 1) (by omega)]
    have h2 := Blk.get_cells k off (by omega)
    rw [getD_list _ _ _ hl] at h2
    rw [h2]
    rfl
section
variable {t : List (Nat × SV)} {h h0 : Heap}
theorem St.le_acc_fl [Gl] {i n sz : Nat} {x : SV} {cs : List SV} (hi : look t i = x) (hA : Acc sz x h h0 n cs) (f : Nat → List SV) (hf : ∀ j, j < n → f j = (cs.drop (j * sz)).take sz) :
    (St.mk t h).le ⟨(i, .fl n sz f) :: t, h0⟩ := by
  rcases hA with ⟨h1, h2, rfl, rfl⟩ | ⟨b, blk, hfr, hc, hl, rfl, rfl, hkM⟩
  · subst h1
    exact St.le_say fun E u hr => by rw [hi] at hr; exact Rep.fl_nil hr
  · have hlen : blk.len = n * sz := by rw [← Blk.length_cells, hc, hl]
    have := St.le_freeze (h := (b, blk) :: h0) hi (by rw [find_cons, if_pos rfl]) (by omega) f (fun j hj => by
      have h3 := index_lt (s := sz) hj
      have h4 : j * sz + sz ≤ n * sz := by
        have : (j + 1) * sz ≤ n * sz := Nat.mul_le_mul_right _ hj
        rw [Nat.add_mul, Nat.one_mul] at this
        exact this
      rw [Nat.zero_add, getN_take blk sz (j * sz) (by omega), hc]
      exact hf j hj)
    rwa [del_head] at this
theorem St.le_nil_fl [Gl] {i sz : Nat} {f : Nat → List SV} (hi : look t i = .sc (.slice none 0 0)) : (St.mk t h).le ⟨(i, .fl 0 sz f) :: t, []⟩ :=
  (St.le_say fun E u hr => by rw [hi] at hr; exact Rep.fl_nil hr).trans St.le_drop
theorem Acc.cases [Gl] {sz n : Nat} {x : SV} {cs : List SV} (hA : Acc sz x h [] n cs) : (n = 0 ∧ cs = [] ∧ x = .sc (.slice none 0 0) ∧ h = []) ∨
    (∃ b, n * sz = cs.length ∧ x = .os b 0 n sz ∧ (∀ t, (St.mk t h).le ⟨t, [(b, .svs cs)]⟩)) := by
  rcases hA with h1 | ⟨b, blk, hfr, hc, hl, rfl, rfl, hkM⟩
  · exact .inl h1
  · refine .inr ⟨b, hl, rfl, fun t => ?_⟩
    have := St.le_blk (t := t) (h := [(b, blk)]) (b := b) (k := blk) (k' := .svs cs) (by rw [find_cons, if_pos rfl]) hc.symm hkM rfl
    rwa [upd_cons, if_pos rfl] at this
theorem Acc.keep [Gl] {sz n b : Nat} {cs : List SV} {h' : Heap} (hm : (b, Blk.svs cs) ∈ h') (hl : n * sz = cs.length) : Acc sz (.os b 0 n sz) [(b, .svs cs)] [] n cs ∧ ∀ t, (St.mk t h').le ⟨t, [(b, .svs cs)]⟩ := by
  refine ⟨.inr ⟨b, _, by simp [fresh_nil], rfl, hl, rfl, rfl, rfl⟩, fun t => St.le_sublist (fun x hx => ?_) (fun _ => by simp)⟩
  rw [List.mem_singleton] at hx
  rw [hx]
  exact hm
end
end Go.Ab
