/- A slice that is appended to, nil at first. -/
import Derived.Test.YtockdinjmnkdoaaAs
set_option linter.unusedVariables false
namespace Go.Ab
open Go.RowKit

/-- The slice x has n elements of sz cells each, the cells cs; it is nil, or the block ahead of h0 is its own. -/
def Acc (sz : Nat) (x : SV) (h h0 : Heap) (n : Nat) (cs : List SV) : Prop :=
  (n = 0 ∧ cs = [] ∧ x = .sc (.slice none 0 0) ∧ h = h0) ∨
  (∃ b blk, fresh h0 b ∧ blk.cells = cs ∧ n * sz = cs.length ∧ x = .os b 0 n sz ∧ h = (b, blk) :: h0)

section
variable {P : Program} {N : Nat} {S : St} {K : St → Prop} {t : List (Nat × SV)} {h h0 : Heap}

theorem Acc.nil (sz : Nat) (h : Heap) : Acc sz (.sc (.slice none 0 0)) h h 0 [] := .inl ⟨rfl, rfl, rfl, rfl⟩

theorem find_fresh {b c : Nat} {h : Heap} (hf : fresh h b) (hc : h.has c) : c ≠ b := fun e => not_has_of_fresh hf (e ▸ hc)

theorem fresh_ne {c b : Nat} {k : Blk} {h : Heap} (hf : fresh ((c, k) :: h) b) : c ≠ b := hf.1.1

theorem del_head {b : Nat} {k : Blk} {h : Heap} : Heap.del ((b, k) :: h) b = h := by simp [Heap.del]

theorem getN_svs (c : List SV) : getN (.svs c) 0 c.length = c := by
  refine List.ext_getElem? (fun j => ?_)
  by_cases hj : j < c.length
  · have h1 := getD_getN (.svs c) c.length 0 j hj
    rw [getD_list _ _ _ (by rw [length_getN]; exact hj), Nat.zero_add] at h1
    rw [List.getElem?_eq_getElem (by rw [length_getN]; exact hj), h1, List.getElem?_eq_getElem hj]
    simp [Blk.get, hj]
  · rw [List.getElem?_eq_none (by rw [length_getN]; omega), List.getElem?_eq_none (by omega)]

/-- **One element more is appended**: it lies in the block b2 at the heap's head. -/
theorem appK_acc {sz : Nat} {x : SV} {n bytes e : Nat} {cs c : List SV} {z : List Value} {d : Tmp} {b2 : Nat} {ni : Bool} (hA : Acc sz x h h0 n cs) (hf : fresh h b2) (hni : ni = true) (hc : c.length = sz) (hs : c.all single = true) (h0' : 0 < sz) (hz : z.length = sz)
    (hb : (n + 1) * bytes ≤ 140737488355328) (hn : n + 1 ≤ 140737488355328)
    (hK : ∀ x' b blk, fresh h0 b → fresh ((b2, .svs c) :: h0) b → fresh h0 b2 → blk.cells = cs ++ c → (n + 1) * sz = (cs ++ c).length → x' = .os b 0 (n + 1) sz →
      ∀ h', (h' = (b, blk) :: (b2, .svs c) :: h0 ∨ h' = (b2, .svs c) :: (b, blk) :: h0) → K ⟨(d, x') :: t, h'⟩) :
    appK (some (e, sz, bytes)) (some z) ni x (.os b2 0 1 sz) (some d) K ⟨t, (b2, .svs c) :: h⟩ := by
  subst hni
  have hsrc : srcCells (.os b2 0 1 sz) ((b2, .svs c) :: h) = some (1, c) := by
    rw [src_os, find_cons, if_pos rfl]
    simp only [Nat.one_mul]
    rw [← hc, getN_svs]
  have hok : srcOk sz (.os b2 0 1 sz) ((b2, .svs c) :: h) := by
    rw [srcOk_os, find_cons, if_pos rfl]
    exact ⟨rfl, by show 0 + 1 * sz ≤ c.length; omega⟩
  unfold appK
  simp only [hsrc]
  refine ⟨trivial, hok, hs, hz, h0', ?_⟩
  rcases hA with ⟨rfl, rfl, rfl, rfl⟩ | ⟨b, blk, hfb, hcells, hlen, rfl, rfl⟩
  · simp only
    refine ⟨by simpa using hb, by omega, fun x => by omega, fun _ b hfr => ?_⟩
    exact hK _ b (newB c) hfr.2 hfr hf (by rw [newB_cells]; rfl) (by rw [List.nil_append]; omega) rfl _ (.inl rfl)
  · simp only
    unfold appOsK
    have hne : b2 ≠ b := fun e => hf.1.2 e
    rw [find_cons, if_neg hne, find_cons, if_pos rfl]
    refine ⟨rfl, rfl, by rw [← Blk.length_cells, hcells]; omega, hb, hn, fun b' hfr => ?_⟩
    show K ⟨(d, .os b' 0 (n + 1) sz) :: t, Heap.ren ((b2, .svs c) :: (b, blk) :: h0) b b' (appB blk c)⟩
    rw [ren_cons, if_neg hne, ren_cons, if_pos rfl]
    rw [del_cons, if_neg hne, del_cons, if_pos rfl] at hfr
    refine hK _ b' (appB blk c) hfr.2 hfr hf.2 (by rw [appB_cells, hcells]) ?_ rfl _ (.inr rfl)
    rw [List.length_append, ← hlen, hc, Nat.add_mul, Nat.one_mul]

/-- The same, what was appended given up. -/
theorem Acc.after {sz : Nat} {x' : SV} {n : Nat} {cs : List SV} {b b2 : Nat} {blk k2 : Blk} {h' : Heap} (hf : fresh h0 b) (hc : blk.cells = cs) (hl : n * sz = cs.length) (hx : x' = .os b 0 n sz)
    (hh : h' = (b, blk) :: (b2, k2) :: h0 ∨ h' = (b2, k2) :: (b, blk) :: h0) : ∃ h'', Acc sz x' h'' h0 n cs ∧ ∀ t, (St.mk t h').le ⟨t, h''⟩ := by
  refine ⟨(b, blk) :: h0, .inr ⟨b, blk, hf, hc, hl, hx, rfl⟩, fun t => St.le_sublist (fun x hx => ?_) (fun hn => ?_)⟩
  · rcases hh with rfl | rfl
    · rcases List.mem_cons.1 hx with hx | hx
      · exact hx ▸ List.mem_cons_self
      · exact List.mem_cons_of_mem _ (List.mem_cons_of_mem _ hx)
    · exact List.mem_cons_of_mem _ hx
  · rcases hh with rfl | rfl
    · simp only [List.map_cons, List.nodup_cons, List.mem_cons, not_or] at hn ⊢
      exact ⟨hn.1.2, hn.2.2⟩
    · simp only [List.map_cons, List.nodup_cons] at hn ⊢
      exact hn.2

theorem Rnd.drop {I : Nat → St → Prop} {n : Nat} {t : List (Nat × SV)} {h : Heap} (hr : Rnd I n ⟨t, []⟩) : Rnd I n ⟨t, h⟩ := Rnd.le St.le_drop hr

theorem St.le_acc_ints {i : Nat} {x : SV} {k : IntKind} {l : List Int} (hi : look t i = x) (hA : Acc 1 x h h0 l.length (l.map fun n => .sc (.int k n))) : (St.mk t h).le ⟨(i, ints k l) :: t, h0⟩ := by
  rcases hA with ⟨h1, h2, rfl, rfl⟩ | ⟨b, blk, hf, hc, hl, rfl, rfl⟩
  · obtain rfl : l = [] := List.eq_nil_of_length_eq_zero h1
    exact St.le_nil_ints k hi
  · have := St.le_ints (h := (b, blk) :: h0) k l hi rfl (by rw [find_cons, if_pos rfl]) hc
    rwa [del_head] at this

theorem St.le_acc_mat {i : Nat} {x : SV} {k : IntKind} {l : List (List Int)} (hi : look t i = x) (hA : Acc 1 x h h0 l.length (l.map fun r => ints k r)) : (St.mk t h).le ⟨(i, mat k l) :: t, h0⟩ := by
  rcases hA with ⟨h1, h2, rfl, rfl⟩ | ⟨b, blk, hf, hc, hl, rfl, rfl⟩
  · obtain rfl : l = [] := List.eq_nil_of_length_eq_zero h1
    exact St.le_nil_mat k hi
  · have := St.le_mat (h := (b, blk) :: h0) k l hi rfl (by rw [find_cons, if_pos rfl]) hc
    rwa [del_head] at this

end
end Go.Ab
