/- The abstract layer, part Z10: bytes that are appended to a slice beside other blocks. -/
import Derived.Test.YtpidncgibgiidaaGreatZ9
set_option linter.unusedSimpArgs false
set_option linter.unusedVariables false
set_option linter.unusedSectionVars false
namespace Go.Ab
open Go Go.RowKit
structure Stop (p : Prop) : Prop where
  on : p
theorem stop_i {p : Prop} (h : Stop p) : p := h.on
section
variable {P : Program} {N : Nat} {S : St} {K : St → Prop} {t : List (Nat × SV)} {h h0 : Heap}
theorem appK_byts2 [Gl] {x : SV} {l l2 : List UInt8} {n2 bytes e : Nat} {k2 : Blk} {z : List Value} {d : Tmp} {b2 : Nat} {ni : Bool} (hA : Acc 1 x h h0 l.length (byts l)) (hf : fresh h b2) (hni : ni = true) (hk2 : k2.cells = byts l2) (hn2 : n2 = l2.length) (hp : 0 < l2.length) (hz : z.length = 1)
    (hb : (l.length + l2.length) * bytes ≤ 140737488355328) (hn : l.length + l2.length ≤ 140737488355328)
    (hK : ∀ b blk h' n3, n3 = (l ++ l2).length → fresh h0 b → h'.find b = some blk → blk.cells = byts (l ++ l2) → cvtK blk 0 n3 = .ok True (.sc (.string ⟨(l ++ l2).toArray⟩)) → Acc 1 (.os b 0 n3 1) ((b, blk) :: h0) h0 (l ++ l2).length (byts (l ++ l2)) → (∀ t, (St.mk t h').le ⟨t, (b, blk) :: h0⟩) → K ⟨(d, .os b 0 n3 1) :: t, h'⟩) :
    appK (some (e, 1, bytes)) (some z) ni x (.os b2 0 n2 1) (some d) K ⟨t, (b2, k2) :: h⟩ := by
  subst hni hn2
  have hL : (byts l2).length = l2.length := byts_length l2
  have hk3 : l2.length = k2.len := by rw [← Blk.length_cells, hk2, hL]
  have hg := getN_cells hk2
  rw [hL] at hg
  have hsrc : srcCells (.os b2 0 l2.length 1) ((b2, k2) :: h) = some (l2.length, byts l2) := by
    rw [src_os, find_cons, if_pos rfl]
    simp only [Nat.mul_one]
    rw [hg]
  have hok : srcOk 1 (.os b2 0 l2.length 1) ((b2, k2) :: h) := by
    rw [srcOk_os, find_cons, if_pos rfl]
    exact ⟨rfl, by omega⟩
  have hne : l ++ l2 ≠ [] := fun x => by
    have := List.append_eq_nil_iff.1 x
    rw [this.2] at hp
    exact absurd hp (by decide)
  have hla : (l ++ l2).length = l.length + l2.length := List.length_append
  unfold appK
  simp only [hsrc]
  refine ⟨trivial, hok, byts_single l2, hz, by decide, ?_⟩
  rcases hA with ⟨h1, h2, rfl, rfl⟩ | ⟨b, blk, hfb, hcells, hlen, rfl, rfl, hkM⟩
  · obtain rfl : l = [] := List.eq_nil_of_length_eq_zero h1
    simp only [List.length_nil, Nat.zero_add] at hb hn
    simp only
    refine ⟨hb, hn, fun x => by omega, fun _ b hfr => ?_⟩
    have hc : (newB (byts l2)).cells = byts ([] ++ l2) := by rw [newB_cells]; rfl
    exact hK b (newB (byts l2)) ((b, newB (byts l2)) :: (b2, k2) :: h) l2.length rfl hfr.2 (by rw [find_cons, if_pos rfl]) hc (cvtK_of hc hne rfl)
      (.inr ⟨b, newB (byts l2), hfr.2, hc, by rw [Nat.mul_one, byts_length], rfl, rfl, isM_newB _⟩)
      (fun t => St.le_sublist (fun x hx => by
        rcases List.mem_cons.1 hx with hx | hx
        · exact hx ▸ List.mem_cons_self
        · exact List.mem_cons_of_mem _ (List.mem_cons_of_mem _ hx)) (fun hn => by
        simp only [List.map_cons, List.nodup_cons, List.mem_cons, not_or] at hn ⊢
        exact ⟨hn.1.2, hn.2.2⟩))
  · simp only
    unfold appOsK
    have hne2 : b2 ≠ b := fun e => hf.1.2 e
    rw [find_cons, if_neg hne2, find_cons, if_pos rfl]
    refine ⟨rfl, rfl, by rw [← Blk.length_cells, hcells]; omega, hb, hn, fun b' hfr => ?_⟩
    show K ⟨(d, .os b' 0 (l.length + l2.length) 1) :: t, Heap.ren ((b2, k2) :: (b, blk) :: h0) b b' (appB blk (byts l2))⟩
    rw [ren_cons, if_neg hne2, ren_cons, if_pos rfl]
    rw [del_cons, if_neg hne2, del_cons, if_pos rfl] at hfr
    have hc : (appB blk (byts l2)).cells = byts (l ++ l2) := by rw [appB_cells, hcells, byts_app]
    have hbb : b2 ≠ b' := hfr.1.1
    exact hK b' (appB blk (byts l2)) ((b2, k2) :: (b', appB blk (byts l2)) :: h0) _ hla.symm hfr.2 (by rw [find_cons, if_neg hbb, find_cons, if_pos rfl]) hc (cvtK_of hc hne hla.symm)
      (.inr ⟨b', appB blk (byts l2), hfr.2, hc, by rw [Nat.mul_one, byts_length], by rw [hla], rfl, isM_appB _ _⟩)
      (fun t => St.le_sublist (fun x hx => List.mem_cons_of_mem _ hx) (fun hn => by
        simp only [List.map_cons, List.nodup_cons] at hn ⊢
        exact hn.2))
end
end Go.Ab
