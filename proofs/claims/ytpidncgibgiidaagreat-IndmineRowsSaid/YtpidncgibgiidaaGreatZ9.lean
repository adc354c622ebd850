/- The abstract layer, part Z9: bytes that are appended to a slice, which becomes a string. -/
import Derived.Test.YtpidncgibgiidaaGreatZ7
set_option linter.unusedSimpArgs false
set_option linter.unusedVariables false
set_option linter.unusedSectionVars false
namespace Go.Ab
open Go Go.RowKit
def byts (l : List UInt8) : List SV := l.map fun c => .sc (.int .u8 (c.toNat : Int))
theorem byts_length (l : List UInt8) : (byts l).length = l.length := List.length_map _
theorem byts_app (a b : List UInt8) : byts (a ++ b) = byts a ++ byts b := List.map_append
theorem byts_single (l : List UInt8) : (byts l).all single = true := by
  rw [List.all_eq_true]
  intro x hx
  obtain ⟨c, _, rfl⟩ := List.mem_map.1 hx
  rfl
theorem byts_byte (l : List UInt8) : (byts l).all isByte = true := by
  rw [List.all_eq_true]
  intro x hx
  obtain ⟨c, _, rfl⟩ := List.mem_map.1 hx
  rfl
theorem bstr_byts (l : List UInt8) : bstr ((byts l).map byteOf) = ⟨l.toArray⟩ := by
  rw [← bstr_bytes l]
  congr 1
  unfold byts
  rw [List.map_map]
  rfl
theorem ints_byts : ∀ {k : IntKind} {n : List Int} {l : List UInt8}, (n.map fun m => SV.sc (Value.int k m)) = byts l → l ≠ [] → k = .u8 ∧ n = l.map fun c => (c.toNat : Int)
  | k, [], [], _, h => absurd rfl h
  | k, [], _ :: _, h, _ => by cases h
  | k, _ :: _, [], h, _ => by cases h
  | k, m :: n, c :: l, h, _ => by
    simp only [byts, List.map_cons, List.cons.injEq, SV.sc.injEq, Value.int.injEq] at h
    obtain ⟨⟨rfl, rfl⟩, h2⟩ := h
    refine ⟨rfl, ?_⟩
    by_cases hl : l = []
    · subst hl
      have : n = [] := by simpa using h2
      subst this
      rfl
    · rw [(ints_byts (k := .u8) (n := n) (l := l) h2 hl).2]
      rfl
theorem cvtK_of {k : Blk} {l : List UInt8} {n : Nat} (hc : k.cells = byts l) (hl : l ≠ []) (hn : n = l.length) : cvtK k 0 n = .ok True (.sc (.string ⟨l.toArray⟩)) := by
  subst hn
  cases k with
  | ints k m =>
    obtain ⟨rfl, rfl⟩ := ints_byts hc hl
    show VRes.ok _ _ = _
    rw [List.drop_zero, List.take_of_length_le (by simp), bstr_bytes]
    congr 1
    simp
  | svs cs =>
    obtain rfl : cs = byts l := hc
    show VRes.ok _ _ = _
    rw [List.drop_zero, List.take_of_length_le (by rw [byts_length]; exact Nat.le_refl _), bstr_byts, byts_byte]
    congr 1
    simp [byts_length]
  | mp m =>
    exfalso
    apply hl
    have h1 : byts l = [] := hc.symm
    have h2 := congrArg List.length h1
    rw [byts_length] at h2
    exact List.eq_nil_of_length_eq_zero h2
  | bools bs =>
    exfalso
    cases l with
    | nil => exact hl rfl
    | cons c l =>
      cases bs with
      | nil => cases hc
      | cons b bs =>
        have h2 : SV.sc (Value.bool b) :: (bs.map fun b => SV.sc (Value.bool b)) = SV.sc (.int .u8 c.toNat) :: byts l := hc
        injection h2 with h3
        injection h3 with h4
        cases h4
section
variable {P : Program} {N : Nat} {S : St} {K : St → Prop} {t : List (Nat × SV)} {h h0 : Heap}
theorem getN_cells [Gl] {k : Blk} {c : List SV} (h : k.cells = c) : getN k 0 c.length = c := by
  refine List.ext_getElem? (fun j => ?_)
  by_cases hj : j < c.length
  · have h1 := getD_getN k c.length 0 j hj
    rw [getD_list _ _ _ (by rw [length_getN]; exact hj), Nat.zero_add] at h1
    rw [List.getElem?_eq_getElem (by rw [length_getN]; exact hj), h1, List.getElem?_eq_getElem hj]
    rw [get_of_cells h hj]
    simp [List.getD_eq_getElem?_getD, hj]
  · rw [List.getElem?_eq_none (by rw [length_getN]; omega), List.getElem?_eq_none (by omega)]
theorem appK_byts [Gl] {x : SV} {l l2 : List UInt8} {n2 bytes e : Nat} {k2 : Blk} {z : List Value} {d : Tmp} {b2 : Nat} {ni : Bool} (hA : Acc 1 x h h0 l.length (byts l)) (hf : fresh h b2) (hni : ni = true) (hk2 : k2.cells = byts l2) (hn2 : n2 = l2.length) (hp : 0 < l2.length) (hz : z.length = 1)
    (hb : (l.length + l2.length) * bytes ≤ 140737488355328) (hn : l.length + l2.length ≤ 140737488355328)
    (hK : ∀ b blk h' h'' n3, n3 = (l ++ l2).length → h'.find b = some blk → blk.cells = byts (l ++ l2) → cvtK blk 0 n3 = .ok True (.sc (.string ⟨(l ++ l2).toArray⟩)) → Acc 1 (.os b 0 n3 1) h'' h0 (l ++ l2).length (byts (l ++ l2)) → (∀ t, (St.mk t h').le ⟨t, h''⟩) → K ⟨(d, .os b 0 n3 1) :: t, h'⟩) :
    appK (some (e, 1, bytes)) (some z) ni x (.os b2 0 n2 1) (some d) K ⟨t, (b2, k2) :: h⟩ := by
  subst hni hn2
  have hL : (byts l2).length = l2.length := byts_length l2
  have hk3 : l2.length = k2.len := by rw [← Blk.length_cells, hk2, hL]
  have hg := getN_cells hk2
  rw [hL] at hg
  have hsrc : srcCells (.os b2 0 l2.length 1) ((b2, k2) :: h) = some (l2.length, byts l2) := by
    rw [src_os, find_cons, if_pos rfl]
    simp only [Nat.mul_one]
    rw [hg]
  have hok : srcOk 1 (.os b2 0 l2.length 1) ((b2, k2) :: h) := by
    rw [srcOk_os, find_cons, if_pos rfl]
    exact ⟨rfl, by omega⟩
  have hne : l ++ l2 ≠ [] := fun x => by
    have := List.append_eq_nil_iff.1 x
    rw [this.2] at hp
    exact absurd hp (by decide)
  have hla : (l ++ l2).length = l.length + l2.length := List.length_append
  unfold appK
  simp only [hsrc]
  refine ⟨trivial, hok, byts_single l2, hz, by decide, ?_⟩
  rcases hA with ⟨h1, h2, rfl, rfl⟩ | ⟨b, blk, hfb, hcells, hlen, rfl, rfl, hkM⟩
  · obtain rfl : l = [] := List.eq_nil_of_length_eq_zero h1
    simp only [List.length_nil, Nat.zero_add] at hb hn
    simp only
    refine ⟨hb, hn, fun x => by omega, fun _ b hfr => ?_⟩
    have hc : (newB (byts l2)).cells = byts ([] ++ l2) := by rw [newB_cells]; rfl
    exact hK b (newB (byts l2)) ((b, newB (byts l2)) :: (b2, k2) :: h) ((b, newB (byts l2)) :: h) l2.length rfl (by rw [find_cons, if_pos rfl]) hc (cvtK_of hc hne rfl)
      (.inr ⟨b, newB (byts l2), hfr.2, hc, by rw [Nat.mul_one, byts_length], rfl, rfl, isM_newB _⟩)
      (fun t => St.le_sublist (fun x hx => by
        rcases List.mem_cons.1 hx with hx | hx
        · exact hx ▸ List.mem_cons_self
        · exact List.mem_cons_of_mem _ (List.mem_cons_of_mem _ hx)) (fun hn => by
        simp only [List.map_cons, List.nodup_cons, List.mem_cons, not_or] at hn ⊢
        exact ⟨hn.1.2, hn.2.2⟩))
  · simp only
    unfold appOsK
    have hne2 : b2 ≠ b := fun e => hf.1.2 e
    rw [find_cons, if_neg hne2, find_cons, if_pos rfl]
    refine ⟨rfl, rfl, by rw [← Blk.length_cells, hcells]; omega, hb, hn, fun b' hfr => ?_⟩
    show K ⟨(d, .os b' 0 (l.length + l2.length) 1) :: t, Heap.ren ((b2, k2) :: (b, blk) :: h0) b b' (appB blk (byts l2))⟩
    rw [ren_cons, if_neg hne2, ren_cons, if_pos rfl]
    rw [del_cons, if_neg hne2, del_cons, if_pos rfl] at hfr
    have hc : (appB blk (byts l2)).cells = byts (l ++ l2) := by rw [appB_cells, hcells, byts_app]
    have hbb : b2 ≠ b' := hfr.1.1
    exact hK b' (appB blk (byts l2)) ((b2, k2) :: (b', appB blk (byts l2)) :: h0) ((b', appB blk (byts l2)) :: h0) _ hla.symm (by rw [find_cons, if_neg hbb, find_cons, if_pos rfl]) hc (cvtK_of hc hne hla.symm)
      (.inr ⟨b', appB blk (byts l2), hfr.2, hc, by rw [Nat.mul_one, byts_length], by rw [hla], rfl, isM_appB _ _⟩)
      (fun t => St.le_sublist (fun x hx => List.mem_cons_of_mem _ hx) (fun hn => by
        simp only [List.map_cons, List.nodup_cons] at hn ⊢
        exact hn.2))
theorem Acc.byts_cases {x : SV} {l : List UInt8} (hA : Acc 1 x h h0 l.length (byts l)) : (l = [] ∧ x = .sc (.slice none 0 0) ∧ h = h0) ∨ ∃ b, fresh h0 b ∧ x = .os b 0 l.length 1 ∧ ∃ blk, blk.cells = byts l ∧ h = (b, blk) :: h0 := by
  rcases hA with ⟨h1, h2, h3, h4⟩ | ⟨b, blk, hf, hc, hl, hx, hh, hkM⟩
  · exact .inl ⟨List.eq_nil_of_length_eq_zero h1, h3, h4⟩
  · exact .inr ⟨b, hf, hx, blk, hc, hh⟩
end
end Go.Ab
