/- The abstract layer, part Z13: a slice that lies in an owned block is handed on to be read. -/
import Derived.Test.YtpidncgibgiidaaGreatZ11
set_option linter.unusedVariables false
set_option linter.unusedSectionVars false
set_option linter.unusedSimpArgs false
namespace Go.Ab
open Go.RowKit
theorem mem_del_of_ne {h : Heap} {b c : Nat} {k : Blk} (hne : ¬ c = b) (hm : (c, k) ∈ h) : (c, k) ∈ h.del b := by
  induction h with
  | nil => cases hm
  | cons x r ih =>
    obtain ⟨d, k'⟩ := x
    simp only [Heap.del]
    rcases List.mem_cons.1 hm with e | hm
    · cases e
      rw [if_neg hne]
      exact List.mem_cons_self
    · split
      · exact hm
      · exact List.mem_cons_of_mem _ (ih hm)
theorem St.le_freezeC [Gl] {t : List (Nat × SV)} {h : Heap} {c j b off len sz : Nat} {k : Blk} {cs : List SV} (hc : h.find c = some (.svs cs)) (hcb : ¬ c = b) (hjl : j < cs.length) (hj : cs.getD j .any = .os b off len sz)
    (hk : h.find b = some k) (hle : off + len * sz ≤ k.len) (f : Nat → List SV) (hf : ∀ p, p < len → f p = getN k (off + p * sz) sz) :
    (St.mk t h).le ⟨t, (h.del b).upd c (.svs (cs.set j (.fl len sz f)))⟩ := fun M w0 D N a w r => by
  have hd := St.le_del (t := t) (h := h) (b := b) M w0 D N a w r
  have hmc := Heap.find_mem hc
  have hmc' : (c, Blk.svs cs) ∈ h.del b := mem_del_of_ne hcb hmc
  obtain ⟨c0, e, hbk, hl, hrep⟩ := r.own.ok c _ hmc rfl
  refine ⟨r.defers, r.n, fun i => ?_, hd.own.recell hmc' rfl hbk (by rw [Blk.len_svs, List.length_set]; exact hl) (fun i hi => ?_), r.frm, fun x hx => hd.new x (has_upd.1 hx)⟩
  · show Rep (envOf (hid M ((h.del b).upd c _)) w) _ _
    rw [hid_upd]
    exact hd.t i
  · rw [Blk.len_svs, List.length_set] at hi
    have h1 := hrep i hi
    simp only [Blk.get] at h1 ⊢
    by_cases hij : j = i
    · subst hij
      rw [hj] at h1
      rw [List.getD_eq_getElem?_getD, List.getElem?_set_self hi]
      exact freeze_rep r.own hk hle f hf h1
    · rw [List.getD_eq_getElem?_getD, List.getElem?_set_ne hij, ← List.getD_eq_getElem?_getD]
      exact h1.mono (env_del M h b w)
theorem St.le_nilC [Gl] {t : List (Nat × SV)} {h : Heap} {c j sz : Nat} {cs : List SV} {f : Nat → List SV} (hc : h.find c = some (.svs cs)) (hjl : j < cs.length) (hj : cs.getD j .any = .sc (.slice none 0 0)) :
    (St.mk t h).le ⟨t, h.upd c (.svs (cs.set j (.fl 0 sz f)))⟩ := fun M w0 D N a w r => by
  have hmc := Heap.find_mem hc
  obtain ⟨c0, e, hbk, hl, hrep⟩ := r.own.ok c _ hmc rfl
  refine ⟨r.defers, r.n, fun i => ?_, r.own.recell hmc rfl hbk (by rw [Blk.len_svs, List.length_set]; exact hl) (fun i hi => ?_), r.frm, fun x hx => r.new x (has_upd.1 hx)⟩
  · show Rep (envOf (hid M (h.upd c _)) w) _ _
    rw [hid_upd]
    exact r.t i
  · rw [Blk.len_svs, List.length_set] at hi
    have h1 := hrep i hi
    simp only [Blk.get] at h1 ⊢
    by_cases hij : j = i
    · subst hij
      rw [hj] at h1
      rw [List.getD_eq_getElem?_getD, List.getElem?_set_self hi]
      exact Rep.fl_nil h1
    · rw [List.getD_eq_getElem?_getD, List.getElem?_set_ne hij, ← List.getD_eq_getElem?_getD]
      exact h1
theorem St.le_accC [Gl] {t : List (Nat × SV)} {h h0 : Heap} {c j n sz : Nat} {x : SV} {ds cs : List SV} (hA : Acc sz x h h0 n cs) (hc : h0.find c = some (.svs ds)) (hjl : j < ds.length) (hj : ds.getD j .any = x) (f : Nat → List SV) (hf : ∀ j, j < n → f j = (cs.drop (j * sz)).take sz) :
    (St.mk t h).le ⟨t, h0.upd c (.svs (ds.set j (.fl n sz f)))⟩ := by
  rcases hA with ⟨h1, h2, rfl, rfl⟩ | ⟨b, blk, hfr, hcc, hl, rfl, rfl, hkM⟩
  · subst h1
    exact St.le_nilC hc hjl hj
  · have hlen : blk.len = n * sz := by rw [← Blk.length_cells, hcc, hl]
    have hcb : ¬ c = b := fun e => by
      subst e
      exact not_has_of_fresh hfr ⟨_, Heap.find_mem hc⟩
    have := St.le_freezeC (t := t) (h := (b, blk) :: h0) (c := c) (j := j) (b := b) (off := 0) (len := n) (sz := sz) (k := blk) (cs := ds) (by rw [find_cons, if_neg (fun e => hcb e.symm)]; exact hc) hcb hjl hj (by rw [find_cons, if_pos rfl]) (by omega) f (fun p hp => by
      have h4 : p * sz + sz ≤ n * sz := by
        have : (p + 1) * sz ≤ n * sz := Nat.mul_le_mul_right _ hp
        rw [Nat.add_mul, Nat.one_mul] at this
        exact this
      rw [Nat.zero_add, getN_take blk sz (p * sz) (by omega), hcc]
      exact hf p hp)
    rwa [del_head] at this
theorem Acc.osH [Gl] {sz n b : Nat} {h0 : Heap} {cs : List SV} (hf : fresh h0 b) (hl : n * sz = cs.length) : Acc sz (.os b 0 n sz) ((b, .svs cs) :: h0) h0 n cs := .inr ⟨b, _, hf, rfl, hl, rfl, rfl, rfl⟩
theorem St.le_pick [Gl] {t : List (Nat × SV)} {h : Heap} (l : Heap) (hs : ∀ x ∈ l, x ∈ h) (hn : (l.map (·.1)).Nodup) : (St.mk t h).le ⟨t, l⟩ := St.le_sublist hs (fun _ => hn)
theorem Call.frameN [Gl] {P : Program} {f : FuncId} {args : List SV} {h1 h2 : Heap} {Q : SV → Heap → Prop} (hc : Call P f args h1 Q) :
    Call P f args (h1 ++ h2) (fun r h' => ∃ h1', h' = h1' ++ h2 ∧ Q r h1' ∧ (h'.map (·.1)).Nodup) :=
  ⟨fun M w vs own hr => ((hc.frame (h2 := h2)).out M w vs own hr).mono fun e w' ⟨v, r, h', he, ⟨h1', e1, q⟩, hv, own', frm, hh⟩ => ⟨v, r, h', he, ⟨h1', e1, q, own'.nodup⟩, hv, own', frm, hh⟩⟩
theorem fresh_of_nodup {b : Nat} {k : Blk} {h : Heap} (hn : (((b, k) :: h).map (·.1)).Nodup) : fresh h b := by
  rw [List.map_cons, List.nodup_cons] at hn
  exact fresh_of (fun x => hn.1 (has_map.1 x))
end Go.Ab
