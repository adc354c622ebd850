/- Stores, appends and calls; one step of an activation. -/
import Derived.Test.YtockdinjmnkdoaaAi
namespace Go.Ab
open Go.RowKit

def Reps (E : Env) (vs : Array Value) (ss : List SV) : Prop := vs.size = ss.length ∧ ∀ i, i < ss.length → Rep E (vs.getD i undef) (ss.getD i .any)

theorem Reps.mono {E E' : Env} (hE : E.le E') {vs : Array Value} {ss : List SV} (h : Reps E vs ss) : Reps E' vs ss := ⟨h.1, fun i hi => (h.2 i hi).mono hE⟩

theorem Reps.append {E : Env} {v1 v2 : Array Value} {s1 s2 : List SV} (h1 : Reps E v1 s1) (h2 : Reps E v2 s2) : Reps E (v1 ++ v2) (s1 ++ s2) := by
  refine ⟨by simp [h1.1, h2.1], fun i hi => ?_⟩
  by_cases h : i < s1.length
  · have := h1.2 i h
    rw [getD_toList] at this ⊢
    rw [List.getD_eq_getElem?_getD] at this ⊢
    rw [List.getD_eq_getElem?_getD] at this ⊢
    rw [Array.toList_append, List.getElem?_append_left (by simpa [h1.1] using h), List.getElem?_append_left h]
    exact this
  · have := h2.2 (i - s1.length) (by simp at hi; omega)
    rw [getD_toList] at this ⊢
    rw [List.getD_eq_getElem?_getD] at this ⊢
    rw [List.getD_eq_getElem?_getD] at this ⊢
    rw [Array.toList_append, List.getElem?_append_right (by simp [h1.1]; omega), List.getElem?_append_right (by omega)]
    simpa [h1.1] using this

/-- A call of a function of the program: from these arguments and owned blocks it returns, with such a result and such blocks. -/
def Call (P : Program) (f : FuncId) (args : List SV) (h : Heap) (Q : SV → Heap → Prop) : Prop :=
  (∃ fn, P.funcs[f]? = some fn ∧ fn.body.isNone = false ∧ (fn.name == "runtime.NumGoroutine") = false) ∧
  ∀ (M : Nat → Prop) (w : World) (vs : Array Value), Owns M h w → Reps (envOf (hid M h) w) vs args →
    Calls P f vs w fun e w' => ∃ v r h', e = .returned v ∧ Q r h' ∧ Rep (envOf (hid M h') w') v r ∧ Owns M h' w' ∧ Frm h.has w w' ∧ ∀ b, h'.has b → b < w.heap.size → h.has b

theorem Call.mono {P : Program} {f : FuncId} {args : List SV} {h : Heap} {Q Q' : SV → Heap → Prop} (hc : Call P f args h Q) (hq : ∀ r h', Q r h' → Q' r h') : Call P f args h Q' :=
  ⟨hc.1, fun M w vs own hr => (hc.2 M w vs own hr).mono fun _ _ ⟨v, r, h', h1, h2, h3⟩ => ⟨v, r, h', h1, hq _ _ h2, h3⟩⟩

def fresh (h : Heap) (b : Nat) : Prop := match h with
  | [] => True
  | (c, _) :: r => (c ≠ b ∧ b ≠ c) ∧ fresh r b

theorem fresh_of {h : Heap} {b : Nat} (hb : ¬ h.has b) : fresh h b := by
  induction h with
  | nil => trivial
  | cons x r ih =>
    obtain ⟨c, k⟩ := x
    have : c ≠ b := fun e => hb ⟨k, by rw [e]; exact List.mem_cons_self⟩
    exact ⟨⟨this, Ne.symm this⟩, ih (fun ⟨k', hk⟩ => hb ⟨k', List.mem_cons_of_mem _ hk⟩)⟩

theorem not_has_of_fresh {h : Heap} {b : Nat} (hf : fresh h b) : ¬ h.has b := by
  induction h with
  | nil => rintro ⟨k, hk⟩; cases hk
  | cons x r ih =>
    obtain ⟨c, k⟩ := x
    rintro ⟨k', hk⟩
    rcases List.mem_cons.1 hk with hk | hk
    · cases hk; exact hf.1.1 rfl
    · exact ih hf.2 ⟨k', hk⟩

def setN (k : Blk) (off : Nat) (cs : List SV) : Blk := match cs with
  | [] => k
  | c :: r => setN (k.set off c) (off + 1) r

theorem len_setN : ∀ (cs : List SV) (k : Blk) (off : Nat), (setN k off cs).len = k.len
  | [], _, _ => rfl
  | c :: r, k, off => by rw [setN, len_setN r, Blk.len_set]

section
variable {P : Program} {M : Nat → Prop} {h : Heap} {w : World}

theorem map_upd (h : Heap) (b : Nat) (k : Blk) : (h.upd b k).map (·.1) = h.map (·.1) := by
  induction h with
  | nil => rfl
  | cons x r ih =>
    obtain ⟨c, k'⟩ := x
    simp only [Heap.upd]
    split
    · rfl
    · simp [ih]

theorem has_upd {b c : Nat} {k : Blk} : (h.upd b k).has c ↔ h.has c := by rw [has_map, has_map, map_upd]

theorem mem_upd {b c : Nat} {k k' : Blk} (hn : (h.map (·.1)).Nodup) (hm : (c, k') ∈ h.upd b k) : (c = b ∧ k' = k) ∨ (c ≠ b ∧ (c, k') ∈ h) := by
  induction h with
  | nil => cases hm
  | cons x r ih =>
    obtain ⟨d, k0⟩ := x
    simp only [Heap.upd] at hm
    rw [List.map_cons, List.nodup_cons] at hn
    split at hm
    · rename_i hd
      subst hd
      rcases List.mem_cons.1 hm with hm | hm
      · cases hm; exact .inl ⟨rfl, rfl⟩
      · exact .inr ⟨fun e => hn.1 (has_map.1 ⟨k', e ▸ hm⟩), List.mem_cons_of_mem _ hm⟩
    · rename_i hd
      rcases List.mem_cons.1 hm with hm | hm
      · cases hm; exact .inr ⟨hd, List.mem_cons_self⟩
      · rcases ih hn.2 hm with h' | h'
        · exact .inl h'
        · exact .inr ⟨h'.1, List.mem_cons_of_mem _ h'.2⟩

theorem hid_upd {b : Nat} {k : Blk} : hid M (h.upd b k) = hid M h := by
  funext c
  simp only [hid, has_upd]

theorem heap_set_same {b off : Nat} {c : Array Value} {e : TypeId} {fr : Nat × Nat} {v : Value} (hb : w.heap[b]? = some (.cells c e fr)) :
    (w.setCell ⟨b, off, none⟩ v).heap[b]? = some (.cells (c.setIfInBounds off v) e fr) := by
  simp [World.setCell, Array.getElem?_modify, hb]

theorem heap_set_other {b off b' : Nat} {v : Value} (hne : b' ≠ b) : (w.setCell ⟨b, off, none⟩ v).heap[b']? = w.heap[b']? := by
  simp only [World.setCell, Array.getElem?_modify]
  rw [if_neg (Ne.symm hne)]

theorem frm_set {b off : Nat} {v : Value} : Frm (fun c => c = b) w (w.setCell ⟨b, off, none⟩ v) where
  size := by simp [World.setCell]
  keep := fun c _ hc => heap_set_other hc
  sizes := fun c m ⟨cs, e, fr, hc, hs⟩ => by
    by_cases hcb : c = b
    · subst hcb; exact ⟨_, e, fr, heap_set_same hc, by simpa using hs⟩
    · exact ⟨cs, e, fr, by rw [heap_set_other hcb]; exact hc, hs⟩
  os := rfl
  tape := rfl
  output := rfl

theorem Owns.set (own : Owns M h w) {b off : Nat} {k : Blk} {v : Value} {s : SV} (hm : (b, k) ∈ h) (hv : Rep (envOf (hid M h) w) v s) :
    Owns M (h.upd b (k.set off s)) (w.setCell ⟨b, off, none⟩ v) := by
  have hle : (envOf (hid M h) w).le (envOf (hid M (h.upd b (k.set off s))) (w.setCell ⟨b, off, none⟩ v)) := by
    rw [hid_upd]
    exact env_le (frm_set) (fun c hc _ => .inr (hc ▸ ⟨k, hm⟩)) (fun _ _ x => x)
  refine ⟨by rw [map_upd]; exact own.nodup, fun c hc => own.notM c (has_upd.1 hc), fun c hc => by have := own.lt c hc; simpa [World.setCell] using this, fun c k' hk => ?_⟩
  rcases mem_upd own.nodup hk with ⟨rfl, rfl⟩ | ⟨hne, hk⟩
  · obtain ⟨cs, e, hb, hl, hr⟩ := own.ok c k hm
    refine ⟨_, e, heap_set_same hb, by rw [Blk.len_set]; simpa using hl, fun i hi => ?_⟩
    rw [Blk.len_set] at hi
    have h0 := hr i hi
    have hg : (k.set off s).get i = if off = i then s else k.get i := by
      rw [← Blk.get_cells _ _ (by rw [Blk.len_set]; exact hi), Blk.cells_set, ← Blk.get_cells k i hi]
      by_cases ho : off = i
      · subst ho
        have : off < k.cells.length := by rw [Blk.length_cells]; exact hi
        simp [List.getD_eq_getElem?_getD, this]
      · simp [List.getD_eq_getElem?_getD, List.getElem?_set_ne ho, ho]
    rw [hg]
    by_cases ho : off = i
    · subst ho
      have : off < cs.size := by omega
      simp only [if_true]
      refine Rep.mono hle ?_
      simpa [this] using hv
    · rw [if_neg ho]
      refine Rep.mono hle ?_
      simpa [Array.getElem?_setIfInBounds_ne ho] using h0
  · obtain ⟨cs, e, hb, hl, hr⟩ := own.ok c k' hk
    exact ⟨cs, e, by rw [heap_set_other hne]; exact hb, hl, fun i hi => (hr i hi).mono hle⟩

theorem upd_self {h : Heap} {b : Nat} {k : Blk} (hn : (h.map (·.1)).Nodup) (hm : (b, k) ∈ h) : h.upd b k = h := by
  induction h with
  | nil => cases hm
  | cons x r ih =>
    obtain ⟨c, k0⟩ := x
    rw [List.map_cons, List.nodup_cons] at hn
    simp only [Heap.upd]
    split
    · rename_i hc
      subst hc
      rcases List.mem_cons.1 hm with hm | hm
      · cases hm; rfl
      · exact absurd (has_map.1 ⟨k, hm⟩) hn.1
    · rename_i hc
      rcases List.mem_cons.1 hm with hm | hm
      · cases hm; exact absurd rfl hc
      · rw [ih hn.2 hm]

theorem mem_upd_self {h : Heap} {b : Nat} {k k' : Blk} (hm : (b, k) ∈ h) : (b, k') ∈ h.upd b k' := by
  induction h with
  | nil => cases hm
  | cons x r ih =>
    obtain ⟨c, k0⟩ := x
    simp only [Heap.upd]
    split
    · rename_i hc; subst hc; exact List.mem_cons_self
    · rename_i hc
      rcases List.mem_cons.1 hm with hm | hm
      · cases hm; exact absurd rfl hc
      · exact List.mem_cons_of_mem _ (ih hm)

theorem upd_upd (h : Heap) (b : Nat) (k k' : Blk) : (h.upd b k).upd b k' = h.upd b k' := by
  induction h with
  | nil => rfl
  | cons x r ih =>
    obtain ⟨c, k0⟩ := x
    simp only [Heap.upd]
    split
    · rename_i hc; simp [Heap.upd, hc]
    · rename_i hc; simp only [Heap.upd, if_neg hc, ih]

/-- Cells stored one by one into an owned block. -/
theorem storeCells_run {b : Nat} : ∀ (vs : List Value) (cs : List SV) (off i : Nat) (w : World) (h : Heap) (k : Blk), Owns M h w → (b, k) ∈ h → vs.length = cs.length → off + i + cs.length ≤ k.len →
    (∀ j, j < cs.length → Rep (envOf (hid M h) w) (vs.getD j undef) (cs.getD j .any)) → (∀ j, j < cs.length → (vs.getD j undef).oneCell' = true) →
    ∃ w', (storeCells ⟨b, off, none⟩ vs i).run P w = .ok () w' ∧ Owns M (h.upd b (setN k (off + i) cs)) w' ∧ Frm (fun c => c = b) w w'
  | [], [], off, i, w, h, k, own, hm, _, _, _, _ => by
    refine ⟨w, by simp [storeCells], ?_, Frm.refl _ _⟩
    have := upd_self own.nodup hm
    simp only [setN, this]
    exact own
  | [], _ :: _, _, _, _, _, _, _, _, hl, _, _, _ => by simp at hl
  | _ :: _, [], _, _, _, _, _, _, _, hl, _, _, _ => by simp at hl
  | v :: vs, s :: cs, off, i, w, h, k, own, hm, hl, hle, hr, ho => by
    have hv := hr 0 (by simp)
    have hv1 := ho 0 (by simp)
    simp only [List.getD_cons_zero] at hv hv1
    have hlen : off + i < k.len := by simp at hle; omega
    obtain ⟨u, hu, _⟩ := own.cell hm hlen
    obtain ⟨c, e, hb, _, _⟩ := own.ok b k hm
    have hfz : w.frozen? ⟨b, off + i, none⟩ = false := by simp [World.frozen?, hb]
    have hst : (store (Addr.add ⟨b, off, none⟩ i) v).run P w = .ok () (w.setCell ⟨b, off + i, none⟩ v) := by
      rw [Addr.add_lit, run_store _ _ _ _ _ hv1, hu]
      simp [hfz]
    have own' := own.set (off := off + i) hm hv
    have hle' : (envOf (hid M h) w).le (envOf (hid M (h.upd b (k.set (off + i) s))) (w.setCell ⟨b, off + i, none⟩ v)) := by
      rw [hid_upd]
      exact env_le (frm_set) (fun c hc _ => .inr (hc ▸ ⟨k, hm⟩)) (fun _ _ x => x)
    have hm' : (b, k.set (off + i) s) ∈ h.upd b (k.set (off + i) s) := mem_upd_self hm
    obtain ⟨w', h1, h2, h3⟩ := storeCells_run vs cs off (i + 1) _ _ _ own' hm' (by simpa using hl) (by rw [Blk.len_set]; simp at hle; omega)
      (fun j hj => by have := hr (j + 1) (by simpa using hj); simp only [List.getD_cons_succ] at this; exact this.mono hle') (fun j hj => by have := ho (j + 1) (by simpa using hj); simpa using this)
    refine ⟨w', ?_, ?_, (frm_set).trans h3 (fun _ _ x => x)⟩
    · simp only [storeCells, Sem.run_bind, hst, Result.andThen_ok]
      exact h1
    · have hupd : (h.upd b (k.set (off + i) s)).upd b (setN (k.set (off + i) s) (off + (i + 1)) cs) = h.upd b (setN k (off + i) (s :: cs)) := by
        rw [setN, Nat.add_assoc, upd_upd]
      rw [← hupd]
      exact h2

end
end Go.Ab
