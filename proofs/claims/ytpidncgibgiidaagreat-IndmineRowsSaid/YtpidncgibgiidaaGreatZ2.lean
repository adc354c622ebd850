/- The abstract layer, part Z2. -/
import Derived.Test.YtpidncgibgiidaaGreatZ1
import Derived.Lib.ConvBytes
import Derived.Laws.AppendOwn
import Derived.Laws.Build
set_option linter.unusedVariables false
set_option linter.unusedSectionVars false
set_option linter.unusedSimpArgs false
/-! Aj: Stores, appends and calls; one step of an activation. -/
namespace Go.Ab
open Go.RowKit
def Reps (E : Env) (vs : Array Value) (ss : List SV) : Prop := vs.size = ss.length ∧ ∀ i, i < ss.length → Rep E (vs.getD i undef) (ss.getD i .any)
theorem Reps.mono {E E' : Env} (hE : E.le E') {vs : Array Value} {ss : List SV} (h : Reps E vs ss) : Reps E' vs ss := ⟨h.1, fun i hi => (h.2 i hi).mono hE⟩
theorem Reps.append {E : Env} {v1 v2 : Array Value} {s1 s2 : List SV} (h1 : Reps E v1 s1) (h2 : Reps E v2 s2) : Reps E (v1 ++ v2) (s1 ++ s2) := by
  refine ⟨by simp [h1.1, h2.1], fun i hi => ?_⟩
  by_cases h : i < s1.length
  · have := h1.2 i h
    rw [getD_toList] at this ⊢
    rw [List.getD_eq_getElem?_getD] at this ⊢
    rw [List.getD_eq_getElem?_getD] at this ⊢
    rw [Array.toList_append, List.getElem?_append_left (by simpa [h1.1] using h), List.getElem?_append_left h]
    exact this
  · have := h2.2 (i - s1.length) (by simp at hi; omega)
    rw [getD_toList] at this ⊢
    rw [List.getD_eq_getElem?_getD] at this ⊢
    rw [List.getD_eq_getElem?_getD] at this ⊢
    rw [Array.toList_append, List.getElem?_append_right (by simp [h1.1]; omega), List.getElem?_append_right (by omega)]
    simpa [h1.1] using this
def Body (P : Program) (f : FuncId) : Prop := ∃ fn, P.funcs[f]? = some fn ∧ fn.body.isNone = false ∧ (fn.name == "runtime.NumGoroutine") = false
def Runs (P : Program) (f : FuncId) (vs : Array Value) (w : World) (R : Ending → World → Prop) : Prop :=
  (Body P f ∧ Calls P f vs w R) ∨ ∃ v w', (callFunc f vs).run P w = .ok (.value v) w' ∧ R (.returned v) w'
theorem Runs.mono {P : Program} {f : FuncId} {vs : Array Value} {w : World} {R R' : Ending → World → Prop} (h : Runs P f vs w R) (hr : ∀ e w', R e w' → R' e w') : Runs P f vs w R' :=
  h.imp (fun ⟨h1, h2⟩ => ⟨h1, h2.mono hr⟩) (fun ⟨v, w', h1, h2⟩ => ⟨v, w', h1, hr _ _ h2⟩)
structure Call [Gl] (P : Program) (f : FuncId) (args : List SV) (h : Heap) (Q : SV → Heap → Prop) : Prop where
  out : ∀ (M : Nat → Prop) (w : World) (vs : Array Value), Owns M h w → Reps (envOf (hid M h) w) vs args →
    Runs P f vs w fun e w' => ∃ v r h', e = .returned v ∧ Q r h' ∧ Rep (envOf (hid M h') w') v r ∧ Owns M h' w' ∧ Frm h.has w w' ∧ ∀ b, h'.has b → b < w.heap.size → h.has b
theorem Call.mono [Gl] {P : Program} {f : FuncId} {args : List SV} {h : Heap} {Q Q' : SV → Heap → Prop} (hc : Call P f args h Q) (hq : ∀ r h', Q r h' → Q' r h') : Call P f args h Q' :=
  ⟨fun M w vs own hr => (hc.out M w vs own hr).mono fun _ _ ⟨v, r, h', h1, h2, h3⟩ => ⟨v, r, h', h1, hq _ _ h2, h3⟩⟩
def fresh (h : Heap) (b : Nat) : Prop := match h with
  | [] => True
  | (c, _) :: r => (c ≠ b ∧ b ≠ c) ∧ fresh r b
theorem fresh_of {h : Heap} {b : Nat} (hb : ¬ h.has b) : fresh h b := by
  induction h with
  | nil => trivial
  | cons x r ih =>
    obtain ⟨c, k⟩ := x
    have : c ≠ b := fun e => hb ⟨k, by rw [e]; exact List.mem_cons_self⟩
    exact ⟨⟨this, Ne.symm this⟩, ih (fun ⟨k', hk⟩ => hb ⟨k', List.mem_cons_of_mem _ hk⟩)⟩
theorem not_has_of_fresh {h : Heap} {b : Nat} (hf : fresh h b) : ¬ h.has b := by
  induction h with
  | nil => rintro ⟨k, hk⟩; cases hk
  | cons x r ih =>
    obtain ⟨c, k⟩ := x
    rintro ⟨k', hk⟩
    rcases List.mem_cons.1 hk with hk | hk
    · cases hk; exact hf.1.1 rfl
    · exact ih hf.2 ⟨k', hk⟩
def setN (k : Blk) (off : Nat) (cs : List SV) : Blk := match cs with
  | [] => k
  | c :: r => setN (k.set off c) (off + 1) r
theorem isM_setN : ∀ {k : Blk} (h : k.isM = false) (off : Nat) (cs : List SV), (setN k off cs).isM = false
  | k, h, off, [] => h
  | k, h, off, c :: r => isM_setN (Blk.isM_set h off c) (off + 1) r
section
variable {P : Program} {M : Nat → Prop} {h : Heap} {w : World}
theorem map_upd (h : Heap) (b : Nat) (k : Blk) : (h.upd b k).map (·.1) = h.map (·.1) := by
  induction h with
  | nil => rfl
  | cons x r ih =>
    obtain ⟨c, k'⟩ := x
    simp only [Heap.upd]
    split
    · rfl
    · simp [ih]
theorem has_upd [Gl] {b c : Nat} {k : Blk} : (h.upd b k).has c ↔ h.has c := by rw [has_map, has_map, map_upd]
theorem mem_upd {b c : Nat} {k k' : Blk} (hn : (h.map (·.1)).Nodup) (hm : (c, k') ∈ h.upd b k) : (c = b ∧ k' = k) ∨ (c ≠ b ∧ (c, k') ∈ h) := by
  induction h with
  | nil => cases hm
  | cons x r ih =>
    obtain ⟨d, k0⟩ := x
    simp only [Heap.upd] at hm
    rw [List.map_cons, List.nodup_cons] at hn
    split at hm
    · rename_i hd
      subst hd
      rcases List.mem_cons.1 hm with hm | hm
      · cases hm; exact .inl ⟨rfl, rfl⟩
      · exact .inr ⟨fun e => hn.1 (has_map.1 ⟨k', e ▸ hm⟩), List.mem_cons_of_mem _ hm⟩
    · rename_i hd
      rcases List.mem_cons.1 hm with hm | hm
      · cases hm; exact .inr ⟨hd, List.mem_cons_self⟩
      · rcases ih hn.2 hm with h' | h'
        · exact .inl h'
        · exact .inr ⟨h'.1, List.mem_cons_of_mem _ h'.2⟩
theorem hid_upd [Gl] {b : Nat} {k : Blk} : hid M (h.upd b k) = hid M h := by
  funext c
  simp only [hid, has_upd]
theorem heap_set_same {b off : Nat} {c : Array Value} {e : TypeId} {fr : Nat × Nat} {v : Value} (hb : w.heap[b]? = some (.cells c e fr)) :
    (w.setCell ⟨b, off, none⟩ v).heap[b]? = some (.cells (c.setIfInBounds off v) e fr) := by
  simp [World.setCell, Array.getElem?_modify, hb]
theorem heap_set_other {b off b' : Nat} {v : Value} (hne : b' ≠ b) : (w.setCell ⟨b, off, none⟩ v).heap[b']? = w.heap[b']? := by
  simp only [World.setCell, Array.getElem?_modify]
  rw [if_neg (Ne.symm hne)]
theorem frm_set [Gl] {b off : Nat} {v : Value} : Frm (fun c => c = b) w (w.setCell ⟨b, off, none⟩ v) where
  size := by simp [World.setCell]
  keep := fun c _ hc => heap_set_other hc
  sizes := fun c m ⟨cs, e, fr, hc, hs⟩ => by
    by_cases hcb : c = b
    · subst hcb; exact ⟨_, e, fr, heap_set_same hc, by simpa using hs⟩
    · exact ⟨cs, e, fr, by rw [heap_set_other hcb]; exact hc, hs⟩
  os := rfl
  tape := rfl
  output := rfl
  drn := Nat.le_refl _
theorem Owns.set [Gl] (own : Owns M h w) {b off : Nat} {k : Blk} {v : Value} {s : SV} (hm : (b, k) ∈ h) (hkM : k.isM = false) (hv : Rep (envOf (hid M h) w) v s) :
    Owns M (h.upd b (k.set off s)) (w.setCell ⟨b, off, none⟩ v) := by
  have hle : (envOf (hid M h) w).le (envOf (hid M (h.upd b (k.set off s))) (w.setCell ⟨b, off, none⟩ v)) := by
    rw [hid_upd]
    exact env_le (frm_set) (fun c hc _ => .inr (hc ▸ ⟨k, hm⟩)) (fun _ _ x => x)
  refine ⟨by rw [map_upd]; exact own.nodup, fun c hc => own.notM c (has_upd.1 hc), fun c hc => by have := own.lt c hc; simpa [World.setCell] using this, fun c k' hk hM => ?_, fun c l hk => ?_, own.gl.mono hle⟩
  rotate_left
  · rcases mem_upd own.nodup hk with ⟨rfl, e⟩ | ⟨hne, hk⟩
    · have := Blk.isM_set hkM off s
      rw [← e] at this
      cases this
    · obtain ⟨es, ck, hb, he⟩ := own.mp c l hk
      exact ⟨es, ck, by rw [heap_set_other hne]; exact hb, he⟩
  rcases mem_upd own.nodup hk with ⟨rfl, rfl⟩ | ⟨hne, hk⟩
  · obtain ⟨cs, e, hb, hl, hr⟩ := own.ok c k hm hkM
    refine ⟨_, e, heap_set_same hb, by rw [Blk.len_set]; simpa using hl, fun i hi => ?_⟩
    rw [Blk.len_set] at hi
    have h0 := hr i hi
    have hg : (k.set off s).get i = if off = i then s else k.get i := by
      rw [← Blk.get_cells _ _ (by rw [Blk.len_set]; exact hi), Blk.cells_set, ← Blk.get_cells k i hi]
      by_cases ho : off = i
      · subst ho
        have : off < k.cells.length := by rw [Blk.length_cells]; exact hi
        simp [List.getD_eq_getElem?_getD, this]
      · simp [List.getD_eq_getElem?_getD, List.getElem?_set_ne ho, ho]
    rw [hg]
    by_cases ho : off = i
    · subst ho
      have : off < cs.size := by omega
      simp only [if_true]
      refine Rep.mono hle ?_
      simpa [this] using hv
    · rw [if_neg ho]
      refine Rep.mono hle ?_
      simpa [Array.getElem?_setIfInBounds_ne ho] using h0
  · obtain ⟨cs, e, hb, hl, hr⟩ := own.ok c k' hk hM
    exact ⟨cs, e, by rw [heap_set_other hne]; exact hb, hl, fun i hi => (hr i hi).mono hle⟩
theorem upd_self {h : Heap} {b : Nat} {k : Blk} (hn : (h.map (·.1)).Nodup) (hm : (b, k) ∈ h) : h.upd b k = h := by
  induction h with
  | nil => cases hm
  | cons x r ih =>
    obtain ⟨c, k0⟩ := x
    rw [List.map_cons, List.nodup_cons] at hn
    simp only [Heap.upd]
    split
    · rename_i hc
      subst hc
      rcases List.mem_cons.1 hm with hm | hm
      · cases hm; rfl
      · exact absurd (has_map.1 ⟨k, hm⟩) hn.1
    · rename_i hc
      rcases List.mem_cons.1 hm with hm | hm
      · cases hm; exact absurd rfl hc
      · rw [ih hn.2 hm]
theorem mem_upd_self {h : Heap} {b : Nat} {k k' : Blk} (hm : (b, k) ∈ h) : (b, k') ∈ h.upd b k' := by
  induction h with
  | nil => cases hm
  | cons x r ih =>
    obtain ⟨c, k0⟩ := x
    simp only [Heap.upd]
    split
    · rename_i hc; subst hc; exact List.mem_cons_self
    · rename_i hc
      rcases List.mem_cons.1 hm with hm | hm
      · cases hm; exact absurd rfl hc
      · exact List.mem_cons_of_mem _ (ih hm)
theorem upd_upd (h : Heap) (b : Nat) (k k' : Blk) : (h.upd b k).upd b k' = h.upd b k' := by
  induction h with
  | nil => rfl
  | cons x r ih =>
    obtain ⟨c, k0⟩ := x
    simp only [Heap.upd]
    split
    · rename_i hc; simp [Heap.upd, hc]
    · rename_i hc; simp only [Heap.upd, if_neg hc, ih]
theorem storeCells_run [Gl] {b : Nat} : ∀ (vs : List Value) (cs : List SV) (off i : Nat) (w : World) (h : Heap) (k : Blk), Owns M h w → (b, k) ∈ h → vs.length = cs.length → off + i + cs.length ≤ k.len →
    (∀ j, j < cs.length → Rep (envOf (hid M h) w) (vs.getD j undef) (cs.getD j .any)) → (∀ j, j < cs.length → (vs.getD j undef).oneCell' = true) →
    ∃ w', (storeCells ⟨b, off, none⟩ vs i).run P w = .ok () w' ∧ Owns M (h.upd b (setN k (off + i) cs)) w' ∧ Frm (fun c => c = b) w w'
  | [], [], off, i, w, h, k, own, hm, _, _, _, _ => by
    refine ⟨w, by simp [storeCells], ?_, Frm.refl _ _⟩
    have := upd_self own.nodup hm
    simp only [setN, this]
    exact own
  | [], _ :: _, _, _, _, _, _, _, _, hl, _, _, _ => by simp at hl
  | _ :: _, [], _, _, _, _, _, _, _, hl, _, _, _ => by simp at hl
  | v :: vs, s :: cs, off, i, w, h, k, own, hm, hl, hle, hr, ho => by
    have hv := hr 0 (by simp)
    have hv1 := ho 0 (by simp)
    simp only [List.getD_cons_zero] at hv hv1
    have hlen : off + i < k.len := by simp at hle; omega
    obtain ⟨u, hu, _⟩ := own.cell hm hlen
    have hkM := Blk.isM_lt hlen
    obtain ⟨c, e, hb, _, _⟩ := own.ok b k hm hkM
    have hfz : w.frozen? ⟨b, off + i, none⟩ = false := by simp [World.frozen?, hb]
    have hst : (store (Addr.add ⟨b, off, none⟩ i) v).run P w = .ok () (w.setCell ⟨b, off + i, none⟩ v) := by
      rw [Addr.add_lit, run_store _ _ _ _ _ hv1, hu]
      simp [hfz]
    have own' := own.set (off := off + i) hm hkM hv
    have hle' : (envOf (hid M h) w).le (envOf (hid M (h.upd b (k.set (off + i) s))) (w.setCell ⟨b, off + i, none⟩ v)) := by
      rw [hid_upd]
      exact env_le (frm_set) (fun c hc _ => .inr (hc ▸ ⟨k, hm⟩)) (fun _ _ x => x)
    have hm' : (b, k.set (off + i) s) ∈ h.upd b (k.set (off + i) s) := mem_upd_self hm
    obtain ⟨w', h1, h2, h3⟩ := storeCells_run vs cs off (i + 1) _ _ _ own' hm' (by simpa using hl) (by rw [Blk.len_set]; simp at hle; omega)
      (fun j hj => by have := hr (j + 1) (by simpa using hj); simp only [List.getD_cons_succ] at this; exact this.mono hle') (fun j hj => by have := ho (j + 1) (by simpa using hj); simpa using this)
    refine ⟨w', ?_, ?_, (frm_set).trans h3 (fun _ _ x => x)⟩
    · simp only [storeCells, Sem.run_bind, hst, Result.andThen_ok]
      exact h1
    · have hupd : (h.upd b (k.set (off + i) s)).upd b (setN (k.set (off + i) s) (off + (i + 1)) cs) = h.upd b (setN k (off + i) (s :: cs)) := by
        rw [setN, Nat.add_assoc, upd_upd]
      rw [← hupd]
      exact h2
end
end Go.Ab
/-! Ak: Append. -/
namespace Go.Ab
open Go.RowKit
def Heap.ren (h : Heap) (b b' : Nat) (k : Blk) : Heap := match h with
  | [] => []
  | (c, k') :: r => if c = b then (b', k) :: r else (c, k') :: Heap.ren r b b' k
def appB (k : Blk) (cs : List SV) : Blk :=
  match k, cs with
  | .ints k l, [.sc (.int k' n)] => if k' = k then .ints k (l ++ [n]) else .svs ((Blk.ints k l).cells ++ [.sc (.int k' n)])
  | .bools l, [.sc (.bool b)] => .bools (l ++ [b])
  | k, cs => .svs (k.cells ++ cs)
def newB (cs : List SV) : Blk :=
  match cs with
  | [.sc (.int k n)] => .ints k [n]
  | [.sc (.bool b)] => .bools [b]
  | cs => .svs cs
def flCells (f : Nat → List SV) (n : Nat) : List SV := (List.range n).flatMap f
def srcCells (x : SV) (h : Heap) : Option (Nat × List SV) :=
  match x with
  | .fl n _ f => some (n, flCells f n)
  | .os b off n sz => match h.find b with
    | some k => some (n, getN k off (n * sz))
    | none => none
  | .sc (.slice none 0 0) => some (0, [])
  | .sc (.string s) => some (s.size, s.data.toList.map fun b => .sc (.int .u8 b.toNat))
  | _ => none
def srcOk (size : Nat) (x : SV) (h : Heap) : Prop :=
  match x with
  | .fl _ sz _ => sz = size
  | .os b off n sz => match h.find b with
    | some k => sz = size ∧ off + n * sz ≤ k.len
    | none => False
  | .sc (.string _) => size = 1
  | _ => True
def notInt (P : Program) (t : TypeId) : Bool := match P.underlying t with
  | some (.int _) => false
  | some _ => true
  | none => false
theorem isM_newB (cs : List SV) : (newB cs).isM = false := by
  unfold newB
  split <;> rfl
theorem isM_appB (k : Blk) (cs : List SV) : (appB k cs).isM = false := by
  unfold appB
  split
  · split <;> rfl
  · rfl
  · rfl
theorem appB_cells (k : Blk) (cs : List SV) : (appB k cs).cells = k.cells ++ cs := by
  unfold appB
  split
  · rename_i k' l k'' n
    split
    · rename_i hk; subst hk; simp [Blk.cells]
    · rfl
  · simp [Blk.cells]
  · rfl
theorem newB_cells (cs : List SV) : (newB cs).cells = cs := by
  unfold newB
  split <;> simp [Blk.cells]
section
variable {P : Program} {M : Nat → Prop} {h : Heap} {w : World}
theorem size_unique {b m m' : Nat} (h1 : HasSize w b (m, none)) (h2 : HasSize w b (m', none)) : m = m' := by
  obtain ⟨c, e, fr, hc, rfl, _⟩ := h1
  obtain ⟨c', e', fr', hc', rfl, _⟩ := h2
  rw [hc] at hc'
  cases hc'
  rfl
theorem Owns.recell [Gl] (own : Owns M h w) {b : Nat} {k k' : Blk} {c : Array Value} {e : TypeId} (hm : (b, k) ∈ h) (hkM : k'.isM = false) (hb : w.heap[b]? = some (.cells c e (0, 0))) (hl : k'.len ≤ c.size)
    (hr : ∀ i, i < k'.len → Rep (envOf (hid M h) w) (c.getD i undef) (k'.get i)) : Owns M (h.upd b k') w := by
  refine ⟨by rw [map_upd]; exact own.nodup, fun c hc => own.notM c (has_upd.1 hc), own.lt, fun d k0 hk hM => ?_, fun d l hk => ?_, by rw [hid_upd]; exact own.gl⟩
  · rw [hid_upd]
    rcases mem_upd own.nodup hk with ⟨rfl, rfl⟩ | ⟨hne, hk⟩
    · exact ⟨c, e, hb, hl, hr⟩
    · exact own.ok d k0 hk hM
  · rcases mem_upd own.nodup hk with ⟨rfl, e⟩ | ⟨hne, hk⟩
    · rw [← e] at hkM; cases hkM
    · exact own.mp d l hk
theorem Owns.sub [Gl] (own : Owns M h w) {h' : Heap} (hn : (h'.map (·.1)).Nodup) (hs : ∀ x ∈ h', x ∈ h) : Owns M h' w := by
  have hh : ∀ b, h'.has b → h.has b := fun b ⟨k, hk⟩ => ⟨k, hs _ hk⟩
  refine ⟨hn, fun b hb => own.notM b (hh b hb), own.lt, fun b k hk hM => ?_, fun b l hk => own.mp b l (hs _ hk), own.gl.mono (env_le (Frm.refl (fun _ => False) w) (fun _ x _ => x.elim) (fun b _ x => x.imp id (hh b)))⟩
  obtain ⟨c, e, hb, hl, hr⟩ := own.ok b k (hs _ hk) hM
  exact ⟨c, e, hb, hl, fun i hi => (hr i hi).mono (env_le (Frm.refl (fun _ => False) w) (fun _ x _ => x.elim) (fun b _ x => x.imp id (hh b)))⟩
theorem Owns.cells [Gl] (own : Owns M h w) {b : Nat} {k k' : Blk} (hm : (b, k) ∈ h) (he : k'.cells = k.cells) (hkM : k.isM = false) (hkM' : k'.isM = false) : Owns M (h.upd b k') w := by
  obtain ⟨c, e, hb, hl, hr⟩ := own.ok b k hm hkM
  have hlen : k'.len = k.len := by rw [← Blk.length_cells, he, Blk.length_cells]
  refine own.recell hm hkM' hb (by omega) (fun i hi => ?_)
  rw [← Blk.get_cells k' i hi, he, Blk.get_cells k i (by omega)]
  exact hr i (by omega)
theorem ren_self (h : Heap) (b : Nat) (k : Blk) : h.ren b b k = h.upd b k := by
  induction h with
  | nil => rfl
  | cons x r ih => obtain ⟨c, k0⟩ := x; simp only [Heap.ren, Heap.upd, ih]; split <;> simp_all
theorem mem_ren {h : Heap} {b b' : Nat} {k : Blk} {x : Nat × Blk} (hx : x ∈ h.ren b b' k) : x = (b', k) ∨ x ∈ h.del b := by
  induction h with
  | nil => cases hx
  | cons y r ih =>
    obtain ⟨c, k0⟩ := y
    simp only [Heap.ren, Heap.del] at hx ⊢
    split at hx
    · rename_i hc
      rw [if_pos hc]
      rcases List.mem_cons.1 hx with hx | hx
      · exact .inl hx
      · exact .inr hx
    · rename_i hc
      rw [if_neg hc]
      rcases List.mem_cons.1 hx with hx | hx
      · exact .inr (hx ▸ List.mem_cons_self)
      · exact (ih hx).imp id (List.mem_cons_of_mem _)
theorem mem_del {h : Heap} {b : Nat} {x : Nat × Blk} (hx : x ∈ h.del b) : x ∈ h := by
  induction h with
  | nil => cases hx
  | cons y r ih =>
    obtain ⟨c, k0⟩ := y
    simp only [Heap.del] at hx
    split at hx
    · exact List.mem_cons_of_mem _ hx
    · rcases List.mem_cons.1 hx with hx | hx
      · exact hx ▸ List.mem_cons_self
      · exact List.mem_cons_of_mem _ (ih hx)
theorem nodup_ren [Gl] {h : Heap} {b b' : Nat} {k : Blk} (hn : (h.map (·.1)).Nodup) (hb : b' ∉ h.map (·.1)) : ((h.ren b b' k).map (·.1)).Nodup := by
  induction h with
  | nil => simp [Heap.ren]
  | cons y r ih =>
    obtain ⟨c, k0⟩ := y
    rw [List.map_cons, List.nodup_cons] at hn
    simp only [List.map_cons, List.mem_cons, not_or] at hb
    simp only [Heap.ren]
    split
    · rw [List.map_cons, List.nodup_cons]; exact ⟨hb.2, hn.2⟩
    · rw [List.map_cons, List.nodup_cons]
      refine ⟨fun hm => ?_, ih hn.2 hb.2⟩
      rw [List.mem_map] at hm
      obtain ⟨x, hx, hxc⟩ := hm
      rcases mem_ren hx with rfl | hx
      · exact hb.1 hxc
      · exact hn.1 (hxc ▸ List.mem_map.2 ⟨x, mem_del hx, rfl⟩)
theorem del_not {h : Heap} {b : Nat} (hn : (h.map (·.1)).Nodup) : ¬ (h.del b).has b := by
  induction h with
  | nil => rintro ⟨k, hk⟩; cases hk
  | cons y r ih =>
    obtain ⟨c, k0⟩ := y
    rw [List.map_cons, List.nodup_cons] at hn
    simp only [Heap.del]
    split
    · rename_i hc; subst hc; exact fun hh => hn.1 (has_map.1 hh)
    · rename_i hc
      rintro ⟨k, hk⟩
      rcases List.mem_cons.1 hk with hk | hk
      · cases hk; exact hc rfl
      · exact ih hn.2 ⟨k, hk⟩
theorem all_mem {α : Type} {p : α → Bool} {l : List α} (h : l.all p = true) {i : Nat} {d : α} (hi : i < l.length) : p (l.getD i d) = true := by
  rw [getD_list _ _ _ hi]
  exact List.all_eq_true.1 h _ (List.getElem_mem hi)
theorem length_flCells [Gl] {f : Nat → List SV} {sz : Nat} : ∀ n, (∀ i, i < n → (f i).length = sz) → (flCells f n).length = n * sz
  | 0, _ => by simp [flCells]
  | n + 1, h => by
    have := length_flCells n (fun i hi => h i (by omega))
    unfold flCells at *
    rw [List.range_succ, List.flatMap_append, List.length_append, this]
    simp [h n (by omega), Nat.add_mul]
theorem getD_flCells [Gl] {f : Nat → List SV} {sz : Nat} : ∀ n, (∀ i, i < n → (f i).length = sz) → ∀ i j, i < n → j < sz → (flCells f n).getD (i * sz + j) .any = (f i).getD j .any
  | 0, _, i, _, hi, _ => absurd hi (by omega)
  | n + 1, h, i, j, hi, hj => by
    have hl := length_flCells n (fun i hi => h i (by omega))
    have e : flCells f (n + 1) = flCells f n ++ f n := by unfold flCells; rw [List.range_succ, List.flatMap_append]; simp
    rw [e, List.getD_eq_getElem?_getD]
    by_cases hin : i < n
    · have := index_lt (s := sz) hin
      rw [List.getElem?_append_left (by omega), ← List.getD_eq_getElem?_getD]
      exact getD_flCells n (fun i hi => h i (by omega)) i j hin hj
    · obtain rfl : i = n := by omega
      rw [List.getElem?_append_right (by omega), hl, ← List.getD_eq_getElem?_getD, Nat.add_sub_cancel_left]
theorem src_sound [Gl] {u : Value} {x : SV} {n size : Nat} {cs : List SV} (own : Owns M h w) (hx : Rep (envOf (hid M h) w) u x) (hc : srcCells x h = some (n, cs)) (ho : srcOk size x h) :
    (Builtin.lenOf u).run P w = .ok n w ∧ ∃ c : Array Value, (Builtin.firstCells size n u).run P w = .ok c w ∧ c.size = cs.length ∧ cs.length = n * size ∧ ∀ i, i < cs.length → Rep (envOf (hid M h) w) (c.getD i undef) (cs.getD i .any) := by
  unfold srcCells at hc
  split at hc
  · rename_i n' sz f
    cases hc
    subst ho
    cases hx with
    | fl0 a cap _ _ =>
      refine ⟨by simp [Builtin.lenOf], #[], ?_, by simp [flCells], by simp [flCells], fun i hi => absurd hi (by simp [flCells])⟩
      cases a with
      | none => simp [Builtin.firstCells]
      | some a => simp [Builtin.firstCells, loadCells, loadCellsFrom]
    | fl b off _ cap _ _ val hcap hl hs hr =>
      have hlen := length_flCells n hl
      refine ⟨by simp [Builtin.lenOf], ((List.range (n * sz)).map fun i => val (i / sz) (i % sz)).toArray, ?_, by simp [hlen], hlen, fun i hi => ?_⟩
      · simp only [Builtin.firstCells, loadCells]
        have := run_loadCellsFrom (P := P) (w := w) (a := ⟨b, off, none⟩) (fun i => val (i / sz) (i % sz)) (n * sz) 0 #[] (fun j hj => by
          have hsz : 0 < sz := Nat.pos_of_ne_zero (fun e => by subst e; simp at hj)
          have h1 : j / sz < n := Nat.div_lt_of_lt_mul (by rw [Nat.mul_comm]; exact hj)
          have h2 := (hs (j / sz) h1 (j % sz) (Nat.mod_lt _ hsz)).2
          rw [Nat.zero_add, Addr.add_lit]
          rw [Nat.add_assoc, Nat.mul_comm, Nat.div_add_mod] at h2
          exact h2)
        simpa using this
      · rw [hlen] at hi
        have hsz : 0 < sz := Nat.pos_of_ne_zero (fun e => by subst e; simp at hi)
        have h1 : i / sz < n := Nat.div_lt_of_lt_mul (by rw [Nat.mul_comm]; exact hi)
        have h2 := hr (i / sz) h1 (i % sz) (Nat.mod_lt _ hsz)
        have h3 := getD_flCells n hl (i / sz) (i % sz) h1 (Nat.mod_lt _ hsz)
        rw [Nat.mul_comm, Nat.div_add_mod] at h3
        rw [h3]
        simpa [hi] using h2
  · rename_i b off n' sz
    split at hc
    · rename_i k hk
      cases hc
      simp only [srcOk, hk] at ho
      obtain ⟨rfl, hle⟩ := ho
      cases hx with
      | os _ _ _ cap _ m hcap hm hb =>
        have hmem := Heap.find_mem hk
        obtain ⟨c, e, hbk, hl, hr⟩ := own.ok b k hmem (own.notMap hmem hm)
        refine ⟨by simp [Builtin.lenOf], ((List.range (n * sz)).map fun i => c.getD (off + i) undef).toArray, ?_, by simp [length_getN], length_getN _ _ _, fun i hi => ?_⟩
        · simp only [Builtin.firstCells, loadCells]
          have := run_loadCellsFrom (P := P) (w := w) (a := ⟨b, off, none⟩) (fun i => c.getD (off + i) undef) (n * sz) 0 #[] (fun j hj => by
            have hlt : off + j < c.size := by omega
            rw [Nat.zero_add, Addr.add_lit]
            simp [World.cell?, hbk, hlt])
          simpa using this
        · rw [length_getN] at hi
          rw [getD_getN _ _ _ _ hi]
          have := hr (off + i) (by omega)
          simpa [hi] using this
    · cases hc
  · cases hc
    cases hx
    exact ⟨by simp [Builtin.lenOf], #[], by simp [Builtin.firstCells], rfl, by simp, fun i hi => absurd hi (by simp)⟩
  · rename_i s
    cases hc
    cases hx
    unfold srcOk at ho
    subst ho
    refine ⟨by simp [Builtin.lenOf], s.data.map fun b => .int .u8 b.toNat, ?_, by rw [Array.size_map, List.length_map, Array.length_toList], by rw [List.length_map, Array.length_toList, Nat.mul_one]; rfl, fun i hi => ?_⟩
    · simp only [Builtin.firstCells, Sem.run_pure]
      congr 2
      have : s.extract 0 s.size = s := by simp
      rw [this]
    · have hi' : i < s.data.size := by simpa using hi
      simp only [List.getD_eq_getElem?_getD, List.getElem?_map, Array.getElem?_toList, Array.getElem?_eq_getElem hi', Option.map_some, Option.getD_some]
      rw [getD_toList]
      simp only [Array.toList_map, List.getD_eq_getElem?_getD, List.getElem?_map, Array.getElem?_toList, Array.getElem?_eq_getElem hi', Option.map_some, Option.getD_some]
      exact .sc _
  · cases hc
end
end Go.Ab
/-! Al: Append, run. -/
namespace Go.Ab
open Go.RowKit
theorem find_of_mem {h : Heap} {b : Nat} {k : Blk} (hn : (h.map (·.1)).Nodup) (hm : (b, k) ∈ h) : h.find b = some k := by
  induction h with
  | nil => cases hm
  | cons x r ih =>
    obtain ⟨c, k0⟩ := x
    rw [List.map_cons, List.nodup_cons] at hn
    simp only [Heap.find]
    rcases List.mem_cons.1 hm with hm | hm
    · cases hm; rw [if_pos rfl]
    · have : c ≠ b := fun e => hn.1 (has_map.1 ⟨k, e ▸ hm⟩)
      rw [if_neg this]
      exact ih hn.2 hm
theorem Blk.len_svs (cs : List SV) : (Blk.svs cs).len = cs.length := rfl
theorem setN_cells [Gl] : ∀ (cs : List SV) (k : Blk) (off : Nat), (setN k off cs).cells = setAll k.cells off cs
  | [], _, _ => rfl
  | c :: r, k, off => by rw [setN, setN_cells r, Blk.cells_set, setAll]
theorem setAll_fill [Gl] : ∀ (cs l r : List SV), r.length = cs.length → setAll (l ++ r) l.length cs = l ++ cs
  | [], l, r, h => by
    have : r = [] := by simpa using h
    subst this; rfl
  | c :: cs, l, [], h => by simp at h
  | c :: cs, l, x :: r, h => by
    rw [setAll]
    have e : (l ++ x :: r).set l.length c = (l ++ [c]) ++ r := by simp
    rw [e, show l.length + 1 = (l ++ [c]).length by simp, setAll_fill cs (l ++ [c]) r (by simpa using h)]
    simp
theorem setN_fill [Gl] (l cs : List SV) : (setN (Blk.svs (l ++ List.replicate cs.length .any)) l.length cs).cells = l ++ cs := by
  rw [setN_cells]
  exact setAll_fill cs l _ (by simp)
theorem growBy_le [Gl] (n : Nat) : ∀ r c, c ≤ n + (n + 768) / 4 → Builtin.growBy n r c ≤ n + (n + 768) / 4
  | 0, c, h => h
  | r + 1, c, h => by
    unfold Builtin.growBy
    split
    · exact h
    · exact growBy_le n r _ (by omega)
theorem nextcap_le [Gl] {need old : Nat} (h : old < need) : Builtin.nextslicecap need old ≤ 2 * need := by
  unfold Builtin.nextslicecap
  split
  · omega
  · split
    · omega
    · have := growBy_le need 4 old (by omega)
      omega
section
variable {P : Program} {M : Nat → Prop} {h : Heap} {w : World}
def drw (w : World) : World := { w with drawn := w.drawn + 1 }
theorem frm_drw (D : Nat → Prop) (w : World) : Frm D w (drw w) := ⟨Nat.le_refl _, fun _ _ _ => rfl, fun _ _ h => h, rfl, rfl, rfl, Nat.le_succ _⟩
theorem env_drw (X : Nat → Prop) (w : World) : (envOf X w).le (envOf X (drw w)) := ⟨fun _ _ h => h, fun _ _ h => h⟩
theorem Owns.drw [Gl] (own : Owns M h w) : Owns M h (drw w) :=
  ⟨own.nodup, own.notM, own.lt, fun b k hk hM => let ⟨c, e, h1, h2, h3⟩ := own.ok b k hk hM; ⟨c, e, h1, h2, fun i hi => (h3 i hi).mono (env_drw _ _)⟩, own.mp, own.gl.mono (env_drw _ _)⟩
theorem notInt_run {t : TypeId} (hn : notInt P t = true) : ∃ d, P.underlying t = some d ∧ (match d with | .int _ => true | _ => false) = false := by
  unfold notInt at hn
  split at hn
  · cases hn
  · rename_i d hd _
    refine ⟨d, by assumption, ?_⟩
    cases d <;> simp_all
  · cases hn
theorem run_choose_cap (need old e : Nat) : (choose (.appendCap need old e)).run P w = .ok (need + (w.tape w.drawn (.appendCap need old e)) % (2 ^ 63 - need)) (drw w) := by
  simp [Question.forced, Question.cut, drw]
theorem getD_append3 {a b c : Array Value} {i : Nat} : (a ++ b ++ c).getD i undef = if i < a.size then a.getD i undef else if i < a.size + b.size then b.getD (i - a.size) undef else c.getD (i - a.size - b.size) undef := by
  simp only [Array.getD_eq_getD_getElem?, Array.getElem?_append, Array.size_append]
  split
  · rename_i h
    split
    · rfl
    · rfl
  · rename_i h
    rw [if_neg (by omega)]
    congr 2
    omega
theorem grow_owns [Gl] (own : Owns M h w) {oc nc rest : Array Value} {e : TypeId} {os cs : List SV} {k' : Blk} (hkM : k'.isM = false) (hk : k'.cells = os ++ cs) (h1 : oc.size = os.length) (h2 : nc.size = cs.length)
    (r1 : ∀ i, i < os.length → Rep (envOf (hid M h) w) (oc.getD i undef) (os.getD i .any)) (r2 : ∀ i, i < cs.length → Rep (envOf (hid M h) w) (nc.getD i undef) (cs.getD i .any)) :
    Owns M (((drw w).heap.size, k') :: h) (alc (drw w) (oc ++ nc ++ rest) e) := by
  have hlen : k'.len = os.length + cs.length := by rw [← Blk.length_cells, hk, List.length_append]
  refine Owns.alc own.drw hkM (by simp; omega) (fun i hi => ?_)
  rw [← Blk.get_cells _ _ hi, hk, getD_append3]
  by_cases hio : i < os.length
  · rw [if_pos (by omega), List.getD_eq_getElem?_getD, List.getElem?_append_left hio, ← List.getD_eq_getElem?_getD]
    exact r1 i hio
  · rw [if_neg (by omega), if_pos (by omega), List.getD_eq_getElem?_getD, List.getElem?_append_right (by omega), ← List.getD_eq_getElem?_getD, h1]
    exact r2 _ (by omega)
theorem append_in [Gl] {st xt ty : TypeId} {u' : Value} {e n sLen sCap : Nat} {a : Addr} {i : TypeInfo} {c : Array Value} {w' : World} (hu : P.underlying st = some (.slice e)) (hin : P.info? e = some i) (hN : notInt P xt = true)
    (hlen : (Builtin.lenOf u').run P w = .ok n w) (hle : sLen + n ≤ sCap) (hc : (Builtin.firstCells i.size n u').run P w = .ok c w) (hst : (storeCells (a.add (sLen * i.size)) c.toList).run P w = .ok () w') :
    (Builtin.append_ #[st, xt] ty #[.slice (some a) sLen sCap, u']).run P w = .ok (.slice (some a) (sLen + n) sCap) w' := by
  obtain ⟨d, hd, hdi⟩ := notInt_run hN
  unfold Builtin.append_
  cases d <;> first | (simp at hdi; done) | skip
  all_goals
    simp only [Sem.run_bind, run_underlying hu, Result.andThen_ok, run_sizeOf_info hin, run_underlying hd, Sem.run_pure, hlen, Sem.run_ite, List.getElem?_toArray, List.getElem?_cons_zero, List.getElem?_cons_succ,
      Bool.false_eq_true, if_false, if_pos hle, Bool.not_false, if_true, hc, hst]
theorem append_grow [Gl] {st xt ty : TypeId} {u' : Value} {e n sLen sCap : Nat} {base : Option Addr} {i : TypeInfo} {zv : Value} {oc nc : Array Value} (hu : P.underlying st = some (.slice e)) (hin : P.info? e = some i) (hN : notInt P xt = true)
    (hlen : (Builtin.lenOf u').run P w = .ok n w) (hle : ¬ sLen + n ≤ sCap) (hzv : i.zero = some zv)
    (hmax : ¬ (((sLen + n : Nat) : Int) > IntKind.i64.max ∧ (False ∨ i.bytes = 0))) (hcap : ¬ Builtin.nextslicecap (sLen + n) sCap * i.bytes > 2 ^ 48)
    (ho : (Builtin.firstCells i.size sLen (.slice base sLen sCap)).run P (drw w) = .ok oc (drw w)) (hn : (Builtin.firstCells i.size n u').run P (drw w) = .ok nc (drw w)) :
    ∃ newCap, sLen + n ≤ newCap ∧ (Builtin.append_ #[st, xt] ty #[.slice base sLen sCap, u']).run P w =
      .ok (.slice (some ⟨w.heap.size, 0, none⟩) (sLen + n) newCap) (alc (drw w) (oc ++ nc ++ Builtin.zeroCells zv.cells (newCap - (sLen + n))) e) := by
  obtain ⟨d, hd, hdi⟩ := notInt_run hN
  refine ⟨sLen + n + (w.tape w.drawn (.appendCap (sLen + n) sCap e)) % (2 ^ 63 - (sLen + n)), by omega, ?_⟩
  have hti : ∀ w, (typeInfo e).run P w = .ok i w := fun w => run_typeInfo hin w
  have hz := fun w => run_zeroValue (P := P) (w := w) hin hzv
  unfold Builtin.append_
  cases d <;> first | (simp at hdi; done) | skip
  all_goals
    simp only [Sem.run_bind, run_underlying hu, Result.andThen_ok, run_sizeOf_info hin, run_underlying hd, Sem.run_pure, hlen, Sem.run_ite, List.getElem?_toArray, List.getElem?_cons_zero, List.getElem?_cons_succ,
      Bool.false_eq_true, if_false, if_neg hle, Bool.not_false, if_true, hti, if_neg hmax, if_neg hcap, run_choose_cap, run_askRoom, ho, hn, hz, newRow, run_newObj]
    rfl
structure AppHyp (P : Program) (M : Nat → Prop) (h : Heap) (w : World) (st xt : TypeId) (u' : Value) (x : SV) (e size bytes n : Nat) (z : List Value) (cs : List SV) : Prop where
  hx : Rep (envOf (hid M h) w) u' x
  hL : slk P st = some (e, size, bytes)
  hZ : zk P e = some z
  hN : notInt P xt = true
  hc : srcCells x h = some (n, cs)
  ho : srcOk size x h
  hz : z.length = size
  h0 : 0 < size
theorem append_nil [Gl] {st xt ty : TypeId} {u' : Value} {x : SV} {e size bytes n : Nat} {z : List Value} {cs : List SV} (own : Owns M h w) (A : AppHyp P M h w st xt u' x e size bytes n z cs)
    (hb : n * bytes ≤ 140737488355328) (hn : n ≤ 140737488355328) (hpos : 0 < n) :
    ∃ r c, (Builtin.append_ #[st, xt] ty #[.slice none 0 0, u']).run P w = .ok r (alc (drw w) c e) ∧ Owns M ((w.heap.size, newB cs) :: h) (alc (drw w) c e) ∧
      Rep (envOf (hid M ((w.heap.size, newB cs) :: h)) (alc (drw w) c e)) r (.os w.heap.size 0 n size) ∧
      ∃ cap, r = .slice (some ⟨w.heap.size, 0, none⟩) n cap ∧ n ≤ cap ∧ HasSize (alc (drw w) c e) w.heap.size (cap * size, some e) := by
  obtain ⟨hx, hL, hZ, hN, hc, ho, hz, h0⟩ := A
  obtain ⟨i, hu, hin, rfl, rfl⟩ := slk_spec hL
  obtain ⟨i', zv, hi', hzv, rfl⟩ := zk_spec hZ
  rw [hin] at hi'; cases hi'
  have hlen := (src_sound (P := P) own hx hc ho).1
  obtain ⟨nc, hcr, hcs, hcn, hcrep⟩ := (src_sound (P := P) (w := drw w) own.drw (hx.mono (env_drw _ _)) hc ho).2
  have hsz : zv.cells.size = i.size := by simpa using hz
  obtain ⟨newCap, hge, hrun⟩ := append_grow (ty := ty) (base := none) (sLen := 0) (sCap := 0) (oc := #[]) (nc := nc) hu hin hN hlen (by omega) hzv (by rw [IntKind.max_i64]; omega)
    (by
      have h1 := nextcap_le (need := 0 + n) (old := 0) (by omega)
      have h2 := Nat.mul_le_mul_right i.bytes h1
      rw [Nat.mul_assoc, Nat.zero_add] at h2
      rw [Nat.zero_add]
      omega)
    (by simp [Builtin.firstCells]) hcr
  rw [Nat.zero_add] at hge hrun
  have own' := grow_owns (oc := #[]) (nc := nc) (rest := Builtin.zeroCells zv.cells (newCap - n)) (e := e) (os := []) (cs := cs) (k' := newB cs) own (isM_newB cs) (by rw [newB_cells]; rfl) rfl hcs
    (fun i hi => absurd hi (by simp)) (fun i hi => (hcrep i hi).mono ⟨fun _ _ h => h, fun _ _ h => h⟩)
  have hcsz : (#[] ++ nc ++ Builtin.zeroCells zv.cells (newCap - n)).size = newCap * i.size := by
    simp only [Builtin.zeroCells, Array.size_append, Array.size_map, Array.size_range, hcs, hcn, hsz, Array.size_empty, Nat.zero_add]
    rw [← Nat.add_mul]
    congr 1
    omega
  exact ⟨_, _, hrun, own', .os _ 0 _ _ _ _ hge ⟨_, _, _, heap_alc_new, rfl, .inl rfl⟩ (by rw [Nat.zero_add]; exact Nat.le_of_eq hcsz.symm), newCap, rfl, hge, _, _, _, heap_alc_new, hcsz, .inr rfl⟩
theorem append_os [Gl] {st xt ty : TypeId} {u u' : Value} {x : SV} {e size bytes n b len : Nat} {z : List Value} {cs : List SV} {k : Blk} (own : Owns M h w) (A : AppHyp P M h w st xt u' x e size bytes n z cs)
    (hs : Rep (envOf (hid M h) w) u (.os b 0 len size)) (hk : (b, k) ∈ h) (hlk : len * size = k.len) (hone : cs.all single = true)
    (hb : (len + n) * bytes ≤ 140737488355328) (hn : len + n ≤ 140737488355328) :
    ∃ r w' b', (Builtin.append_ #[st, xt] ty #[u, u']).run P w = .ok r w' ∧ fresh (h.del b) b' ∧ Owns M (h.ren b b' (appB k cs)) w' ∧ Frm (fun c => c = b) w w' ∧
      Rep (envOf (hid M (h.ren b b' (appB k cs))) w') r (.os b' 0 (len + n) size) ∧ (b' = b ∨ w.heap.size ≤ b') ∧
      ∀ cap0, u = .slice (some ⟨b, 0, none⟩) len cap0 → HasSize w b (cap0 * size, some e) → ∃ cap, r = .slice (some ⟨b', 0, none⟩) (len + n) cap ∧ len + n ≤ cap ∧ HasSize w' b' (cap * size, some e) := by
  obtain ⟨hx, hL, hZ, hN, hc, ho, hz, h0⟩ := A
  obtain ⟨i, hu, hin, rfl, rfl⟩ := slk_spec hL
  obtain ⟨i', zv, hi', hzv, rfl⟩ := zk_spec hZ
  rw [hin] at hi'; cases hi'
  have hsz : zv.cells.size = i.size := by simpa using hz
  obtain ⟨hlen, nc, hcr, hcs, hcn, hcrep⟩ := src_sound (P := P) own hx hc ho
  have hkM : k.isM = false := by
    cases hs with
    | os _ _ _ cap _ m hcap hm hbm => exact own.notMap hk hm
  obtain ⟨cb, eb, hheap, hkl, hkr⟩ := own.ok b k hk hkM
  generalize hsv : SV.os b 0 len i.size = sv at hs
  cases hs <;> first | (cases hsv; done) | skip
  rename_i b0 off0 len0 cap sz0 m hcap hm hbm
  cases hsv
  have hmc : m = cb.size := size_unique hm ⟨cb, eb, _, hheap, rfl, .inl rfl⟩
  by_cases hle : len + n ≤ cap
  · have hroom : (len + n) * i.size ≤ cap * i.size := Nat.mul_le_mul_right _ hle
    rw [Nat.add_mul] at hroom
    have hext : Owns M (h.upd b (.svs (k.cells ++ List.replicate (n * i.size) .any))) w := own.recell hk rfl hheap (by simp only [Blk.len_svs, List.length_append, List.length_replicate, Blk.length_cells]; omega) (fun j hj => by
      simp only [Blk.len_svs, List.length_append, List.length_replicate, Blk.length_cells] at hj
      simp only [Blk.get]
      by_cases hjk : j < k.len
      · rw [List.getD_eq_getElem?_getD, List.getElem?_append_left (by rw [Blk.length_cells]; exact hjk), ← List.getD_eq_getElem?_getD, Blk.get_cells _ _ hjk]
        exact hkr j hjk
      · rw [List.getD_eq_getElem?_getD, List.getElem?_append_right (by rw [Blk.length_cells]; omega), ← List.getD_eq_getElem?_getD]
        rw [show (List.replicate (n * i.size) SV.any).getD (j - k.cells.length) .any = .any by simp [List.getD_eq_getElem?_getD, List.getElem?_replicate]; split <;> rfl]
        exact .any _)
    have hhid : hid M (h.upd b (.svs (k.cells ++ List.replicate (n * i.size) .any))) = hid M h := hid_upd
    obtain ⟨w', hrun, own', frm⟩ := storeCells_run (P := P) nc.toList cs (len * i.size) 0 w _ _ hext (mem_upd_self hk) (by simpa using hcs)
      (by simp only [Blk.len_svs, List.length_append, List.length_replicate, Blk.length_cells]; omega) (fun j hj => by rw [hhid, ← getD_toList]; exact hcrep j hj)
      (fun j hj => by rw [← getD_toList]; exact (single_spec (hcrep j hj) (all_mem hone hj)).1)
    rw [upd_upd] at own'
    have hcells : (setN (Blk.svs (k.cells ++ List.replicate (n * i.size) .any)) (len * i.size + 0) cs).cells = (appB k cs).cells := by
      rw [appB_cells, Nat.add_zero, hlk, ← Blk.length_cells k, ← hcn]
      exact setN_fill k.cells cs
    have own2 := own'.cells (k' := appB k cs) (mem_upd_self hk) hcells.symm (isM_setN rfl _ _) (isM_appB k cs)
    rw [upd_upd] at own2
    refine ⟨.slice (some ⟨b, 0, none⟩) (len + n) cap, w', b, ?_, fresh_of (del_not own.nodup), by rw [ren_self]; exact own2, frm, ?_, .inl rfl, fun cap0 hu0 hs0 => by
      cases hu0
      exact ⟨cap, rfl, hle, frm.sizes _ _ hs0⟩⟩
    · refine append_in hu hin hN hlen hle hcr ?_
      rw [Addr.add_lit, Nat.zero_add]
      exact hrun
    · exact .os _ 0 _ _ _ m hle (frm.sizes _ _ hm) hbm
  · obtain ⟨nc, hcr, hcs, hcn, hcrep⟩ := (src_sound (P := P) (w := drw w) own.drw (hx.mono (env_drw _ _)) hc ho).2
    have hsl : Rep (envOf (hid M h) (drw w)) (.slice (some ⟨b, 0, none⟩) len cap) (.os b 0 len i.size) := .os _ 0 _ _ _ m hcap hm hbm
    have hfind : h.find b = some k := find_of_mem own.nodup hk
    obtain ⟨oc, hor, hos, hon, horep⟩ := (src_sound (P := P) (w := drw w) own.drw hsl (n := len) (size := i.size) (cs := getN k 0 (len * i.size)) (by simp [srcCells, hfind]) (by simp [srcOk, hfind]; omega)).2
    obtain ⟨newCap, hge, hrun⟩ := append_grow (ty := ty) (base := some ⟨b, 0, none⟩) (sLen := len) (sCap := cap) (oc := oc) (nc := nc) hu hin hN hlen hle hzv (by rw [IntKind.max_i64]; omega)
      (by
        have h1 := nextcap_le (need := len + n) (old := cap) (by omega)
        have h2 := Nat.mul_le_mul_right i.bytes h1
        rw [Nat.mul_assoc] at h2
        omega)
      hor hcr
    have hkc : getN k 0 (len * i.size) = k.cells := by
      rw [hlk]
      refine List.ext_getElem? (fun j => ?_)
      by_cases hj : j < k.len
      · have h1 := getD_getN k k.len 0 j hj
        have h2 := Blk.get_cells k j hj
        rw [getD_list _ _ _ (by rw [length_getN]; exact hj)] at h1
        rw [getD_list _ _ _ (by rw [Blk.length_cells]; exact hj)] at h2
        rw [List.getElem?_eq_getElem (by rw [length_getN]; exact hj), List.getElem?_eq_getElem (by rw [Blk.length_cells]; exact hj), h1, h2, Nat.zero_add]
      · rw [List.getElem?_eq_none (by rw [length_getN]; omega), List.getElem?_eq_none (by rw [Blk.length_cells]; omega)]
    rw [hkc] at hos horep
    have own' := grow_owns (oc := oc) (nc := nc) (rest := Builtin.zeroCells zv.cells (newCap - (len + n))) (e := e) (os := k.cells) (cs := cs) (k' := appB k cs) own (isM_appB k cs) (appB_cells k cs) hos hcs
      (fun i hi => (horep i hi).mono ⟨fun _ _ h => h, fun _ _ h => h⟩) (fun i hi => (hcrep i hi).mono ⟨fun _ _ h => h, fun _ _ h => h⟩)
    have hnew : ¬ h.has w.heap.size := fun hh => Nat.lt_irrefl _ (own.has_lt hh)
    have own2 := own'.sub (h' := h.ren b w.heap.size (appB k cs)) (nodup_ren own.nodup (fun hm => hnew (has_map.2 hm))) (fun x hx => by
      rcases mem_ren hx with rfl | hx
      · exact List.mem_cons_self
      · exact List.mem_cons_of_mem _ (mem_del hx))
    have hcsz : (oc ++ nc ++ Builtin.zeroCells zv.cells (newCap - (len + n))).size = newCap * i.size := by
      simp only [Builtin.zeroCells, Array.size_append, Array.size_map, Array.size_range, hcs, hcn, hos, hsz, Blk.length_cells, ← hlk]
      rw [← Nat.add_mul, ← Nat.add_mul]
      congr 1
      omega
    refine ⟨_, _, w.heap.size, hrun, fresh_of (fun ⟨k', hk'⟩ => hnew ⟨k', mem_del hk'⟩), own2, ?_, ?_, .inr (Nat.le_refl _), fun _ _ _ => ⟨newCap, rfl, hge, _, _, _, heap_alc_new, hcsz, .inr rfl⟩⟩
    · exact (frm_drw (fun c => c = b) w).trans (frm_alc (w := drw w) _ _) (fun _ _ x => x.elim)
    · exact .os _ 0 _ _ _ _ hge ⟨_, _, _, heap_alc_new, rfl, .inl rfl⟩ (by rw [Nat.zero_add]; exact Nat.le_of_eq hcsz.symm)
theorem append_cut [Gl] {st xt ty : TypeId} {u u' : Value} {x : SV} {e size bytes n b len : Nat} {z : List Value} {cs : List SV} {k kc : Blk} (own : Owns M h w) (A : AppHyp P M h w st xt u' x e size bytes n z cs)
    (hs : Rep (envOf (hid M h) w) u (.os b 0 len size)) (hk : (b, k) ∈ h) (hlk : len * size ≤ k.len) (hkc : kc.cells = getN k 0 (len * size)) (hone : cs.all single = true)
    (hb : (len + n) * bytes ≤ 140737488355328) (hn : len + n ≤ 140737488355328) :
    ∃ r w' b', (Builtin.append_ #[st, xt] ty #[u, u']).run P w = .ok r w' ∧ fresh (h.del b) b' ∧ Owns M (h.ren b b' (appB kc cs)) w' ∧ Frm (fun c => c = b) w w' ∧
      Rep (envOf (hid M (h.ren b b' (appB kc cs))) w') r (.os b' 0 (len + n) size) ∧ (b' = b ∨ w.heap.size ≤ b') := by
  obtain ⟨hx, hL, hZ, hN, hc, ho, hz, h0⟩ := A
  obtain ⟨i, hu, hin, rfl, rfl⟩ := slk_spec hL
  obtain ⟨i', zv, hi', hzv, rfl⟩ := zk_spec hZ
  rw [hin] at hi'; cases hi'
  have hsz : zv.cells.size = i.size := by simpa using hz
  obtain ⟨hlen, nc, hcr, hcs, hcn, hcrep⟩ := src_sound (P := P) own hx hc ho
  have hkM : k.isM = false := by
    cases hs with
    | os _ _ _ cap _ m hcap hm hbm => exact own.notMap hk hm
  obtain ⟨cb, eb, hheap, hkl, hkr⟩ := own.ok b k hk hkM
  have hfind : h.find b = some k := find_of_mem own.nodup hk
  generalize hg : getN k 0 (len * i.size) = old at *
  have hcel : (appB kc cs).cells = old ++ cs := by rw [appB_cells, hkc]
  have hol : old.length = len * i.size := by rw [← hg, length_getN]
  have hog : ∀ j, j < old.length → old.getD j .any = k.get j := fun j hj => by
    rw [← hg]
    have := getD_getN k (len * i.size) 0 j (by omega)
    rw [Nat.zero_add] at this
    exact this
  generalize hsv : SV.os b 0 len i.size = sv at hs
  cases hs <;> first | (cases hsv; done) | skip
  rename_i b0 off0 len0 cap sz0 m hcap hm hbm
  cases hsv
  have hmc : m = cb.size := size_unique hm ⟨cb, eb, _, hheap, rfl, .inl rfl⟩
  by_cases hle : len + n ≤ cap
  · have hroom : (len + n) * i.size ≤ cap * i.size := Nat.mul_le_mul_right _ hle
    rw [Nat.add_mul] at hroom
    have hext : Owns M (h.upd b (.svs (old ++ List.replicate (n * i.size) .any))) w := own.recell hk rfl hheap (by simp only [Blk.len_svs, List.length_append, List.length_replicate]; omega) (fun j hj => by
      simp only [Blk.len_svs, List.length_append, List.length_replicate] at hj
      simp only [Blk.get]
      by_cases hjk : j < old.length
      · rw [List.getD_eq_getElem?_getD, List.getElem?_append_left hjk, ← List.getD_eq_getElem?_getD, hog j hjk]
        exact hkr j (by omega)
      · rw [List.getD_eq_getElem?_getD, List.getElem?_append_right (by omega), ← List.getD_eq_getElem?_getD]
        rw [show (List.replicate (n * i.size) SV.any).getD (j - old.length) .any = .any by simp [List.getD_eq_getElem?_getD, List.getElem?_replicate]; split <;> rfl]
        exact .any _)
    have hhid : hid M (h.upd b (.svs (old ++ List.replicate (n * i.size) .any))) = hid M h := hid_upd
    obtain ⟨w', hrun, own', frm⟩ := storeCells_run (P := P) nc.toList cs (len * i.size) 0 w _ _ hext (mem_upd_self hk) (by simpa using hcs)
      (by simp only [Blk.len_svs, List.length_append, List.length_replicate]; omega) (fun j hj => by rw [hhid, ← getD_toList]; exact hcrep j hj)
      (fun j hj => by rw [← getD_toList]; exact (single_spec (hcrep j hj) (all_mem hone hj)).1)
    rw [upd_upd] at own'
    have hcells : (setN (Blk.svs (old ++ List.replicate (n * i.size) .any)) (len * i.size + 0) cs).cells = (appB kc cs).cells := by
      rw [hcel, Nat.add_zero, ← hol, ← hcn]
      exact setN_fill old cs
    have own2 := own'.cells (k' := appB kc cs) (mem_upd_self hk) hcells.symm (isM_setN rfl _ _) (isM_appB _ cs)
    rw [upd_upd] at own2
    refine ⟨.slice (some ⟨b, 0, none⟩) (len + n) cap, w', b, ?_, fresh_of (del_not own.nodup), by rw [ren_self]; exact own2, frm, ?_, .inl rfl⟩
    · refine append_in hu hin hN hlen hle hcr ?_
      rw [Addr.add_lit, Nat.zero_add]
      exact hrun
    · exact .os _ 0 _ _ _ m hle (frm.sizes _ _ hm) hbm
  · obtain ⟨nc, hcr, hcs, hcn, hcrep⟩ := (src_sound (P := P) (w := drw w) own.drw (hx.mono (env_drw _ _)) hc ho).2
    have hsl : Rep (envOf (hid M h) (drw w)) (.slice (some ⟨b, 0, none⟩) len cap) (.os b 0 len i.size) := .os _ 0 _ _ _ m hcap hm hbm
    obtain ⟨oc, hor, hos, hon, horep⟩ := (src_sound (P := P) (w := drw w) own.drw hsl (n := len) (size := i.size) (cs := old) (by simp [srcCells, hfind, hg]) (by simp [srcOk, hfind]; omega)).2
    obtain ⟨newCap, hge, hrun⟩ := append_grow (ty := ty) (base := some ⟨b, 0, none⟩) (sLen := len) (sCap := cap) (oc := oc) (nc := nc) hu hin hN hlen hle hzv (by rw [IntKind.max_i64]; omega)
      (by
        have h1 := nextcap_le (need := len + n) (old := cap) (by omega)
        have h2 := Nat.mul_le_mul_right i.bytes h1
        rw [Nat.mul_assoc] at h2
        omega)
      hor hcr
    have own' := grow_owns (oc := oc) (nc := nc) (rest := Builtin.zeroCells zv.cells (newCap - (len + n))) (e := e) (os := old) (cs := cs) (k' := appB kc cs) own (isM_appB _ cs) hcel hos hcs
      (fun i hi => (horep i hi).mono ⟨fun _ _ h => h, fun _ _ h => h⟩) (fun i hi => (hcrep i hi).mono ⟨fun _ _ h => h, fun _ _ h => h⟩)
    have hnew : ¬ h.has w.heap.size := fun hh => Nat.lt_irrefl _ (own.has_lt hh)
    have own2 := own'.sub (h' := h.ren b w.heap.size (appB kc cs)) (nodup_ren own.nodup (fun hm => hnew (has_map.2 hm))) (fun x hx => by
      rcases mem_ren hx with rfl | hx
      · exact List.mem_cons_self
      · exact List.mem_cons_of_mem _ (mem_del hx))
    have hcsz : (oc ++ nc ++ Builtin.zeroCells zv.cells (newCap - (len + n))).size = newCap * i.size := by
      simp only [Builtin.zeroCells, Array.size_append, Array.size_map, Array.size_range, hcs, hcn, hos, hsz, hol]
      rw [← Nat.add_mul, ← Nat.add_mul]
      congr 1
      omega
    refine ⟨_, _, w.heap.size, hrun, fresh_of (fun ⟨k', hk'⟩ => hnew ⟨k', mem_del hk'⟩), own2, ?_, ?_, .inr (Nat.le_refl _)⟩
    · exact (frm_drw (fun c => c = b) w).trans (frm_alc (w := drw w) _ _) (fun _ _ x => x.elim)
    · exact .os _ 0 _ _ _ _ hge ⟨_, _, _, heap_alc_new, rfl, .inl rfl⟩ (by rw [Nat.zero_add]; exact Nat.le_of_eq hcsz.symm)
end
end Go.Ab
/-! Am: One operation, and a region in the order of its text. -/
namespace Go.Ab
open Go.RowKit
def dstOk (N : Nat) (d : Option Tmp) : Prop := match d with
  | some i => i < N
  | none => True
def storeK (T : Option (Bool × Nat)) (a : SV) (cs : Option (List SV)) (dst : Option Tmp) (K : St → Prop) (S : St) : Prop :=
  match T, a, cs with
  | some (_, n), .op b off, some cs => match S.h.find b with
    | some k => cs.length = n ∧ off + n ≤ k.len ∧ K ((⟨S.t, S.h.upd b (setN k off cs)⟩ : St).put dst .any)
    | none => False
  | _, _, _ => False
def allF (h : Heap) (F : Nat → Prop) : Prop := ∀ b, fresh h b → F b
def callK [Gl] (P : Program) (f : SV) (args : List SV) (dst : Option Tmp) (K : St → Prop) (S : St) : Prop :=
  match f with
  | .fn (.func g) first captured => Call P g (first ++ args ++ captured) S.h (fun r h' => K ((⟨S.t, h'⟩ : St).put dst r))
  | _ => False
def appNilK (n bytes size : Nat) (cs : List SV) (dst : Option Tmp) (K : St → Prop) (S : St) : Prop :=
  n * bytes ≤ 140737488355328 ∧ n ≤ 140737488355328 ∧ (n = 0 → K (S.put dst (.sc (.slice none 0 0)))) ∧
    (0 < n → allF S.h fun b => K ((⟨S.t, (b, newB cs) :: S.h⟩ : St).put dst (.os b 0 n size)))
def appOsK (n bytes size b off len sz : Nat) (cs : List SV) (dst : Option Tmp) (K : St → Prop) (S : St) : Prop :=
  match S.h.find b with
  | some k => off = 0 ∧ sz = size ∧ len * sz = k.len ∧ (len + n) * bytes ≤ 140737488355328 ∧ len + n ≤ 140737488355328 ∧
      allF (S.h.del b) fun b' => K ((⟨S.t, S.h.ren b b' (appB k cs)⟩ : St).put dst (.os b' 0 (len + n) sz))
  | none => False
def appNtK (e : TypeId) (n bytes size : Nat) (cs : List SV) (dst : Option Tmp) (K : St → Prop) (S : St) : Prop :=
  size = 1 ∧ n * bytes ≤ 140737488355328 ∧ n ≤ 140737488355328 ∧ (n = 0 → K (S.put dst .nt)) ∧
    (0 < n → allF S.h fun b => K ((⟨S.t, (b, newB cs) :: S.h⟩ : St).put dst (.ot b n e)))
def appOtK (e : TypeId) (n bytes size b len : Nat) (e' : TypeId) (cs : List SV) (dst : Option Tmp) (K : St → Prop) (S : St) : Prop :=
  match S.h.find b with
  | some k => e' = e ∧ size = 1 ∧ len = k.len ∧ (len + n) * bytes ≤ 140737488355328 ∧ len + n ≤ 140737488355328 ∧
      allF (S.h.del b) fun b' => K ((⟨S.t, S.h.ren b b' (appB k cs)⟩ : St).put dst (.ot b' (len + n) e))
  | none => False
def appK (L : Option (TypeId × Nat × Nat)) (Z : Option (List Value)) (ni : Bool) (s x : SV) (dst : Option Tmp) (K : St → Prop) (S : St) : Prop :=
  match L, Z, srcCells x S.h with
  | some (e, size, bytes), some z, some (n, cs) => ni = true ∧ srcOk size x S.h ∧ cs.all single = true ∧ z.length = size ∧ 0 < size ∧
    (match s with
    | .sc (.slice none 0 0) => appNilK n bytes size cs dst K S
    | .os b off len sz => appOsK n bytes size b off len sz cs dst K S
    | .nt => appNtK e n bytes size cs dst K S
    | .ot b len e' => appOtK e n bytes size b len e' cs dst K S
    | _ => False)
  | _, _, _ => False
def sameB : SV → SV → Bool
  | .os b _ _ _, .os c o _ _ => Nat.beq b c && !(Nat.beq o 0)
  | _, _ => false
def cutB (k : Blk) (m : Nat) : Blk := bif Nat.beq m k.len then k else .svs (getN k 0 m)
def appCK (L : Option (TypeId × Nat × Nat)) (Z : Option (List Value)) (s x : SV) (dst : Option Tmp) (K : St → Prop) (S : St) : Prop :=
  ∃ e size bytes z n cs b len k, L = some (e, size, bytes) ∧ Z = some z ∧ srcCells x S.h = some (n, cs) ∧ srcOk size x S.h ∧ cs.all single = true ∧ z.length = size ∧ 0 < size ∧ s = .os b 0 len size ∧ S.h.find b = some k ∧
    len * size ≤ k.len ∧ (len + n) * bytes ≤ 140737488355328 ∧ len + n ≤ 140737488355328 ∧
      allF (S.h.del b) fun b' => K ((⟨S.t, S.h.ren b b' (appB (cutB k (len * size)) cs)⟩ : St).put dst (.os b' 0 (len + n) size))
def appX (L : Option (TypeId × Nat × Nat)) (Z : Option (List Value)) (s x : SV) (dst : Option Tmp) (K : St → Prop) (S : St) : Prop :=
  bif sameB s x then appCK L Z s x dst K S else appK L Z true s x dst K S
def appZK (L : Option (TypeId × Nat × Nat)) (Z : Option (List Value)) (s x : SV) (dst : Option Tmp) (K : St → Prop) (S : St) : Prop :=
  match L, Z, s, x with
  | some (_, size, bytes), some z, .sc (.slice none 0 0), .sc (.int .i64 n) => z.length = size ∧ 0 < size ∧ 0 < n ∧ n * bytes ≤ 140737488355328 ∧ n ≤ 140737488355328 ∧
      allF S.h fun b => K ((⟨S.t, (b, zeros z n.toNat) :: S.h⟩ : St).put dst (.os b 0 n.toNat size))
  | _, _, _, _ => False
def strBytes (s : ByteArray) : SV := .fl s.size 1 (fun i => [.sc (.int .u8 ((s.data.toList.getD i 0).toNat : Int))])
def strK (P : Program) (st d : TypeId) (x : SV) (dst : Option Tmp) (K : St → Prop) (S : St) : Prop :=
  match x with
  | .sc (.string s) => (P.underlying st).isSome = true ∧ bsl P d = true ∧ K (S.put dst (strBytes s))
  | _ => False
def ifcK (P : Program) (t : TypeId) (x : SV) (dst : Option Tmp) (K : St → Prop) (S : St) : Prop :=
  match x with
  | .sc v => P.concrete t = true ∧ K (S.put dst (.sc (.iface t v)))
  | _ => False
def isMp (P : Program) (t : TypeId) : Bool := match P.underlying t with | some (.map _ _) => true | _ => false
def hintOk (r : Option SV) : Bool := match r with
  | none => true
  | some (.sc (.int _ _)) => true
  | _ => false
def mkmK (i : Bool) (r : Option SV) (dst : Option Tmp) (K : St → Prop) (S : St) : Prop :=
  i = true ∧ hintOk r = true ∧ allF S.h fun b => K ((⟨S.t, (b, .mp []) :: S.h⟩ : St).put dst (.mp b))
def mputR (b : Nat) (l : List (Value × Value)) (a v : Value) (r : Option (Option (Nat × Value))) (dst : Option Tmp) (K : St → Prop) (S : St) : Prop := match r with
  | some r => K ((⟨S.t, S.h.upd b (.mp (mset a v l r))⟩ : St).put dst .any)
  | none => False
def mputK (T : Option (KK × Value)) (m k x : SV) (dst : Option Tmp) (K : St → Prop) (S : St) : Prop := match T, m, k, x with
  | some (c, _), .mp b, .sc a, .sc v => match S.h.find b with
    | some (.mp l) => kkOk c a = true ∧ mputR b l a v (mfI c a l 0) dst K S
    | _ => False
  | _, _, _, _ => False
def mdelR (b : Nat) (l : List (Value × Value)) (r : Option (Option (Nat × Value))) (dst : Option Tmp) (K : St → Prop) (S : St) : Prop := match r with
  | some r => K ((⟨S.t, S.h.upd b (.mp (mdel l r))⟩ : St).put dst .any)
  | none => False
def mdelK (T : Option (KK × Value)) (m k : SV) (dst : Option Tmp) (K : St → Prop) (S : St) : Prop := match T, m, k with
  | some (c, _), .mp b, .sc a => match S.h.find b with
    | some (.mp l) => kkOk c a = true ∧ mdelR b l (mfI c a l 0) dst K S
    | _ => False
  | _, _, _ => False
def effK [Gl] (P : Program) (op : Op) (dst : Option Tmp) (K : St → Prop) (S : St) : Prop :=
  match op with
  | .makeMap t r => mkmK (isMp P t) (r.map S.ev) dst K S
  | .mapUpdate t m k x => mputK (mtk P t) (S.ev m) (S.ev k) (S.ev x) dst K S
  | .insert t m k x => mputK (mtk P t) (S.ev m) (S.ev k) (S.ev x) dst K S
  | .call ⟨.builtin .delete, ⟨[m, k]⟩, ⟨[t, _]⟩⟩ => mdelK (mtk P t) (S.ev m) (S.ev k) dst K S
  | .makeInterface t x => ifcK P t (S.ev x) dst K S
  | .convert st d x => strK P st d (S.ev x) dst K S
  | .store t a v => storeK (tk P t) (S.ev a) (svCells (S.ev v)) dst K S
  | .call ⟨.value f, args, _⟩ => callK P (S.ev f) (args.toList.map S.ev) dst K S
  | .call ⟨.builtin .append, ⟨[s, x]⟩, ⟨[st, xt]⟩⟩ => bif notInt P xt then appX (slk P st) (elemZ P st) (S.ev s) (S.ev x) dst K S
      else bif (ik P xt).isSome then appZK (slk P st) (elemZ P st) (S.ev s) (S.ev x) dst K S else False
  | _ => False
def resK (R : VRes) (dst : Option Tmp) (E : Prop) (K : St → Prop) (S : St) : Prop :=
  match R with
  | .ok pre v => pre ∧ K (S.put dst v)
  | .new pre k mk => pre ∧ allF S.h fun b => K ((⟨S.t, (b, k) :: S.h⟩ : St).put dst (mk b))
  | .bad => E
def stepK [Gl] (P : Program) (N : Nat) (o : Oper) (K : St → Prop) (S : St) : Prop :=
  dstOk N o.dst ∧ resK (valOp P o.op S.ev S.h) o.dst (effK P o.op o.dst K S) K S
section
variable {P : Program} {M : Nat → Prop} {w0 : World} {D : Nat → Prop} {N : Nat} {S : St} {a : Act} {w : World}
theorem Rel.put' [Gl] {S : St} (h : Rel M w0 D N S a w) {d : Option Tmp} (hd : dstOk N d) {v : Value} {s : SV} (hv : Rep (envOf (hid M S.h) w) v s) : Rel M w0 D N (S.put d s) (a.put d v) w :=
  h.put (fun i hi => by subst hi; exact hd) hv
theorem Rel.fresh_not [Gl] (hr : Rel M w0 D N S a w) : ¬ S.h.has w.heap.size := fun hh => Nat.lt_irrefl _ (hr.own.has_lt hh)
def After [Gl] (M : Nat → Prop) (w0 : World) (D : Nat → Prop) (N : Nat) (K : St → Prop) : Act → World → Prop := fun a' w' => ∃ S', K S' ∧ Rel M w0 D N S' a' w'
theorem rep_ops [Gl] {a : Act} (hr : Rel M w0 D N S a w) (xs : Array Operand) : Reps (envOf (hid M S.h) w) (xs.map a.eval) (xs.toList.map S.ev) := ops_rep hr.ev xs
theorem run_callFunc {f : FuncId} {fn : Func} {args : Array Value} (hf : P.funcs[f]? = some fn) (hb : fn.body.isNone = false) (hn : (fn.name == "runtime.NumGoroutine") = false) :
    (callFunc f args).run P w = .ok (.enter f args) w := by
  have hb' : ¬ (fn.body.isNone = true) := by rw [hb]; simp
  have hn' : ¬ ((fn.name == "runtime.NumGoroutine") = true) := by rw [hn]; simp
  unfold callFunc
  simp only [Sem.run_bind, run_program, Result.andThen_ok, hf, if_neg hn', if_neg hb', Sem.run_pure]
theorem storeK_sound [Gl] {o : Oper} {K : St → Prop} {Q : Exit → Act → World → Prop} {t : TypeId} {x y : Operand} (hop : o.op = .store t x y) (hd : dstOk N o.dst)
    (hr : Rel M w0 D N S a w) (h : storeK (tk P t) (S.ev x) (svCells (S.ev y)) o.dst K S) : o.wp P a w (After M w0 D N K) Q := by
  unfold storeK at h
  split at h
  · rename_i g n b off cs hT hx hcs
    split at h
    · rename_i k hk
      obtain ⟨hl, hle, hK⟩ := h
      have hxr := hr.ev x
      rw [hx] at hxr
      generalize hxv : a.eval x = xv at hxr
      cases hxr with
      | op _ _ =>
        obtain ⟨h1, h2, h3⟩ := svCells_spec (hr.ev y) hcs
        have hm := Heap.find_mem hk
        obtain ⟨w', hrun, own', frm⟩ := storeCells_run (P := P) (a.eval y).cells.toList cs off 0 w S.h k hr.own hm (by simpa using h1) (by omega)
          (fun j hj => by rw [← getD_toList]; exact h2 j hj) (fun j hj => by rw [← getD_toList]; exact h3 j hj)
        have hexec : (execOp a.eval o).run P w = .ok .skip w' := by
          have hsz : (a.eval y).cells.size = n := by omega
          simp only [execOp, hop, Sem.run_bind, Instr.storeAt, Instr.sureAddr, hxv, Sem.run_pure, Result.andThen_ok, storeVar, run_sizeOf hT, hsz, ne_eq, not_true_eq_false, if_false, hrun]
        unfold Oper.wp
        rw [hexec]
        refine ⟨_, hK, Rel.put' ?_ hd (.any _)⟩
        exact hr.move frm (fun c hc _ => hc ▸ ⟨k, hm⟩) (by simpa using own') (fun c _ hc => has_upd.1 hc)
    · exact h.elim
  · exact h.elim
theorem callK_sound [Gl] {o : Oper} {K : St → Prop} {Q : Exit → Act → World → Prop} {f : Operand} {args : Array Operand} {ts : Array TypeId} (hop : o.op = .call ⟨.value f, args, ts⟩) (hd : dstOk N o.dst)
    (hr : Rel M w0 D N S a w) (h : callK P (S.ev f) (args.toList.map S.ev) o.dst K S) : o.wp P a w (After M w0 D N K) Q := by
  unfold callK at h
  split at h
  · rename_i g first captured hf
    have hfr := hr.ev f
    rw [hf] at hfr
    generalize hfv : a.eval f = fv at hfr
    cases hfr with
    | fn _ c1 c2 _ _ l1 l2 h1 h2 =>
      have hreps : Reps (envOf (hid M S.h) w) (c1 ++ args.map a.eval ++ c2) (first ++ args.toList.map S.ev ++ captured) := Reps.append (Reps.append ⟨l1, h1⟩ (rep_ops hr args)) ⟨l2, h2⟩
      rcases h.out M w _ hr.own hreps with ⟨⟨fn, hfn, hb, hnm⟩, hcall⟩ | ⟨v, w', hrun, v', r, h', he, hK, hv, own', frm, hh⟩
      · have hexec : (execOp a.eval o).run P w = .ok (.enter g (c1 ++ args.map a.eval ++ c2)) w := by
          simp only [execOp, hop, Sem.run_bind, resolve, hfv, Deferred.ofValue, Sem.run_pure, Result.andThen_ok, invoke]
          exact run_callFunc hfn hb hnm
        unfold Oper.wp
        rw [hexec]
        refine hcall.mono fun e w' ⟨v, r, h', he, hK, hv, own', frm, hh⟩ => ?_
        subst he
        refine ⟨_, hK, Rel.put' ?_ hd hv⟩
        exact hr.move frm (fun c hc _ => hc) own' (fun c hc x => hh c x hc)
      · have hexec : (execOp a.eval o).run P w = .ok (.value v) w' := by
          simp only [execOp, hop, Sem.run_bind, resolve, hfv, Deferred.ofValue, Sem.run_pure, Result.andThen_ok, invoke]
          exact hrun
        cases he
        unfold Oper.wp
        rw [hexec]
        refine ⟨_, hK, Rel.put' ?_ hd hv⟩
        exact hr.move frm (fun c hc _ => hc) own' (fun c hc x => hh c x hc)
  · exact h.elim
theorem execAppend {o : Oper} {s x : Operand} {st xt : TypeId} (hop : o.op = .call ⟨.builtin .append, ⟨[s, x]⟩, ⟨[st, xt]⟩⟩) {r : Value} {w' : World}
    (h : (Builtin.append_ #[st, xt] o.type #[a.eval s, a.eval x]).run P w = .ok r w') : (execOp a.eval o).run P w = .ok (.value r) w' := by
  simp [execOp, hop, resolve, invoke, builtin, h]
theorem appK_sound [Gl] {o : Oper} {K : St → Prop} {Q : Exit → Act → World → Prop} {s x : Operand} {st xt : TypeId} (hop : o.op = .call ⟨.builtin .append, ⟨[s, x]⟩, ⟨[st, xt]⟩⟩) (hd : dstOk N o.dst)
    (hr : Rel M w0 D N S a w) (hN : notInt P xt = true) (h : appK (slk P st) (elemZ P st) true (S.ev s) (S.ev x) o.dst K S) : o.wp P a w (After M w0 D N K) Q := by
  unfold appK at h
  split at h
  · rename_i e size bytes z n cs hL hZ hsrc
    obtain ⟨hni', hso, hone, hz, h0, hs⟩ := h
    have hni := hN
    have hZ' : zk P e = some z := by simpa [elemZ, hL] using hZ
    have A : AppHyp P M S.h w st xt (a.eval x) (S.ev x) e size bytes n z cs := ⟨hr.ev x, hL, hZ', hni, hsrc, hso, hz, h0⟩
    have hsr := hr.ev s
    split at hs
    · rename_i hsv
      rw [hsv] at hsr
      generalize hv : a.eval s = sv at hsr
      cases hsr
      obtain ⟨hb, hn, hK0, hK1⟩ := hs
      by_cases hn0 : n = 0
      · subst hn0
        obtain ⟨hlen, nc, hcr, hcs, hcn, hcrep⟩ := src_sound (P := P) hr.own A.hx A.hc A.ho
        obtain ⟨i, hu, hin, rfl, rfl⟩ := slk_spec hL
        have hrun : (Builtin.append_ #[st, xt] o.type #[.slice none 0 0, a.eval x]).run P w = .ok (.slice none 0 0) w := by
          obtain ⟨d, hd', hdi⟩ := notInt_run hni
          unfold Builtin.append_
          cases d <;> first | (simp at hdi; done) | skip
          all_goals
            simp only [Sem.run_bind, run_underlying hu, Result.andThen_ok, run_sizeOf_info hin, run_underlying hd', Sem.run_pure, hlen, Sem.run_ite, List.getElem?_toArray, List.getElem?_cons_zero, List.getElem?_cons_succ,
              Bool.false_eq_true, if_false, Nat.add_zero, Nat.le_refl, Bool.not_false, if_true, hcr]
        unfold Oper.wp
        rw [execAppend hop (by rw [hv]; exact hrun)]
        exact ⟨_, hK0 rfl, hr.put' hd (.sc _)⟩
      · obtain ⟨r, c, hrun, own', hrep, _⟩ := append_nil (ty := o.type) hr.own A hb hn (by omega)
        unfold Oper.wp
        rw [execAppend hop (by rw [hv]; exact hrun)]
        refine ⟨_, hK1 (by omega) w.heap.size (fresh_of hr.fresh_not), Rel.put' ?_ hd hrep⟩
        exact hr.move (D' := fun _ => False) ((frm_drw _ w).trans (frm_alc (w := drw w) _ _) (fun _ _ x => x)) (fun _ x _ => x.elim) own' (fun b hb hh => by
          rcases has_cons.1 hh with rfl | hh
          · omega
          · exact hh)
    · rename_i b off len sz hsv
      unfold appOsK at hs
      split at hs
      · rename_i k hk
        obtain ⟨rfl, rfl, hlk, hb, hn, hK⟩ := hs
        rw [hsv] at hsr
        obtain ⟨r, w', b', hrun, hfr, own', frm, hrep, hbb, _⟩ := append_os (ty := o.type) hr.own A hsr (Heap.find_mem hk) hlk hone hb hn
        unfold Oper.wp
        rw [execAppend hop hrun]
        refine ⟨_, hK b' hfr, Rel.put' ?_ hd hrep⟩
        refine hr.move frm (fun c hc _ => hc ▸ ⟨k, Heap.find_mem hk⟩) own' (fun c hc hh => ?_)
        obtain ⟨k', hk'⟩ := hh
        rcases mem_ren hk' with hk' | hk'
        · cases hk'
          rcases hbb with rfl | hbb
          · exact ⟨k, Heap.find_mem hk⟩
          · omega
        · exact ⟨k', mem_del hk'⟩
      · exact hs.elim
    · rename_i hsv
      rw [hsv] at hsr
      generalize hv : a.eval s = sv at hsr
      cases hsr
      obtain ⟨hs1, hb, hn, hK0, hK1⟩ := hs
      by_cases hn0 : n = 0
      · subst hn0
        obtain ⟨hlen, nc, hcr, hcs, hcn, hcrep⟩ := src_sound (P := P) hr.own A.hx A.hc A.ho
        obtain ⟨i, hu, hin, rfl, rfl⟩ := slk_spec hL
        have hrun : (Builtin.append_ #[st, xt] o.type #[.slice none 0 0, a.eval x]).run P w = .ok (.slice none 0 0) w := by
          obtain ⟨d, hd', hdi⟩ := notInt_run hni
          unfold Builtin.append_
          cases d <;> first | (simp at hdi; done) | skip
          all_goals
            simp only [Sem.run_bind, run_underlying hu, Result.andThen_ok, run_sizeOf_info hin, run_underlying hd', Sem.run_pure, hlen, Sem.run_ite, List.getElem?_toArray, List.getElem?_cons_zero, List.getElem?_cons_succ,
              Bool.false_eq_true, if_false, Nat.add_zero, Nat.le_refl, Bool.not_false, if_true, hcr]
        unfold Oper.wp
        rw [execAppend hop (by rw [hv]; exact hrun)]
        exact ⟨_, hK0 rfl, hr.put' hd .nt⟩
      · obtain ⟨r, c, hrun, own', _, cap, rfl, hcap, hsz⟩ := append_nil (ty := o.type) hr.own A hb hn (by omega)
        unfold Oper.wp
        rw [execAppend hop (by rw [hv]; exact hrun)]
        rw [hs1, Nat.mul_one] at hsz
        refine ⟨_, hK1 (by omega) w.heap.size (fresh_of hr.fresh_not), Rel.put' ?_ hd (.ot _ _ cap _ hcap hsz)⟩
        exact hr.move (D' := fun _ => False) ((frm_drw _ w).trans (frm_alc (w := drw w) _ _) (fun _ _ x => x)) (fun _ x _ => x.elim) own' (fun b hb hh => by
          rcases has_cons.1 hh with rfl | hh
          · omega
          · exact hh)
    · rename_i b len e' hsv
      unfold appOtK at hs
      split at hs
      · rename_i k hk
        obtain ⟨rfl, rfl, hlk, hb, hn, hK⟩ := hs
        rw [hsv] at hsr
        generalize hv : a.eval s = sv at hsr
        cases hsr with
        | ot _ _ cap0 _ hc0 hm0 =>
          have hos : Rep (envOf (hid M S.h) w) (.slice (some ⟨b, 0, none⟩) len cap0) (.os b 0 len 1) := by
            obtain ⟨c0, e0, fr0, g1, g2, _⟩ := hm0
            exact .os _ _ _ cap0 _ cap0 hc0 ⟨c0, e0, fr0, g1, g2, .inl rfl⟩ (by omega)
          obtain ⟨r, w', b', hrun, hfr, own', frm, _, hbb, hty⟩ := append_os (ty := o.type) hr.own A hos (Heap.find_mem hk) (by omega) hone hb hn
          obtain ⟨cap, rfl, hcap, hsz⟩ := hty cap0 rfl (by rw [Nat.mul_one]; exact hm0)
          rw [Nat.mul_one] at hsz
          unfold Oper.wp
          rw [execAppend hop (by rw [hv]; exact hrun)]
          refine ⟨_, hK b' hfr, Rel.put' ?_ hd (.ot _ _ cap _ hcap hsz)⟩
          refine hr.move frm (fun c hc _ => hc ▸ ⟨k, Heap.find_mem hk⟩) own' (fun c hc hh => ?_)
          obtain ⟨k', hk'⟩ := hh
          rcases mem_ren hk' with hk' | hk'
          · cases hk'
            rcases hbb with rfl | hbb
            · exact ⟨k, Heap.find_mem hk⟩
            · omega
          · exact ⟨k', mem_del hk'⟩
      · exact hs.elim
    · exact hs.elim
  · exact h.elim
theorem cutB_cells [Gl] (k : Blk) (m : Nat) (hm : m ≤ k.len) : (cutB k m).cells = (Blk.svs (getN k 0 m)).cells := by
  unfold cutB
  cases h : Nat.beq m k.len with
  | false => rfl
  | true =>
    rw [Nat.beq_eq] at h
    subst h
    refine List.ext_getElem? (fun j => ?_)
    by_cases hj : j < k.len
    · have h1 := getD_getN k k.len 0 j hj
      have h2 := Blk.get_cells k j hj
      show k.cells[j]? = (getN k 0 k.len)[j]?
      rw [getD_list _ _ _ (by rw [length_getN]; exact hj)] at h1
      rw [getD_list _ _ _ (by rw [Blk.length_cells]; exact hj)] at h2
      rw [List.getElem?_eq_getElem (show j < k.cells.length by rw [Blk.length_cells]; exact hj), List.getElem?_eq_getElem (show j < (getN k 0 k.len).length by rw [length_getN]; exact hj), h1, h2, Nat.zero_add]
    · show k.cells[j]? = (getN k 0 k.len)[j]?
      rw [List.getElem?_eq_none (show k.cells.length ≤ j by rw [Blk.length_cells]; omega), List.getElem?_eq_none (show (getN k 0 k.len).length ≤ j by rw [length_getN]; omega)]
theorem appCK_mono {L : Option (TypeId × Nat × Nat)} {Z : Option (List Value)} {s x : SV} {dst : Option Tmp} {K K' : St → Prop} {t t' : List (Nat × SV)} {h : Heap} (hK : ∀ h' u, K ((⟨t, h'⟩ : St).put dst u) → K' ((⟨t', h'⟩ : St).put dst u)) (hg : appCK L Z s x dst K ⟨t, h⟩) : appCK L Z s x dst K' ⟨t', h⟩ := by
  obtain ⟨e, size, bytes, z, n, cs, b, len, k, h1, h2, h3, h4, h5, h6, h7, h8, h9, h10, h11, h12, h13⟩ := hg
  exact ⟨e, size, bytes, z, n, cs, b, len, k, h1, h2, h3, h4, h5, h6, h7, h8, h9, h10, h11, h12, fun b' hb' => hK _ _ (h13 b' hb')⟩
theorem appCK_sound [Gl] {o : Oper} {K : St → Prop} {Q : Exit → Act → World → Prop} {s x : Operand} {st xt : TypeId} (hop : o.op = .call ⟨.builtin .append, ⟨[s, x]⟩, ⟨[st, xt]⟩⟩) (hd : dstOk N o.dst)
    (hr : Rel M w0 D N S a w) (hN : notInt P xt = true) (h : appCK (slk P st) (elemZ P st) (S.ev s) (S.ev x) o.dst K S) : o.wp P a w (After M w0 D N K) Q := by
  obtain ⟨e, size, bytes, z, n, cs, b, len, k, hL, hZ, hsrc, hso, hone, hz, h0, hsv, hk, hlk, hb, hn, hK⟩ := h
  have hZ' : zk P e = some z := by simpa [elemZ, hL] using hZ
  have A : AppHyp P M S.h w st xt (a.eval x) (S.ev x) e size bytes n z cs := ⟨hr.ev x, hL, hZ', hN, hsrc, hso, hz, h0⟩
  have hsr := hr.ev s
  rw [hsv] at hsr
  obtain ⟨r, w', b', hrun, hfr, own', frm, hrep, hbb⟩ := append_cut (ty := o.type) (kc := cutB k (len * size)) hr.own A hsr (Heap.find_mem hk) hlk (cutB_cells _ _ hlk) hone hb hn
  unfold Oper.wp
  rw [execAppend hop hrun]
  refine ⟨_, hK b' hfr, Rel.put' ?_ hd hrep⟩
  refine hr.move frm (fun c hc _ => hc ▸ ⟨k, Heap.find_mem hk⟩) own' (fun c hc hh => ?_)
  obtain ⟨k', hk'⟩ := hh
  rcases mem_ren hk' with hk' | hk'
  · cases hk'
    rcases hbb with rfl | hbb
    · exact ⟨k, Heap.find_mem hk⟩
    · omega
  · exact ⟨k', mem_del hk'⟩
theorem zeros_len_eq [Gl] (z : List Value) (n : Nat) : (zeros z n).len = n * z.length := by
  unfold zeros
  split <;> simp [Blk.len, length_zfill]
theorem appZK_sound [Gl] {o : Oper} {K : St → Prop} {Q : Exit → Act → World → Prop} {s x : Operand} {st xt : TypeId} (hop : o.op = .call ⟨.builtin .append, ⟨[s, x]⟩, ⟨[st, xt]⟩⟩) (hd : dstOk N o.dst)
    (hr : Rel M w0 D N S a w) (hI : (ik P xt).isSome = true) (h : appZK (slk P st) (elemZ P st) (S.ev s) (S.ev x) o.dst K S) : o.wp P a w (After M w0 D N K) Q := by
  unfold appZK at h
  split at h
  · rename_i e size bytes z n hL hZ hsv hxv
    obtain ⟨hz, h0, hn0, hb, hn, hK⟩ := h
    have hZ' : zk P e = some z := by simpa [elemZ, hL] using hZ
    have hsr := hr.ev s
    have hxr := hr.ev x
    rw [hsv] at hsr
    rw [hxv] at hxr
    generalize hv1 : a.eval s = sv at hsr
    generalize hv2 : a.eval x = xv at hxr
    cases hsr
    cases hxr
    obtain ⟨i, hu, hin, rfl, rfl⟩ := slk_spec hL
    obtain ⟨i', zv, hi', hzv, rfl⟩ := zk_spec hZ'
    rw [hin] at hi'; cases hi'
    have hsz : zv.cells.size = i.size := by simpa using hz
    obtain ⟨k, hk⟩ : ∃ k, P.underlying xt = some (.int k) := by
      unfold ik at hI
      split at hI
      · rename_i k hk; exact ⟨k, hk⟩
      · cases hI
    obtain ⟨m, rfl⟩ : ∃ m : Nat, n = (m : Int) := ⟨n.toNat, by omega⟩
    have hwr : IntKind.i64.wrap (m : Int) = m := i64_wrap (by omega) (by omega)
    have hti : ∀ w, (typeInfo e).run P w = .ok i w := fun w => run_typeInfo hin w
    have hzr := fun w => run_zeroValue (P := P) (w := w) hin hzv
    have hpos : ¬ m * i.size = 0 := by
      have := Nat.mul_pos (show 0 < m by omega) h0
      omega
    have hcap : ¬ Builtin.nextslicecap (0 + m) 0 * i.bytes > 2 ^ 48 := by
      have h1 := nextcap_le (need := 0 + m) (old := 0) (by omega)
      have h2 := Nat.mul_le_mul_right i.bytes h1
      rw [Nat.mul_assoc, Nat.zero_add] at h2
      rw [Nat.zero_add]
      have h3 : ((m * i.bytes : Nat) : Int) ≤ 140737488355328 := by rw [Int.natCast_mul]; exact hb
      omega
    have hbig : ¬ ((m : Int) * (i.bytes : Int) > 2 ^ 48) := by omega
    have hmax : ¬ (((0 + m : Nat) : Int) > IntKind.i64.max ∧ (True ∨ i.bytes = 0)) := by rw [IntKind.max_i64]; omega
    obtain ⟨newCap, hge, hrun⟩ : ∃ newCap, m ≤ newCap ∧ (Builtin.append_ #[st, xt] o.type #[.slice none 0 0, .int .i64 m]).run P w =
        .ok (.slice (some ⟨w.heap.size, 0, none⟩) m newCap) (alc (drw w) (#[] ++ Builtin.zeroCells zv.cells m ++ Builtin.zeroCells zv.cells (newCap - m)) e) := by
      refine ⟨0 + m + (w.tape w.drawn (.appendCap (0 + m) 0 e)) % (2 ^ 63 - (0 + m)), by omega, ?_⟩
      unfold Builtin.append_
      simp only [Sem.run_bind, run_underlying hu, Result.andThen_ok, run_sizeOf_info hin, run_underlying hk, Sem.run_pure, Sem.run_ite, List.getElem?_toArray, List.getElem?_cons_zero, List.getElem?_cons_succ,
        if_true, asInt, asIntOf, hwr, if_neg (show ¬ (m : Int) < 0 by omega), hti, if_neg hbig, Int.toNat_natCast, if_neg (show ¬ 0 + m ≤ 0 by omega), if_neg hmax, if_neg hcap, run_choose_cap, run_askRoom, Builtin.firstCells, Bool.not_true, Bool.false_eq_true, if_false, if_neg hpos, hzr, newRow, run_newObj]
      simp
      exact ⟨rfl, rfl⟩
    have own' := grow_owns (oc := #[]) (nc := Builtin.zeroCells zv.cells m) (rest := Builtin.zeroCells zv.cells (newCap - m)) (e := e) (os := []) (cs := (zeros zv.cells.toList m).cells) (k' := zeros zv.cells.toList m) hr.own (zeros_isM _ _) rfl rfl
      (by rw [Blk.length_cells, zeros_len_eq]; simp [Builtin.zeroCells]) (fun i hi => absurd hi (by simp)) (fun i hi => by
        rw [Blk.length_cells] at hi
        rw [Blk.get_cells _ _ hi]
        exact zeros_get zv.cells m i hi)
    unfold Oper.wp
    rw [execAppend hop (by rw [hv1, hv2]; exact hrun)]
    refine ⟨_, hK w.heap.size (fresh_of hr.fresh_not), Rel.put' ?_ hd ?_⟩
    · exact hr.move (D' := fun _ => False) ((frm_drw _ w).trans (frm_alc (w := drw w) _ _) (fun _ _ x => x)) (fun _ x _ => x.elim) own' (fun b hb hh => by
        rcases has_cons.1 hh with rfl | hh
        · omega
        · exact hh)
    · refine .os _ 0 _ _ _ _ hge ⟨_, _, _, heap_alc_new, rfl, .inl rfl⟩ ?_
      simp only [Builtin.zeroCells, Array.length_toList, Array.size_append, Array.size_map, Array.size_range, hsz]
      simp
      rw [← Nat.add_mul]
      exact Nat.le_of_eq (by congr 1; omega)
  · exact h.elim
theorem Owns.frm [Gl] {h : Heap} {w' : World} (own : Owns M h w) (f : Frm (fun _ => False) w w') : Owns M h w' where
  nodup := own.nodup
  notM := own.notM
  lt := fun b hb => Nat.lt_of_lt_of_le (own.lt b hb) f.size
  mp := fun b l hk => by
    obtain ⟨es, ck, h1, h2⟩ := own.mp b l hk
    exact ⟨es, ck, by rw [f.keep b (own.has_lt ⟨_, hk⟩) (fun x => x)]; exact h1, h2⟩
  ok := fun b k hk hM => by
    obtain ⟨c, e, h1, h2, h3⟩ := own.ok b k hk hM
    refine ⟨c, e, by rw [f.keep b (own.has_lt ⟨k, hk⟩) (fun x => x)]; exact h1, h2, fun i hi => (h3 i hi).mono ?_⟩
    exact env_le f (fun _ x _ => x.elim) (fun _ _ x => x)
  gl := own.gl.mono (env_le f (fun _ x _ => x.elim) (fun _ _ x => x))
theorem frm_bytes (w : World) (e : TypeId) (s : ByteArray) : Frm (fun _ => False) w (Lib.bytesWorld w e s) where
  size := by rw [Lib.bytesWorld_size]; omega
  keep := fun b hb _ => Lib.bytesWorld_at_old w e s b hb
  sizes := fun b m ⟨c, e', fr, hb, hs⟩ => ⟨c, e', fr, by
    have hlt : b < w.heap.size := by
      rcases Nat.lt_or_ge b w.heap.size with h | h
      · exact h
      · rw [Array.getElem?_eq_none h] at hb; cases hb
    rw [Lib.bytesWorld_at_old w e s b hlt]; exact hb, hs⟩
  os := rfl
  tape := rfl
  output := rfl
  drn := show w.drawn ≤ w.drawn + 1 from Nat.le_succ _
theorem strK_sound [Gl] {o : Oper} {K : St → Prop} {Q : Exit → Act → World → Prop} {st d : TypeId} {x : Operand} (hop : o.op = .convert st d x) (hd : dstOk N o.dst)
    (hr : Rel M w0 D N S a w) (h : strK P st d (S.ev x) o.dst K S) : o.wp P a w (After M w0 D N K) Q := by
  unfold strK at h
  split at h
  · rename_i s hs
    obtain ⟨h1, h2, hK⟩ := h
    obtain ⟨u, hu⟩ := Option.isSome_iff_exists.1 h1
    obtain ⟨e, hde, he⟩ := bsl_spec h2
    have hx := hr.ev x
    rw [hs] at hx
    generalize hv : a.eval x = v at hx
    cases hx
    have hrun := Lib.run_convert_string_bytes (P := P) w st d e s hu hde he
    have hex : execOp a.eval o = asNext (convert st d (.string s)) := by
      rw [← hv]
      cases o
      simp only at hop
      subst hop
      rfl
    unfold Oper.wp
    rw [hex, run_asNext hrun]
    have hf := frm_bytes w e s
    have hr' : Rel M w0 D N S a (Lib.bytesWorld w e s) := hr.move hf (fun _ x _ => x.elim) (hr.own.frm hf) (fun _ _ x => x)
    refine ⟨_, hK, Rel.put' hr' hd ?_⟩
    refine .fl w.heap.size 0 s.size _ 1 _ (fun i _ => .int .u8 ((s.data.toList.getD i 0).toNat : Int)) ?_ (fun _ _ => rfl) (fun i hi j hj => ⟨?_, ?_⟩) (fun i hi j hj => ?_)
    · exact grownCap_ge w s.size 0 e
    · rintro (hm | hh)
      · exact Nat.lt_irrefl _ (hr.own.lt _ hm)
      · exact hr.fresh_not hh
    · have : j = 0 := by omega
      subst this
      rw [Nat.mul_one, Nat.zero_add, Nat.add_zero]
      exact Lib.bytesWorld_cell w e s i hi
    · have : j = 0 := by omega
      subst this
      exact .sc _
  · exact h.elim
theorem ifcK_sound [Gl] {o : Oper} {K : St → Prop} {Q : Exit → Act → World → Prop} {t : TypeId} {x : Operand} (hop : o.op = .makeInterface t x) (hd : dstOk N o.dst)
    (hr : Rel M w0 D N S a w) (h : ifcK P t (S.ev x) o.dst K S) : o.wp P a w (After M w0 D N K) Q := by
  unfold ifcK at h
  split at h
  · rename_i v hs
    obtain ⟨h1, hK⟩ := h
    have hx := hr.ev x
    rw [hs] at hx
    generalize hv : a.eval x = u at hx
    cases hx
    have hex : execOp a.eval o = asNext (Instr.makeInterface t v) := by
      rw [← hv]
      cases o
      simp only at hop
      subst hop
      rfl
    unfold Oper.wp
    rw [hex, run_asNext (run_makeInterface w t v h1)]
    exact ⟨_, hK, Rel.put' hr hd (.sc _)⟩
  · exact h.elim
def newM (w : World) : World := { w with heap := w.heap.push (.map #[] 0) }
theorem newM_old {b : Nat} (hb : b < w.heap.size) : (newM w).heap[b]? = w.heap[b]? := by
  show (w.heap.push _)[b]? = _
  rw [Array.getElem?_push, if_neg (Nat.ne_of_lt hb)]
theorem newM_new : (newM w).heap[w.heap.size]? = some (.map #[] 0) := by
  show (w.heap.push _)[w.heap.size]? = _
  rw [Array.getElem?_push, if_pos rfl]
theorem frm_newM (w : World) : Frm (fun _ => False) w (newM w) where
  size := by simp [newM]
  keep := fun b hb _ => newM_old hb
  sizes := fun b m ⟨c', e', fr, hb, hs⟩ => ⟨c', e', fr, by rw [newM_old (lt_of_heap hb)]; exact hb, hs⟩
  os := rfl
  tape := rfl
  output := rfl
  drn := Nat.le_refl _
theorem Owns.newM [Gl] {h : Heap} (own : Owns M h w) : Owns M ((w.heap.size, .mp []) :: h) (newM w) := by
  have hle : (envOf (hid M h) w).le (envOf (hid M ((w.heap.size, .mp []) :: h)) (Ab.newM w)) :=
    env_le (frm_newM w) (fun _ x _ => x.elim) (fun b hb x => by
      rcases x with x | x
      · exact .inl x
      · rcases has_cons.1 x with x | x
        · omega
        · exact .inr x)
  refine ⟨?_, fun b hb hm => ?_, fun b hm => ?_, fun b k' hm hM => ?_, fun b l hm => ?_, own.gl.mono hle⟩
  · rw [List.map_cons, List.nodup_cons]
    refine ⟨fun hm => ?_, own.nodup⟩
    have := own.has_lt (has_map.2 hm)
    omega
  · rcases has_cons.1 hb with rfl | hb
    · have := own.lt _ hm; omega
    · exact own.notM b hb hm
  · have := own.lt b hm
    have := (frm_newM w).size
    omega
  · rcases List.mem_cons.1 hm with hm | hm
    · cases hm; cases hM
    · obtain ⟨c', e', hb, hl', hr'⟩ := own.ok b k' hm hM
      exact ⟨c', e', by rw [newM_old (lt_of_heap hb)]; exact hb, hl', fun i hi => (hr' i hi).mono hle⟩
  · rcases List.mem_cons.1 hm with hm | hm
    · cases hm; exact ⟨#[], 0, newM_new, rfl⟩
    · obtain ⟨es, ck, hb, he⟩ := own.mp b l hm
      exact ⟨es, ck, by rw [newM_old (lt_of_heap hb)]; exact hb, he⟩
theorem mkmK_sound [Gl] {o : Oper} {K : St → Prop} {Q : Exit → Act → World → Prop} {t : TypeId} {r : Option Operand} (hop : o.op = .makeMap t r) (hd : dstOk N o.dst)
    (hr : Rel M w0 D N S a w) (h : mkmK (isMp P t) (r.map S.ev) o.dst K S) : o.wp P a w (After M w0 D N K) Q := by
  obtain ⟨h1, h2, hK⟩ := h
  have hrun : (Instr.makeMap t (r.map a.eval)).run P w = .ok (.map (some w.heap.size)) (newM w) := by
    unfold isMp at h1
    split at h1
    · rename_i k e hu
      unfold Instr.makeMap
      cases r with
      | none => rfl
      | some x =>
        have hx := hr.ev x
        simp only [Option.map_some] at h2 ⊢
        generalize S.ev x = xv at h2 hx
        unfold hintOk at h2
        split at h2
        · rename_i e; cases e
        · rename_i e
          cases e
          generalize a.eval x = v at hx
          cases hx
          simp [run_underlying hu, asInt, asIntOf, newM]
        · cases h2
    · cases h1
  have hex : execOp a.eval o = asNext (Instr.makeMap t (r.map a.eval)) := by
    cases o
    simp only at hop
    subst hop
    rfl
  unfold Oper.wp
  rw [hex, run_asNext hrun]
  refine ⟨_, hK w.heap.size (fresh_of hr.fresh_not), Rel.put' ?_ hd (.mp _)⟩
  exact hr.move (frm_newM w) (fun _ x _ => x.elim) hr.own.newM (fun b hb hh => by
    rcases has_cons.1 hh with rfl | hh
    · omega
    · exact hh)
theorem Owns.setM [Gl] {h : Heap} (own : Owns M h w) {b : Nat} {l l' : List (Value × Value)} {es es' : Array MapEntry} {ck ck' : Nat} (hm : (b, .mp l) ∈ h) (hb : w.heap[b]? = some (.map es ck))
    (he : (es'.toList.map fun e => (e.key, e.val)) = l') :
    Owns M (h.upd b (.mp l')) { w with heap := w.heap.setIfInBounds b (.map es' ck') } ∧ Frm (fun c => c = b) w { w with heap := w.heap.setIfInBounds b (.map es' ck') } := by
  have hlt := lt_of_heap hb
  have old : ∀ c, c ≠ b → (w.heap.setIfInBounds b (.map es' ck'))[c]? = w.heap[c]? := fun c hc => by rw [Array.getElem?_setIfInBounds_ne (Ne.symm hc)]
  have new : (w.heap.setIfInBounds b (.map es' ck'))[b]? = some (.map es' ck') := by simp [hlt]
  have frm : Frm (fun c => c = b) w { w with heap := w.heap.setIfInBounds b (.map es' ck') } := by
    refine ⟨by simp, fun c _ hc => old c hc, fun c m ⟨cs, e, fr, hc, hs⟩ => ?_, rfl, rfl, rfl, Nat.le_refl _⟩
    by_cases hcb : c = b
    · subst hcb; rw [hb] at hc; cases hc
    · exact ⟨cs, e, fr, (old c hcb).trans hc, hs⟩
  have hle : (envOf (hid M h) w).le (envOf (hid M (h.upd b (.mp l'))) { w with heap := w.heap.setIfInBounds b (.map es' ck') }) := by
    rw [hid_upd]
    exact env_le frm (fun c hc _ => .inr (hc ▸ ⟨_, hm⟩)) (fun _ _ x => x)
  refine ⟨⟨by rw [map_upd]; exact own.nodup, fun c hc => own.notM c (has_upd.1 hc), fun c hc => by have := own.lt c hc; simpa using this, fun c k' hk hM => ?_, fun c l0 hk => ?_, own.gl.mono hle⟩, frm⟩
  · rcases mem_upd own.nodup hk with ⟨rfl, rfl⟩ | ⟨hne, hk⟩
    · cases hM
    · obtain ⟨cs, e, hb', hl, hr⟩ := own.ok c k' hk hM
      exact ⟨cs, e, (old c hne).trans hb', hl, fun i hi => (hr i hi).mono hle⟩
  · rcases mem_upd own.nodup hk with ⟨rfl, e⟩ | ⟨hne, hk⟩
    · cases e; exact ⟨es', ck', new, he⟩
    · obtain ⟨es0, ck0, hb', he'⟩ := own.mp c l0 hk
      exact ⟨es0, ck0, (old c hne).trans hb', he'⟩
theorem mfI_same {c : KK} {a : Value} : ∀ {l : List (Value × Value)} {i j : Nat} {v : Value}, mfI c a l i = some (some (j, v)) → ∃ k, i ≤ j ∧ l[j - i]? = some (k, v) ∧ sameC c a k = some true
  | [], i, j, v, h => by cases h
  | (k, u) :: r, i, j, v, h => by
    unfold mfI at h
    split at h
    · rename_i hs
      cases h
      exact ⟨k, Nat.le_refl _, by simp, hs⟩
    · obtain ⟨k', h1, h2, h3⟩ := mfI_same h
      refine ⟨k', by omega, ?_, h3⟩
      rw [show j - i = (j - (i + 1)) + 1 by omega, List.getElem?_cons_succ]
      exact h2
    · cases h
theorem sameC_bits {c : KK} {a k : Value} (h : sameC c a k = some true) : Instr.sameBits 10000 k a = true := by
  unfold sameC at h
  split at h
  · split at h
    · rename_i e; subst e
      simp at h
      simp [Instr.sameBits, h]
    · cases h
  · have e := (MapKept.bytes_beq _ _).1 (Option.some.inj h)
    subst e
    exact (MapKept.bytes_beq _ _).2 rfl
  · simp at h
    simp [Instr.sameBits, h]
  · cases h
theorem mputK_sound [Gl] {o : Oper} {K : St → Prop} {Q : Exit → Act → World → Prop} {t : TypeId} {m k x : Operand} (hop : o.op = .mapUpdate t m k x ∨ o.op = .insert t m k x) (hd : dstOk N o.dst)
    (hr : Rel M w0 D N S a w) (h : mputK (mtk P t) (S.ev m) (S.ev k) (S.ev x) o.dst K S) : o.wp P a w (After M w0 D N K) Q := by
  unfold mputK at h
  split at h
  · rename_i c z b kv v hT hm hk hx
    split at h
    · rename_i l hf
      obtain ⟨hkk, h⟩ := h
      unfold mputR at h
      split at h
      · rename_i r hfi
        have hmr := hr.ev m
        have hkr := hr.ev k
        have hxr := hr.ev x
        rw [hm] at hmr
        rw [hk] at hkr
        rw [hx] at hxr
        generalize hmv : a.eval m = mv at hmr
        generalize hkv : a.eval k = kv' at hkr
        generalize hxv : a.eval x = xv at hxr
        cases hmr
        cases hkr
        cases hxr
        obtain ⟨kt, e, d, h1, h2, h3, h4, h5⟩ := mtk_spec hT
        have hmem := Heap.find_mem hf
        obtain ⟨es, ck, hb, rfl⟩ := hr.own.mp b _ hmem
        have hfk := MapKept.run_findKey (w := w) h2 (show Instr.findNow d kv es.toList 0 = some r by rw [findNow_mfI h4]; exact hfi)
        have hrun : ∃ es' ck', (Instr.mapUpdate t (.map (some b)) kv v).run P w = .ok () { w with heap := w.heap.setIfInBounds b (.map es' ck') } ∧ (es'.toList.map fun e => (e.key, e.val)) = mset kv v (es.toList.map fun e => (e.key, e.val)) r := by
          unfold Instr.mapUpdate
          simp only [Sem.run_bind, run_underlying h1, Result.andThen_ok, MapKept.run_getObj_map hb, MapKept.run_checkKey h2 (h3 _ hkk), hfk]
          cases r with
          | none =>
            refine ⟨es.push { key := kv, val := v, born := ck }, ck + 1, ?_, by simp [mset]⟩
            exact MapKept.run_setObj_map _ hb
          | some p =>
            obtain ⟨i, u⟩ := p
            obtain ⟨k0, _, hi, hs⟩ := mfI_same hfi
            rw [Nat.sub_zero, List.getElem?_map] at hi
            cases hes : es.toList[i]? with
            | none => rw [hes] at hi; cases hi
            | some en =>
              rw [hes] at hi
              cases hi
              rw [Array.getElem?_toList] at hes
              refine ⟨es.modify i fun e => { e with key := kv, val := v }, ck, ?_, ?_⟩
              · have hst : (Instr.keyThatStays (((es[i]?).map (·.key)).getD kv) kv).run P w = .ok kv w := by
                  unfold Instr.keyThatStays
                  simp [hes, sameC_bits hs]
                simp only [Sem.run_bind, hst, Result.andThen_ok]
                exact MapKept.run_setObj_map _ hb
              · simp only [mset]
                apply List.ext_getElem?
                intro j
                rw [List.getElem?_map, Array.getElem?_toList, Array.getElem?_modify, List.getElem?_set, List.getElem?_map, Array.getElem?_toList]
                by_cases hij : i = j
                · subst hij
                  simp [hes]
                  exact (Array.getElem?_eq_some_iff.1 hes).1
                · simp [hij]
        obtain ⟨es', ck', hrun, he⟩ := hrun
        obtain ⟨own', frm⟩ := hr.own.setM (ck' := ck') hmem hb he
        have hexec : (execOp a.eval o).run P w = .ok .skip { w with heap := w.heap.setIfInBounds b (.map es' ck') } := by
          rcases hop with hop | hop <;> simp only [execOp, hop, Sem.run_bind, hmv, hkv, hxv, hrun, Result.andThen_ok, Sem.run_pure]
        unfold Oper.wp
        rw [hexec]
        refine ⟨_, h, Rel.put' ?_ hd (.any _)⟩
        exact hr.move frm (fun c hc _ => hc ▸ ⟨_, hmem⟩) own' (fun c _ hc => has_upd.1 hc)
      · exact h.elim
    · exact h.elim
  · exact h.elim
theorem map_eraseIdx {α β : Type} (f : α → β) : ∀ (l : List α) (i : Nat), (l.eraseIdx i).map f = (l.map f).eraseIdx i
  | [], _ => rfl
  | _ :: _, 0 => rfl
  | a :: l, i + 1 => by simp [map_eraseIdx f l i]
theorem mdelK_sound [Gl] {o : Oper} {K : St → Prop} {Q : Exit → Act → World → Prop} {t tk : TypeId} {m k : Operand} (hop : o.op = .call ⟨.builtin .delete, ⟨[m, k]⟩, ⟨[t, tk]⟩⟩) (hd : dstOk N o.dst)
    (hr : Rel M w0 D N S a w) (h : mdelK (mtk P t) (S.ev m) (S.ev k) o.dst K S) : o.wp P a w (After M w0 D N K) Q := by
  unfold mdelK at h
  split at h
  · rename_i c z b kv hT hm hk
    split at h
    · rename_i l hf
      obtain ⟨hkk, h⟩ := h
      unfold mdelR at h
      split at h
      · rename_i r hfi
        have hmr := hr.ev m
        have hkr := hr.ev k
        rw [hm] at hmr
        rw [hk] at hkr
        generalize hmv : a.eval m = mv at hmr
        generalize hkv : a.eval k = kv' at hkr
        cases hmr
        cases hkr
        obtain ⟨kt, e, d, h1, h2, h3, h4, h5⟩ := mtk_spec hT
        have hmem := Heap.find_mem hf
        obtain ⟨es, ck, hb, rfl⟩ := hr.own.mp b _ hmem
        have hfk := MapKept.run_findKey (w := w) h2 (show Instr.findNow d kv es.toList 0 = some r by rw [findNow_mfI h4]; exact hfi)
        have hrun : ∃ es' ck', (Builtin.delete_ #[t, tk] o.type #[.map (some b), kv]).run P w = .ok (.tuple #[]) { w with heap := w.heap.setIfInBounds b (.map es' ck') } ∧ (es'.toList.map fun e => (e.key, e.val)) = mdel (es.toList.map fun e => (e.key, e.val)) r := by
          unfold Builtin.delete_
          simp only [List.getElem?_toArray, List.getElem?_cons_zero, List.getElem?_cons_succ, Sem.run_bind, run_underlying h1, Result.andThen_ok, MapKept.run_getObj_map hb, MapKept.run_checkKey h2 (h3 _ hkk), hfk]
          cases r with
          | none =>
            refine ⟨es, ck, ?_, rfl⟩
            simp only [Sem.run_bind, MapKept.run_setObj_map _ hb, Result.andThen_ok, Sem.run_pure]
          | some p =>
            obtain ⟨i, u⟩ := p
            refine ⟨es.eraseIdxIfInBounds i, ck, ?_, ?_⟩
            · simp only [Sem.run_bind, MapKept.run_setObj_map _ hb, Result.andThen_ok, Sem.run_pure]
            · simp only [mdel]
              unfold Array.eraseIdxIfInBounds
              split
              · rw [Array.toList_eraseIdx, map_eraseIdx]
              · rename_i hge
                rw [List.eraseIdx_of_length_le (by simp; omega)]
        obtain ⟨es', ck', hrun, he⟩ := hrun
        obtain ⟨own', frm⟩ := hr.own.setM (ck' := ck') hmem hb he
        have hexec : (execOp a.eval o).run P w = .ok (.value (.tuple #[])) { w with heap := w.heap.setIfInBounds b (.map es' ck') } := by
          simp [execOp, hop, resolve, invoke, builtin, hmv, hkv, hrun]
        unfold Oper.wp
        rw [hexec]
        refine ⟨_, h, Rel.put' ?_ hd (.any _)⟩
        exact hr.move frm (fun c hc _ => hc ▸ ⟨_, hmem⟩) own' (fun c _ hc => has_upd.1 hc)
      · exact h.elim
    · exact h.elim
  · exact h.elim
theorem stepK_sound [Gl] {o : Oper} {K : St → Prop} {Q : Exit → Act → World → Prop} (hr : Rel M w0 D N S a w) (h : stepK P N o K S) : o.wp P a w (After M w0 D N K) Q := by
  obtain ⟨hd, h⟩ := h
  unfold resK at h
  split at h
  · rename_i pre v hv
    obtain ⟨hp, hK⟩ := h
    obtain ⟨r, hrun, hrep⟩ := valOp_ok (P := P) (o := o) hr.own hr.ev hv hp
    unfold Oper.wp
    rw [hrun]
    exact ⟨_, hK, hr.put' hd hrep⟩
  · rename_i pre k mk hv
    obtain ⟨hp, hK⟩ := h
    obtain ⟨x, hx, ⟨hkM, c, e, u, hrun, hl, hcr, hrep⟩⟩ := valOp_new (P := P) (o := o) (M := M) (w := w) hr.ev hv hp
    unfold Oper.wp
    rw [hx, run_asNext hrun]
    refine ⟨_, hK w.heap.size (fresh_of hr.fresh_not), Rel.put' ?_ hd hrep⟩
    exact hr.move (frm_alc c e) (fun _ x _ => x.elim) (hr.own.alc hkM hl hcr) (fun b hb hh => by
      rcases has_cons.1 hh with rfl | hh
      · omega
      · exact hh)
  · unfold effK at h
    split at h
    · rename_i t r hop; exact mkmK_sound hop hd hr h
    · rename_i t m k x hop; exact mputK_sound (.inl hop) hd hr h
    · rename_i t m k x hop; exact mputK_sound (.inr hop) hd hr h
    · rename_i m k t tk hop; exact mdelK_sound hop hd hr h
    · rename_i t x hop; exact ifcK_sound hop hd hr h
    · rename_i st d x hop; exact strK_sound hop hd hr h
    · rename_i t x y hop; exact storeK_sound hop hd hr h
    · rename_i f args ts hop; exact callK_sound hop hd hr h
    · rename_i s x st xt hop
      by_cases hN : notInt P xt = true
      · rw [hN] at h
        simp only [cond_true] at h
        unfold appX at h
        cases hb : sameB (S.ev s) (S.ev x) with
        | false => rw [hb] at h; exact appK_sound hop hd hr hN h
        | true => rw [hb] at h; exact appCK_sound hop hd hr hN h
      · simp only [Bool.not_eq_true] at hN
        rw [hN] at h
        by_cases hI : (ik P xt).isSome = true
        · rw [hI] at h; exact appZK_sound hop hd hr hI h
        · simp only [Bool.not_eq_true] at hI
          rw [hI] at h; exact h.elim
    · exact h.elim
def guardB (x : SV) (t : Tmp) (want : Bool) (S : St) (A B : St → Prop) : Prop :=
  match x with
  | .sc (.bool b) => if b = true then (bif want then A (S.put (some t) (.sc (.bool true))) else B (S.put (some t) (.sc (.bool true)))) else (bif want then B (S.put (some t) (.sc (.bool false))) else A (S.put (some t) (.sc (.bool false))))
  | .sc (.tuple _) => B S
  | _ => False
def guardK (t : Option Tmp) (want : Bool) (S : St) (A B : St → Prop) : Prop :=
  match t with
  | none => False
  | some t => guardB (look S.t t) t want S A B
def gdst (ops : List Oper) (j : Nat) : Option Tmp := match ops[j]? with
  | some o => o.dst
  | none => none
def gstep (ops : List Oper) (N : Nat) (g : Option (Nat × Bool)) (dst : Option Tmp) (A : St → Prop) (K : St → Prop) (S : St) : Prop :=
  match g with
  | none => A S
  | some (j, want) => guardK (gdst ops j) want S A (fun S => dstOk N dst ∧ K (S.put dst (.sc undef)))
def vcOps [Gl] (P : Program) (N : Nat) (ops : List Oper) (l : List Oper) (K : St → Prop) (S : St) : Prop := match l with
  | [] => K S
  | o :: r => gstep ops N o.guard o.dst (stepK P N o (vcOps P N ops r K)) (vcOps P N ops r K) S
theorem yielded_look [Gl] {ops : List Oper} {j : Nat} {t : Tmp} {b : Bool} (hg : gdst ops j = some t) (hr : Rel M w0 D N S a w) (hl : look S.t t = .sc (.bool b)) : yielded ops.toArray a.tmps j = some b := by
  unfold gdst at hg
  split at hg
  · rename_i o ho
    have h1 := hr.t t
    rw [hl] at h1
    unfold yielded
    simp only [List.getElem?_toArray, ho, Option.bind_some, hg]
    rcases Nat.lt_or_ge t a.tmps.size with hlt | hge
    · simp only [Array.getD_eq_getD_getElem?, Array.getElem?_eq_getElem hlt, Option.getD_some] at h1 ⊢
      generalize a.tmps[t] = v at h1
      cases h1
      rfl
    · simp only [Array.getD_eq_getD_getElem?, Array.getElem?_eq_none hge, Option.getD_none, undef] at h1
      cases h1
  · cases hg
theorem yielded_tup [Gl] {ops : List Oper} {j : Nat} {t : Tmp} {c : Array Value} (hg : gdst ops j = some t) (hr : Rel M w0 D N S a w) (hl : look S.t t = .sc (.tuple c)) : yielded ops.toArray a.tmps j = none := by
  unfold gdst at hg
  split at hg
  · rename_i o ho
    have h1 := hr.t t
    rw [hl] at h1
    unfold yielded
    simp only [List.getElem?_toArray, ho, Option.bind_some, hg]
    rcases Nat.lt_or_ge t a.tmps.size with hlt | hge
    · simp only [Array.getD_eq_getD_getElem?, Array.getElem?_eq_getElem hlt, Option.getD_some] at h1 ⊢
      generalize a.tmps[t] = v at h1
      cases h1
      rfl
    · simp [Array.getElem?_eq_none hge]
  · cases hg
theorem gstep_sound [Gl] {ops : List Oper} {o : Oper} {A K : St → Prop} (hr : Rel M w0 D N S a w) (h : gstep ops N o.guard o.dst A K S) :
    ∃ S', Rel M w0 D N S' a w ∧ ((Region.wanted o (yielded ops.toArray a.tmps) = true ∧ A S') ∨ (Region.wanted o (yielded ops.toArray a.tmps) = false ∧ dstOk N o.dst ∧ K (S'.put o.dst (.sc undef)))) := by
  unfold gstep at h
  unfold Region.wanted
  cases hg : o.guard with
  | none => rw [hg] at h; exact ⟨S, hr, .inl ⟨rfl, h⟩⟩
  | some jw =>
    obtain ⟨j, want⟩ := jw
    rw [hg] at h
    simp only [guardK] at h
    split at h
    · exact h.elim
    · rename_i t ht
      have put : ∀ b, look S.t t = .sc (.bool b) → Rel M w0 D N (S.put (some t) (.sc (.bool b))) a w := fun b hb => by
        have h1 := hr.t t
        rw [hb] at h1
        refine ⟨hr.defers, hr.n, fun i => ?_, hr.own, hr.frm, hr.new⟩
        show Rep _ _ (look ((t, SV.sc (.bool b)) :: S.t) i)
        rw [look_cons]
        by_cases hi : t = i
        · subst hi
          rw [show Nat.beq t t = true by rw [Nat.beq_eq]]
          exact h1
        · rw [show Nat.beq t i = false by rw [← Bool.not_eq_true, Nat.beq_eq]; exact hi]
          exact hr.t i
      unfold guardB at h
      split at h
      · rename_i b hl
        refine ⟨_, put b hl, ?_⟩
        simp only [yielded_look ht hr hl]
        cases b
        · simp only [Bool.false_eq_true, if_false] at h
          cases want
          · exact .inl ⟨rfl, h⟩
          · exact .inr ⟨rfl, h⟩
        · simp only [if_true] at h
          cases want
          · exact .inr ⟨rfl, h⟩
          · exact .inl ⟨rfl, h⟩
      · rename_i c hl
        refine ⟨S, hr, .inr ⟨?_, h⟩⟩
        simp only [yielded_tup ht hr hl]
        rfl
      · exact h.elim
theorem vcOps_sound [Gl] {ops : List Oper} {Q : Exit → Act → World → Prop} {K : St → Prop} (hK : ∀ S a w, K S → Rel M w0 D N S a w → Q .normal a w) :
    ∀ (l : List Oper) (S : St) (a : Act) (w : World), vcOps P N ops l K S → Rel M w0 D N S a w → wpList P ops.toArray Q l a w
  | [], S, a, w, h, hr => wpList_nil (hK S a w h hr)
  | o :: r, S, a, w, h, hr => by
    obtain ⟨S', hr', h'⟩ := gstep_sound (ops := ops) hr h
    refine wpList_step fun K' hK' => ?_
    rcases h' with ⟨hw, hA⟩ | ⟨hw, hd, hB⟩
    · rw [if_pos hw]
      exact Oper.wp_mono (fun a' w' ⟨S'', h1, h2⟩ => hK' a' w' (vcOps_sound hK r S'' a' w' h1 h2)) (stepK_sound hr' hA)
    · rw [if_neg (by rw [hw]; simp)]
      exact hK' _ _ (vcOps_sound hK r _ _ _ hB (hr'.put' hd (.sc _)))
end
end Go.Ab
/-! An: Calls that leave the owned blocks alone; regions that draw their order. -/
namespace Go.Ab
open Go.RowKit
def PCall [Gl] (P : Program) (f : FuncId) (args : List SV) (r : SV) : Prop := Call P f args [] (fun r' h' => r' = r ∧ h' = [])
section
variable {P : Program} {M : Nat → Prop} {w0 : World} {D : Nat → Prop} {N : Nat} {h : Heap} {w : World}
theorem has_append {h1 h2 : Heap} {b : Nat} : Heap.has (h1 ++ h2) b ↔ h1.has b ∨ h2.has b := by
  unfold Heap.has
  simp only [List.mem_append]
  constructor
  · rintro ⟨k, hk | hk⟩
    · exact .inl ⟨k, hk⟩
    · exact .inr ⟨k, hk⟩
  · rintro (⟨k, hk⟩ | ⟨k, hk⟩)
    · exact ⟨k, .inl hk⟩
    · exact ⟨k, .inr hk⟩
theorem hid_append [Gl] (M : Nat → Prop) (h1 h2 : Heap) : hid (hid M h2) h1 = hid M (h1 ++ h2) := by
  funext b
  simp only [hid, has_append]
  exact propext ⟨fun x => x.elim (fun x => x.elim .inl (fun y => .inr (.inr y))) (fun y => .inr (.inl y)), fun x => x.elim (fun y => .inl (.inl y)) (fun x => x.elim .inr (fun y => .inl (.inr y)))⟩
theorem Call.frame [Gl] {f : FuncId} {args : List SV} {h1 h2 : Heap} {Q : SV → Heap → Prop} (hc : Call P f args h1 Q) :
    Call P f args (h1 ++ h2) (fun r h' => ∃ h1', h' = h1' ++ h2 ∧ Q r h1') := by
  refine ⟨fun M w vs own hr => ?_⟩
  have hnd := own.nodup
  rw [List.map_append, List.nodup_append] at hnd
  obtain ⟨n1, n2, n12⟩ := hnd
  have own1 : Owns (hid M h2) h1 w := by
    refine ⟨n1, fun b hb hm => ?_, fun b hb => ?_, fun b k hk hM => ?_, fun b l hk => own.mp b l (List.mem_append_left _ hk), by rw [hid_append]; exact own.gl⟩
    · rcases hm with hm | hm
      · exact own.notM b (has_append.2 (.inl hb)) hm
      · exact n12 b (has_map.1 hb) b (has_map.1 hm) rfl
    · rcases hb with hb | hb
      · exact own.lt b hb
      · exact own.has_lt (has_append.2 (.inr hb))
    · obtain ⟨c, e, h0, hl, hrp⟩ := own.ok b k (List.mem_append_left _ hk) hM
      rw [hid_append]
      exact ⟨c, e, h0, hl, hrp⟩
  refine (hc.out (hid M h2) w vs own1 (by rw [hid_append]; exact hr)).mono fun e w' ⟨v, r, h1', he, hq, hv, own1', frm, hh⟩ => ?_
  refine ⟨v, r, h1' ++ h2, he, ⟨h1', rfl, hq⟩, by rw [← hid_append]; exact hv, ?_, ?_, fun b hb hlt => ?_⟩
  · refine ⟨?_, fun b hb hm => ?_, fun b hb => Nat.lt_of_lt_of_le (own.lt b hb) frm.size, fun b k hk hM => ?_, fun b l hk => ?_, by rw [← hid_append]; exact own1'.gl⟩
    · rw [List.map_append, List.nodup_append]
      refine ⟨own1'.nodup, n2, fun b hb c hc' hbc => ?_⟩
      subst hbc
      have hlt : b < w.heap.size := own.has_lt (has_append.2 (.inr (has_map.2 hc')))
      exact n12 b (has_map.1 (hh b (has_map.2 hb) hlt)) b hc' rfl
    · rcases has_append.1 hb with hb | hb
      · exact own1'.notM b hb (.inl hm)
      · exact own.notM b (has_append.2 (.inr hb)) hm
    · rcases List.mem_append.1 hk with hk | hk
      · obtain ⟨c, e, h0, hl, hrp⟩ := own1'.ok b k hk hM
        exact ⟨c, e, h0, hl, fun i hi => by rw [← hid_append]; exact hrp i hi⟩
      · obtain ⟨c, e, h0, hl, hrp⟩ := own.ok b k (List.mem_append_right _ hk) hM
        have hlt := lt_of_heap h0
        have hn1 : ¬ h1.has b := fun x => n12 b (has_map.1 x) b (has_map.1 ⟨k, hk⟩) rfl
        refine ⟨c, e, by rw [frm.keep b hlt hn1]; exact h0, hl, fun i hi => (hrp i hi).mono (env_le frm (fun c hc _ => .inr (has_append.2 (.inl hc))) (fun c hc x => ?_))⟩
        rcases x with x | x
        · exact .inl x
        · rcases has_append.1 x with x | x
          · exact .inr (has_append.2 (.inl (hh c x hc)))
          · exact .inr (has_append.2 (.inr x))
    · rcases List.mem_append.1 hk with hk | hk
      · exact own1'.mp b l hk
      · obtain ⟨es, ck, h0, he⟩ := own.mp b l (List.mem_append_right _ hk)
        have hlt := lt_of_heap h0
        have hn1 : ¬ h1.has b := fun x => n12 b (has_map.1 x) b (has_map.1 ⟨_, hk⟩) rfl
        exact ⟨es, ck, by rw [frm.keep b hlt hn1]; exact h0, he⟩
  · exact ⟨frm.size, fun b hb hn => frm.keep b hb (fun x => hn (has_append.2 (.inl x))), frm.sizes, frm.os, frm.tape, frm.output, frm.drn⟩
  · rcases has_append.1 hb with hb | hb
    · exact has_append.2 (.inl (hh b hb hlt))
    · exact has_append.2 (.inr hb)
theorem Call.of_pure [Gl] {f : FuncId} {args : List SV} {r : SV} {h : Heap} {Q : SV → Heap → Prop} (hc : PCall P f args r) (hq : Q r h) : Call P f args h Q :=
  (Call.frame (h2 := h) hc).mono fun r' h' ⟨h1', e1, e2, e3⟩ => by subst e1 e2 e3; exact hq
theorem Call.perm [Gl] {f : FuncId} {args : List SV} {h h' : Heap} {Q : SV → Heap → Prop} (hc : Call P f args h' Q) (hp : ∀ x, x ∈ h' ↔ x ∈ h) (hn : (h.map (·.1)).Nodup → (h'.map (·.1)).Nodup) : Call P f args h Q := by
  refine ⟨fun M w vs own hr => ?_⟩
  have hhas : h'.has = h.has := by funext b; unfold Heap.has; exact propext ⟨fun ⟨k, hk⟩ => ⟨k, (hp _).1 hk⟩, fun ⟨k, hk⟩ => ⟨k, (hp _).2 hk⟩⟩
  have hhid : hid M h' = hid M h := by funext b; simp only [hid, hhas]
  have own' : Owns M h' w := ⟨hn own.nodup, fun b hb => own.notM b (hhas ▸ hb), own.lt, fun b k hk hM => by rw [hhid]; exact own.ok b k ((hp _).1 hk) hM, fun b l hk => own.mp b l ((hp _).1 hk), by rw [hhid]; exact own.gl⟩
  refine (hc.out M w vs own' (by rw [hhid]; exact hr)).mono fun e w' ⟨v, r, h1, he, hq, hv, o1, frm, hh⟩ => ?_
  exact ⟨v, r, h1, he, hq, hv, o1, hhas ▸ frm, fun b hb hlt => hhas ▸ hh b hb hlt⟩
/-! ### regions that draw their order -/
def stableOp : Op → Bool
  | .move _ => true
  | .assign _ => true
  | .pick _ _ _ => true
  | .binOp _ _ _ _ _ => true
  | .unOp _ _ _ => true
  | .load _ _ => true
  | .indexAddr _ _ _ => true
  | .index _ _ _ => true
  | .fieldAddr _ _ _ => true
  | .field _ _ _ => true
  | .extract _ _ => true
  | .nilCheck _ => true
  | .slice _ _ _ _ _ => true
  | .convert _ _ _ => true
  | .build _ _ => true
  | .makeFunc _ _ _ => true
  | .call ⟨.value _, _, _⟩ => true
  | .call ⟨.builtin .len, _, _⟩ => true
  | .call ⟨.builtin .min, _, _⟩ => true
  | .call ⟨.builtin .max, _, _⟩ => true
  | _ => false
def Yld [Gl] (P : Program) (o : Oper) (ρ : Operand → SV) (h : Heap) (v : SV) : Prop :=
  (∃ pre, valOp P o.op ρ h = .ok pre v ∧ pre) ∨
  (∃ f args ts g first captured, o.op = .call ⟨.value f, args, ts⟩ ∧ ρ f = .fn (.func g) first captured ∧ PCall P g (first ++ args.toList.map ρ ++ captured) v) ∨
  ∃ t x lo e b off n sz bytes, ∃ f : Nat → List SV, o.op = .slice t x (some lo) none none ∧ slk P t = some (e, sz, bytes) ∧ ρ x = .os b off n sz ∧ ρ lo = .sc (.int .i64 (n : Int)) ∧ v = .fl 0 sz f
def pcallK [Gl] (P : Program) (f : SV) (args : List SV) (dst : Option Tmp) (K : St → Prop) (S : St) : Prop :=
  match f with
  | .fn (.func g) first captured => ∃ r, PCall P g (first ++ args ++ captured) r ∧ K (S.put dst r)
  | _ => False
def effD [Gl] (P : Program) (op : Op) (dst : Option Tmp) (K : St → Prop) (S : St) : Prop :=
  match op with
  | .call ⟨.value f, args, _⟩ => pcallK P (S.ev f) (args.toList.map S.ev) dst K S
  | _ => False
def resD (R : VRes) (dst : Option Tmp) (E : Prop) (K : St → Prop) (S : St) : Prop :=
  match R with
  | .ok pre v => pre ∧ K (S.put dst v)
  | .new _ _ _ => False
  | .bad => E
def stepD [Gl] (P : Program) (N : Nat) (o : Oper) (K : St → Prop) (S : St) : Prop :=
  bif stableOp o.op then dstOk N o.dst ∧ resD (valOp P o.op S.ev S.h) o.dst (effD P o.op o.dst K S) K S else stepK P N o K S
def vcD [Gl] (P : Program) (N : Nat) (ops : List Oper) (l : List Oper) (K : St → Prop) (S : St) : Prop := match l with
  | [] => K S
  | o :: r => gstep ops N o.guard o.dst (stepD P N o (vcD P N ops r K)) (vcD P N ops r K) S
/-! the any-order predicate, over what the temporaries hold -/
def evF [Gl] (T : Nat → SV) : Operand → SV
  | .tmp i => T i
  | .const v => .sc v
  | .global g => Gl.gl g
  | .func f => .fn (.func f) [] []
def putF (T : Nat → SV) (d : Option Tmp) (v : SV) : Nat → SV := match d with
  | some d => fun i => bif Nat.beq d i then v else T i
  | none => T
theorem ev_look [Gl] (S : St) : S.ev = evF (look S.t) := by funext x; cases x <;> rfl
theorem look_put (S : St) (d : Option Tmp) (v : SV) : look (S.put d v).t = putF (look S.t) d v := by cases d <;> rfl
theorem h_put (S : St) (d : Option Tmp) (v : SV) : (S.put d v).h = S.h := by cases d <;> rfl
def Wtd (ops : List Oper) (g : Option (Nat × Bool)) (T : Nat → SV) (yes : Bool) : Prop := match g with
  | none => yes = true
  | some (j, want) => ∃ t, gdst ops j = some t ∧ ((∃ b, T t = .sc (.bool b) ∧ yes = (b == want)) ∨ (∃ c, T t = .sc (.tuple c) ∧ yes = false))
def YA [Gl] (P : Program) (N : Nat) (ops : List Oper) (o : Oper) (T : Nat → SV) (h : Heap) (v : SV) : Prop :=
  dstOk N o.dst ∧ ((Wtd ops o.guard T true ∧ Yld P o (evF T) h v) ∨ (Wtd ops o.guard T false ∧ v = .sc undef))
def opA [Gl] (P : Program) (N : Nat) (ops : List Oper) (i : Nat) (K : (Nat → SV) → Heap → Prop) (T : Nat → SV) (h : Heap) : Prop :=
  match ops[i]? with
  | none => K T h
  | some o => bif stableOp o.op then ∃ v, YA P N ops o T h v ∧ K (putF T o.dst v) h
    else ∃ S, look S.t = T ∧ S.h = h ∧ gstep ops N o.guard o.dst (stepK P N o (fun S => K (look S.t) S.h)) (fun S => K (look S.t) S.h) S
def anyA [Gl] (P : Program) (N : Nat) (ops : List Oper) (K : (Nat → SV) → Heap → Prop) : Nat → Array Bool → (Nat → SV) → Heap → Prop
  | 0, listed, T, h => Region.ready .any ops.toArray listed = [] ∧ K T h
  | f + 1, listed, T, h => (Region.ready .any ops.toArray listed = [] → K T h) ∧
    ∀ i ∈ Region.ready .any ops.toArray listed, opA P N ops i (anyA P N ops K f (listed.setIfInBounds i true)) T h
theorem Rel.look_eq [Gl] {S S' : St} {a : Act} (hr : Rel M w0 D N S a w) (h1 : look S'.t = look S.t) (h2 : S'.h = S.h) : Rel M w0 D N S' a w :=
  ⟨hr.defers, hr.n, fun i => by rw [h1, h2]; exact hr.t i, by rw [h2]; exact hr.own, hr.frm, by rw [h2]; exact hr.new⟩
theorem yielded_F [Gl] {ops : List Oper} {S : St} {a : Act} {o : Oper} {yes : Bool} (hr : Rel M w0 D N S a w) (hw : Wtd ops o.guard (look S.t) yes) : Region.wanted o (yielded ops.toArray a.tmps) = yes := by
  unfold Wtd at hw
  unfold Region.wanted
  split at hw
  · rename_i hg; rw [hg]; exact hw.symm
  · rename_i j want hg
    obtain ⟨t, ht, hw⟩ := hw
    rw [hg]
    rcases hw with ⟨b, hT, rfl⟩ | ⟨c, hT, rfl⟩
    · simp only [yielded_look ht hr hT]
      cases b <;> cases want <;> rfl
    · simp only [yielded_tup ht hr hT]
      rfl
theorem slice_tail {E : Env} {t e : TypeId} {u lo : Value} {b off n sz bytes : Nat} {f : Nat → List SV} (hx : Rep E u (.os b off n sz)) (hlo : Rep E lo (.sc (.int .i64 (n : Int)))) (hL : slk P t = some (e, sz, bytes)) :
    ∃ r, (Instr.sliceAt t u (some lo) none none).run P w = .ok r w ∧ Rep E r (.fl 0 sz f) := by
  obtain ⟨i, hu, hin, hs, rfl⟩ := slk_spec hL
  cases hx with
  | os _ _ _ cap _ m hc hm hb =>
    have hbd := sliceBounds_run (P := P) (w := w) (E := E) (isS := true) (len := n) (cap := cap) (lo := some lo) (hi := none) (slo := some (.sc (.int .i64 (n : Int)))) (shi := none) (l := n) (r := n) hlo trivial rfl rfl (by omega) (by omega) (by omega) hc
    rw [Int.toNat_natCast] at hbd
    by_cases hml : cap = n
    · refine ⟨.slice (some ⟨b, off, none⟩) 0 (cap - n), ?_, .fl0 _ _ _ _⟩
      simp only [Instr.sliceAt, Instr.slice, Sem.run_bind, run_underlying hu, Result.andThen_ok, hbd, run_sizeOf_info hin, Sem.run_pure, if_pos hml, Nat.sub_self]
    · refine ⟨.slice (some ⟨b, off + n * sz, none⟩) 0 (cap - n), ?_, .fl0 _ _ _ _⟩
      simp [Instr.sliceAt, Instr.slice, run_underlying hu, hbd, run_sizeOf_info hin, hml, hs, Addr.add_lit]
theorem yld_sound [Gl] {o : Oper} {S : St} {a : Act} {v : SV} {K : Act → World → Prop} {Q : Exit → Act → World → Prop} (hr : Rel M w0 D N S a w) (hd : dstOk N o.dst) (hy : Yld P o (evF (look S.t)) S.h v)
    (hK : ∀ a' w', Rel M w0 D N (S.put o.dst v) a' w' → K a' w') : o.wp P a w K Q := by
  rw [← ev_look] at hy
  rcases hy with ⟨pre, hv, hp⟩ | ⟨f, args, ts, g, first, captured, hop, hf, hc⟩ | ⟨t, x, lo, e, b, off, n, sz, bytes, f, hop, hL, hx, hlo, rfl⟩
  rotate_left 2
  · have h1 := hr.ev x
    have h2 := hr.ev lo
    rw [hx] at h1
    rw [hlo] at h2
    obtain ⟨r, hrun, hrep⟩ := slice_tail (P := P) (w := w) (f := f) h1 h2 hL
    have hexec : (execOp a.eval o).run P w = .ok (.value r) w := by simp [execOp, hop, hrun]
    unfold Oper.wp
    rw [hexec]
    exact hK _ _ (hr.put' hd hrep)
  · obtain ⟨r, hrun, hrep⟩ := valOp_ok (P := P) (o := o) hr.own hr.ev hv hp
    unfold Oper.wp
    rw [hrun]
    exact hK _ _ (hr.put' hd hrep)
  · have := callK_sound (P := P) (o := o) (K := fun S' => S' = S.put o.dst v) (Q := Q) hop hd hr (by
      unfold callK
      rw [hf]
      exact Call.of_pure hc rfl)
    exact Oper.wp_mono (fun a' w' ⟨S', e1, e2⟩ => hK a' w' (e1 ▸ e2)) this
theorem anyA_sound [Gl] {ops : List Oper} {Q : Exit → Act → World → Prop} {K : (Nat → SV) → Heap → Prop} (hK : ∀ S a w, K (look S.t) S.h → Rel M w0 D N S a w → Q .normal a w) :
    ∀ (f : Nat) (listed : Array Bool) (S : St) (a : Act) (w : World), Rel M w0 D N S a w → anyA P N ops K f listed (look S.t) S.h → wpAny P .any ops.toArray Q f listed a w
  | 0, listed, S, a, w, hr, h => ⟨h.1, hK S a w h.2 hr⟩
  | f + 1, listed, S, a, w, hr, h => by
    refine ⟨fun h0 => hK S a w (h.1 h0) hr, fun i hi => ?_⟩
    have hop := h.2 i hi
    unfold opA at hop
    unfold wpOp
    simp only [List.getElem?_toArray]
    split
    · rename_i ho
      simp only [ho] at hop
      exact anyA_sound hK f _ S a w hr hop
    · rename_i o ho
      simp only [ho] at hop
      by_cases hs : stableOp o.op = true
      · rw [hs] at hop
        simp only [cond_true] at hop
        obtain ⟨v, ⟨hd, hy⟩, hn⟩ := hop
        have next : ∀ a' w', Rel M w0 D N (S.put o.dst v) a' w' → wpAny P .any ops.toArray Q f (listed.setIfInBounds i true) a' w' := fun a' w' hr' =>
          anyA_sound hK f _ (S.put o.dst v) a' w' hr' (by rw [look_put, h_put]; exact hn)
        rcases hy with ⟨hw, hy⟩ | ⟨hw, rfl⟩
        · rw [if_pos (yielded_F hr hw)]
          exact .inl (yld_sound hr hd hy next)
        · rw [if_neg (by rw [yielded_F hr hw]; simp)]
          exact next _ _ (hr.put' hd (.sc _))
      · simp only [Bool.not_eq_true] at hs
        rw [hs] at hop
        simp only [cond_false] at hop
        obtain ⟨S1, e1, e2, hg⟩ := hop
        have hr1 := hr.look_eq e1 e2
        obtain ⟨S', hr', h'⟩ := gstep_sound (ops := ops) hr1 hg
        rcases h' with ⟨hw, hA⟩ | ⟨hw, hd, hB⟩
        · rw [if_pos hw]
          exact .inl (Oper.wp_mono (fun a' w' ⟨S'', h1, h2⟩ => anyA_sound hK f _ S'' a' w' h2 h1) (stepK_sound hr' hA))
        · rw [if_neg (by rw [hw]; simp)]
          exact anyA_sound hK f _ _ _ _ (hr'.put' hd (.sc _)) hB
end
end Go.Ab
/-! Ao: A region that draws its order: the order of the text serves every order. -/
namespace Go.Ab
open Go.RowKit
section
variable {P : Program} {M : Nat → Prop} {w0 : World} {D : Nat → Prop} {N : Nat} {h : Heap} {w : World}
theorem map_op_congr {ρ ρ' : Operand → SV} (xs : Array Operand) (h : ∀ x ∈ xs, ρ x = ρ' x) : xs.toList.map ρ = xs.toList.map ρ' :=
  List.map_congr_left fun x hx => h x (by simpa using hx)
theorem omap_congr {ρ ρ' : Operand → SV} (o : Option Operand) (h : ∀ x ∈ o.toArray, ρ x = ρ' x) : o.map ρ = o.map ρ' := by
  cases o with
  | none => rfl
  | some x => simp [h x (by simp)]
theorem valOp_congr [Gl] {op : Op} (hs : stableOp op = true) {ρ ρ' : Operand → SV} (h : Heap) (he : ∀ x ∈ op.operands, ρ x = ρ' x) : valOp P op ρ h = valOp P op ρ' h := by
  unfold stableOp at hs
  split at hs
  all_goals try (cases hs; done)
  all_goals simp only [Op.operands] at he
  case h_13 t x lo hi mx =>
    have e1 := he x (by simp)
    have e2 := omap_congr lo (fun y hy => he y (by simp at hy ⊢; simp [hy]))
    have e3 := omap_congr hi (fun y hy => he y (by simp at hy ⊢; simp [hy]))
    have e4 := omap_congr mx (fun y hy => he y (by simp at hy ⊢; simp [hy]))
    simp only [valOp, e1, e2, e3, e4]
  case h_15 t ps =>
    simp only [valOp]
    have : (ps.toList.map fun (i, x) => (i, ρ x)) = (ps.toList.map fun (i, x) => (i, ρ' x)) := List.map_congr_left fun p hp => by
      obtain ⟨i, x⟩ := p
      have hm : x ∈ ((ps.toList.map (·.2)).toArray : Array Operand) := by
        rw [List.mem_toArray]
        exact List.mem_map.2 ⟨(i, x), hp, rfl⟩
      simp only [he x hm]
    rw [this]
  case h_16 fn a c =>
    simp only [valOp]
    rw [map_op_congr a (fun x hx => he x (by simp [hx])), map_op_congr c (fun x hx => he x (by simp [hx]))]
  case h_17 f args ts => rfl
  case h_18 args ts =>
    unfold valOp
    split <;> first | rfl | skip
    all_goals simp_all [Call.operands, Go.Call.operands]
  case h_19 args ts =>
    unfold valOp
    split <;> first | rfl | skip
    all_goals simp_all [Go.Call.operands]
  case h_20 args ts =>
    unfold valOp
    split <;> first | rfl | skip
    all_goals simp_all [Go.Call.operands]
  all_goals simp_all [valOp]
theorem Yld_congr [Gl] {o : Oper} (hs : stableOp o.op = true) {ρ ρ' : Operand → SV} (he : ∀ x ∈ o.op.operands, ρ x = ρ' x) {v : SV} (hy : Yld P o ρ h v) : Yld P o ρ' h v := by
  rcases hy with ⟨pre, hv, hp⟩ | ⟨f, args, ts, g, first, captured, hop, hf, hc⟩ | ⟨t, x, lo, e, b, off, n, sz, bytes, f, hop, hL, hx, hlo, rfl⟩
  rotate_left 2
  · rw [hop] at he
    simp only [Op.operands] at he
    have e1 : ρ' x = ρ x := (he x (by simp)).symm
    have e2 : ρ' lo = ρ lo := (he lo (by simp)).symm
    exact .inr (.inr ⟨t, x, lo, e, b, off, n, sz, bytes, f, hop, hL, by rw [e1]; exact hx, by rw [e2]; exact hlo, rfl⟩)
  · exact .inl ⟨pre, by rw [← valOp_congr hs h he]; exact hv, hp⟩
  · rw [hop] at he
    simp only [Op.operands, Go.Call.operands] at he
    have e1 : ρ' f = ρ f := (he f (by simp)).symm
    have e2 : args.toList.map ρ' = args.toList.map ρ := (map_op_congr args (fun x hx => he x (by simp [hx]))).symm
    exact .inr (.inl ⟨f, args, ts, g, first, captured, hop, by rw [e1]; exact hf, by rw [e2]; exact hc⟩)
def Away (ops : List Oper) (o : Oper) (d : Option Tmp) : Prop := ∀ t, d = some t → t ∉ o.looksAt ops.toArray
theorem putF_other {T : Nat → SV} {d : Option Tmp} {v : SV} {i : Nat} (hne : d ≠ some i) : putF T d v i = T i := by
  cases d with
  | none => rfl
  | some d =>
    have : Nat.beq d i = false := by rw [← Bool.not_eq_true, Nat.beq_eq]; exact fun e => hne (by rw [e])
    simp [putF, this]
theorem evF_putF [Gl] {ops : List Oper} {o : Oper} {T : Nat → SV} {d : Option Tmp} {v : SV} (ha : Away ops o d) : ∀ x ∈ o.op.operands, evF (putF T d v) x = evF T x := by
  intro x hx
  cases x with
  | tmp i =>
    refine putF_other (fun e => ha i e ?_)
    exact List.mem_append_left _ (List.mem_filterMap.2 ⟨.tmp i, by simpa using hx, rfl⟩)
  | _ => rfl
theorem Wtd_putF [Gl] {ops : List Oper} {o : Oper} {T : Nat → SV} {d : Option Tmp} {v : SV} (ha : Away ops o d) {yes : Bool} : Wtd ops o.guard (putF T d v) yes ↔ Wtd ops o.guard T yes := by
  unfold Wtd
  split
  · exact Iff.rfl
  · rename_i j want hg
    have key : ∀ t, gdst ops j = some t → putF T d v t = T t := fun t ht => by
      refine putF_other (fun e => ha t e ?_)
      refine List.mem_append_right _ ?_
      rw [hg]
      unfold gdst at ht
      split at ht
      · rename_i o' ho'
        simp only [List.getElem?_toArray, ho', Option.bind_some, ht]
        simp
      · cases ht
    constructor
    · rintro ⟨t, ht, hT⟩; exact ⟨t, ht, by rw [key t ht] at hT; exact hT⟩
    · rintro ⟨t, ht, hT⟩; exact ⟨t, ht, by rw [key t ht]; exact hT⟩
theorem YA_putF [Gl] {ops : List Oper} {o : Oper} (hs : stableOp o.op = true) {T : Nat → SV} {d : Option Tmp} {v u : SV} (ha : Away ops o d) : YA P N ops o (putF T d v) h u ↔ YA P N ops o T h u := by
  unfold YA
  have hy : Yld P o (evF (putF T d v)) h u ↔ Yld P o (evF T) h u :=
    ⟨Yld_congr hs (evF_putF ha), Yld_congr hs (fun x hx => (evF_putF ha x hx).symm)⟩
  rw [Wtd_putF ha, Wtd_putF ha, hy]
theorem putF_comm (T : Nat → SV) {x y : Option Tmp} (v u : SV) (hne : ∀ d, x = some d → y ≠ some d) : putF (putF T x v) y u = putF (putF T y u) x v := by
  cases x with
  | none => rfl
  | some d =>
    cases y with
    | none => rfl
    | some e =>
      have hde : d ≠ e := fun he => hne d rfl (he ▸ rfl)
      funext i
      simp only [putF]
      by_cases h1 : Nat.beq e i = true
      · rw [h1]
        rw [Nat.beq_eq] at h1
        have : Nat.beq d i = false := by rw [← Bool.not_eq_true, Nat.beq_eq, ← h1]; exact hde
        rw [this]; rfl
      · simp only [Bool.not_eq_true] at h1; rw [h1]; rfl
theorem opA_mono [Gl] {ops : List Oper} {i : Nat} {o : Oper} (ho : ops[i]? = some o) (hs : stableOp o.op = true) {K K' : (Nat → SV) → Heap → Prop} {T : Nat → SV} (hk : ∀ T, K T h → K' T h) (hh : opA P N ops i K T h) : opA P N ops i K' T h := by
  unfold opA at hh ⊢
  simp only [ho, hs, cond_true] at hh ⊢
  obtain ⟨v, hy, hn⟩ := hh
  exact ⟨v, hy, hk _ hn⟩
theorem opA_put [Gl] {ops : List Oper} {j : Nat} {oi oj : Oper} {v : SV} (hj : ops[j]? = some oj) (hap : oi.apart ops.toArray oj = true) (hsi : stableOp oi.op = true) (hsj : stableOp oj.op = true)
    {K : (Nat → SV) → Heap → Prop} {T : Nat → SV} (hy : YA P N ops oi T h v) (hh : opA P N ops j K (putF T oi.dst v) h) :
    opA P N ops j (fun T' h' => h' = h ∧ YA P N ops oi T' h v ∧ K (putF T' oi.dst v) h) T h := by
  obtain ⟨h1, h2, h3⟩ := Oper.apart_spec hap
  unfold opA at hh ⊢
  simp only [hj, hsj, cond_true] at hh ⊢
  obtain ⟨u, hu, hn⟩ := hh
  exact ⟨u, (YA_putF hsj (fun t ht => h1 t ht)).1 hu, trivial, (YA_putF hsi (fun t ht => h3 t ht)).2 hy, by rw [← putF_comm T v u h2]; exact hn⟩
theorem anyA_first [Gl] {ops : List Oper} {K : (Nat → SV) → Heap → Prop} {i : Nat} {oi : Oper} {v : SV} (hi : ops[i]? = some oi) (hsi : stableOp oi.op = true) :
    ∀ (fuel : Nat) (listed : Array Bool) (T : Nat → SV),
      (∀ j oj, ops[j]? = some oj → j ≠ i → listed.getD j true = false → (∀ e ∈ oj.after, Region.binds .any e = true → e.on ≠ i) → oi.apart ops.toArray oj = true ∧ stableOp oj.op = true) →
      i ∈ Region.ready .any ops.toArray listed → YA P N ops oi T h v →
      anyA P N ops K fuel (listed.setIfInBounds i true) (putF T oi.dst v) h → anyA P N ops K (fuel + 1) listed T h := by
  have use : ∀ {K' : (Nat → SV) → Heap → Prop} {T : Nat → SV}, YA P N ops oi T h v → K' (putF T oi.dst v) h → opA P N ops i K' T h := fun hy hk => by
    unfold opA; simp only [hi, hsi, cond_true]; exact ⟨v, hy, hk⟩
  intro fuel
  induction fuel with
  | zero =>
    intro listed T _ hr hy H
    refine ⟨fun h => (by rw [h] at hr; cases hr), fun j hj => ?_⟩
    by_cases hji : j = i
    · subst hji; exact use hy H
    · have := ready_mono hj hji
      rw [H.1] at this
      cases this
  | succ fuel ih =>
    intro listed T hfree hr hy H
    refine ⟨fun h => (by rw [h] at hr; cases hr), fun j hj => ?_⟩
    by_cases hji : j = i
    · subst hji; exact use hy H
    · have h1 := H.2 j (ready_mono hj hji)
      obtain ⟨hjun, oj, hoj, hall⟩ := mem_ready.1 hj
      rw [List.getElem?_toArray] at hoj
      have hnot : ∀ e ∈ oj.after, Region.binds .any e = true → e.on ≠ i := fun e he hb heq => by
        have h1 := hall e he hb
        have h0 := (mem_ready.1 hr).1
        rw [heq] at h1
        rcases Nat.lt_or_ge i listed.size with h' | h'
        · simp [h'] at h0 h1; rw [h0] at h1; cases h1
        · simp [Array.getElem?_eq_none h'] at h1
      obtain ⟨hap, hsj⟩ := hfree j oj hoj hji hjun hnot
      have h2 := opA_put hoj hap hsi hsj hy h1
      have hfree' : ∀ k ok, ops[k]? = some ok → k ≠ i → (listed.setIfInBounds j true).getD k true = false →
          (∀ e ∈ ok.after, Region.binds .any e = true → e.on ≠ i) → oi.apart ops.toArray ok = true ∧ stableOp ok.op = true := fun k ok hk hki hun hno => by
        refine hfree k ok hk hki ?_ hno
        by_cases hjk : j = k
        · subst hjk; exact hjun
        · rw [getD_set_ne true hjk] at hun; exact hun
      refine opA_mono hoj hsj (fun T' ⟨_, h3, h4⟩ => ih (listed.setIfInBounds j true) T' hfree' (ready_mono hr (Ne.symm hji)) h3 ?_) h2
      rw [Array.setIfInBounds_comm _ _ hji]
      exact h4
/-! ### the order of the text -/
def frees (ops : List Oper) (listed : Array Bool) (k : Nat) (ok : Oper) : Bool :=
  (List.range ops.length).all fun j => Nat.beq j k || listed.getD j true || (match ops[j]? with
    | some oj => (oj.after.any fun e => Region.binds .any e && Nat.beq e.on k) || (ok.apart ops.toArray oj && stableOp oj.op)
    | none => true)
def lexAt (ops : List Oper) : Nat → Nat → Array Bool → Bool
  | 0, _, listed => (Region.ready .any ops.toArray listed).isEmpty
  | f + 1, k, listed => (match ops[k]? with
      | some ok => bif stableOp ok.op then (Region.ready .any ops.toArray listed).contains k && frees ops listed k ok else (Region.ready .any ops.toArray listed) == [k]
      | none => false) && lexAt ops f (k + 1) (listed.setIfInBounds k true)
def lexOk (ops : List Oper) : Bool := lexAt ops ops.length 0 (Array.replicate ops.length false)
theorem frees_spec {ops : List Oper} {listed : Array Bool} {k : Nat} {ok : Oper} (hf : frees ops listed k ok = true) :
    ∀ j oj, ops[j]? = some oj → j ≠ k → listed.getD j true = false → (∀ e ∈ oj.after, Region.binds .any e = true → e.on ≠ k) → ok.apart ops.toArray oj = true ∧ stableOp oj.op = true := by
  intro j oj hj hjk hun hno
  unfold frees at hf
  have hlt : j < ops.length := (List.getElem?_eq_some_iff.1 hj).1
  have h1 := List.all_eq_true.1 hf j (List.mem_range.2 hlt)
  have hb : Nat.beq j k = false := by rw [← Bool.not_eq_true, Nat.beq_eq]; exact hjk
  simp only [hb, hun, hj, Bool.false_or] at h1
  rw [Bool.or_eq_true] at h1
  rcases h1 with h1 | h1
  · rw [Array.any_eq_true'] at h1
    obtain ⟨e, he, hbe⟩ := h1
    rw [Bool.and_eq_true, Nat.beq_eq] at hbe
    exact absurd hbe.2 (hno e he hbe.1)
  · rwa [Bool.and_eq_true] at h1
theorem sstep_of [Gl] {ops : List Oper} {o : Oper} (hs : stableOp o.op = true) {K : St → Prop} {S : St}
    (hg : gstep ops N o.guard o.dst (stepD P N o K) K S) : ∃ (S1 : St) (v : SV), look S1.t = look S.t ∧ S1.h = S.h ∧ YA P N ops o (look S.t) S.h v ∧ K (S1.put o.dst v) := by
  have st : ∀ S1 : St, look S1.t = look S.t → S1.h = S.h → Wtd ops o.guard (look S.t) true → stepD P N o K S1 → ∃ v, YA P N ops o (look S.t) S.h v ∧ K (S1.put o.dst v) := by
    intro S1 e1 e2 hw hd
    unfold stepD at hd
    rw [hs] at hd
    simp only [cond_true] at hd
    obtain ⟨hdst, hd⟩ := hd
    unfold resD at hd
    rw [ev_look, e1, e2] at hd
    split at hd
    · rename_i pre v hv
      exact ⟨v, ⟨hdst, .inl ⟨hw, .inl ⟨pre, hv, hd.1⟩⟩⟩, hd.2⟩
    · exact hd.elim
    · unfold effD at hd
      split at hd
      · rename_i f args ts hop
        unfold pcallK at hd
        split at hd
        · rename_i g first captured hf
          obtain ⟨r, hc, hK⟩ := hd
          rw [ev_look, e1] at hf hc
          exact ⟨r, ⟨hdst, .inl ⟨hw, .inr (.inl ⟨f, args, ts, g, first, captured, hop, hf, hc⟩)⟩⟩, hK⟩
        · exact hd.elim
      · exact hd.elim
  unfold gstep at hg
  split at hg
  · rename_i hgd
    obtain ⟨v, h1, h2⟩ := st S rfl rfl (by rw [hgd]; rfl) hg
    exact ⟨S, v, rfl, rfl, h1, h2⟩
  · rename_i j want hgd
    unfold guardK at hg
    split at hg
    · exact hg.elim
    · rename_i t ht
      unfold guardB at hg
      split at hg
      · rename_i b hb
        have same : look (S.put (some t) (.sc (.bool b))).t = look S.t := by
          rw [look_put]
          funext i
          simp only [putF]
          by_cases hi : Nat.beq t i = true
          · rw [hi]; rw [Nat.beq_eq] at hi; subst hi; exact hb.symm
          · simp only [Bool.not_eq_true] at hi; rw [hi]; rfl
        have yes : Wtd ops o.guard (look S.t) (b == want) := by rw [hgd]; exact ⟨t, ht, .inl ⟨b, hb, rfl⟩⟩
        cases b
        · simp only [Bool.false_eq_true, if_false] at hg
          cases want
          · obtain ⟨v, h1, h2⟩ := st _ same (h_put _ _ _) yes hg
            exact ⟨_, v, same, h_put _ _ _, h1, h2⟩
          · exact ⟨_, .sc undef, same, h_put _ _ _, ⟨hg.1, .inr ⟨yes, rfl⟩⟩, hg.2⟩
        · simp only [if_true] at hg
          cases want
          · exact ⟨_, .sc undef, same, h_put _ _ _, ⟨hg.1, .inr ⟨yes, rfl⟩⟩, hg.2⟩
          · obtain ⟨v, h1, h2⟩ := st _ same (h_put _ _ _) yes hg
            exact ⟨_, v, same, h_put _ _ _, h1, h2⟩
      · rename_i c hc
        have no : Wtd ops o.guard (look S.t) false := by rw [hgd]; exact ⟨t, ht, .inr ⟨c, hc, rfl⟩⟩
        exact ⟨S, .sc undef, rfl, rfl, ⟨hg.1, .inr ⟨no, rfl⟩⟩, hg.2⟩
      · exact hg.elim
theorem gstep_mono {ops : List Oper} {g : Option (Nat × Bool)} {dst : Option Tmp} {A A' K K' : St → Prop} {S : St} (hA : ∀ S, A S → A' S) (hK : ∀ S, K S → K' S) (h : gstep ops N g dst A K S) : gstep ops N g dst A' K' S := by
  cases g with
  | none => exact hA _ h
  | some jw =>
    obtain ⟨j, want⟩ := jw
    simp only [gstep] at h ⊢
    cases ht : gdst ops j with
    | none => rw [ht] at h; exact h.elim
    | some t =>
      rw [ht] at h
      simp only [guardK] at h ⊢
      generalize look S.t t = x at *
      unfold guardB at *
      split at h
      · rename_i b
        cases b
        · simp only [Bool.false_eq_true, if_false] at h ⊢
          cases want
          · exact hA _ h
          · exact ⟨h.1, hK _ h.2⟩
        · simp only [if_true] at h ⊢
          cases want
          · exact ⟨h.1, hK _ h.2⟩
          · exact hA _ h
      · exact ⟨h.1, hK _ h.2⟩
      · exact h.elim
theorem stepK_mono [Gl] {o : Oper} {K K' : St → Prop} {S : St} (hK : ∀ S, K S → K' S) (h : stepK P N o K S) : stepK P N o K' S := by
  obtain ⟨hd, h⟩ := h
  refine ⟨hd, ?_⟩
  unfold resK at *
  split at h
  · exact ⟨h.1, hK _ h.2⟩
  · exact ⟨h.1, fun b hb => hK _ (h.2 b hb)⟩
  · unfold effK at *
    split at h
    · exact ⟨h.1, h.2.1, fun b hb => hK _ (h.2.2 b hb)⟩
    · unfold mputK at *
      split at h
      · split at h
        · refine ⟨h.1, ?_⟩
          replace h := h.2
          unfold mputR at *
          split at h
          · exact hK _ h
          · exact h
        · exact h
      · exact h
    · unfold mputK at *
      split at h
      · split at h
        · refine ⟨h.1, ?_⟩
          replace h := h.2
          unfold mputR at *
          split at h
          · exact hK _ h
          · exact h
        · exact h
      · exact h
    · unfold mdelK at *
      split at h
      · split at h
        · refine ⟨h.1, ?_⟩
          replace h := h.2
          unfold mdelR at *
          split at h
          · exact hK _ h
          · exact h
        · exact h
      · exact h
    · unfold ifcK at *
      split at h
      · exact ⟨h.1, hK _ h.2⟩
      · exact h
    · unfold strK at *
      split at h
      · exact ⟨h.1, h.2.1, hK _ h.2.2⟩
      · exact h
    · unfold storeK at *
      split at h
      · split at h
        · exact ⟨h.1, h.2.1, hK _ h.2.2⟩
        · exact h
      · exact h
    · unfold callK at *
      split at h
      · exact Call.mono h (fun _ _ x => hK _ x)
      · exact h
    · rename_i s x st xt _
      cases hN : notInt P xt with
      | true =>
        rw [hN] at h
        simp only [cond_true] at h ⊢
        unfold appX at *
        cases hsb : sameB (S.ev s) (S.ev x) with
        | true => rw [hsb] at h; exact appCK_mono (t := S.t) (t' := S.t) (fun _ _ => hK _) h
        | false =>
        rw [hsb] at h
        simp only [cond_false] at h ⊢
        unfold appK at *
        split at h
        · obtain ⟨h1, h2, h3, h4, h5, h6⟩ := h
          refine ⟨h1, h2, h3, h4, h5, ?_⟩
          split at h6
          · exact ⟨h6.1, h6.2.1, fun x => hK _ (h6.2.2.1 x), fun x b hb => hK _ (h6.2.2.2 x b hb)⟩
          · unfold appOsK at *
            split at h6
            · obtain ⟨g1, g2, g3, g4, g5, g6⟩ := h6
              exact ⟨g1, g2, g3, g4, g5, fun b hb => hK _ (g6 b hb)⟩
            · exact h6
          · exact ⟨h6.1, h6.2.1, h6.2.2.1, fun x => hK _ (h6.2.2.2.1 x), fun x b hb => hK _ (h6.2.2.2.2 x b hb)⟩
          · unfold appOtK at *
            split at h6
            · obtain ⟨g1, g2, g3, g4, g5, g6⟩ := h6
              exact ⟨g1, g2, g3, g4, g5, fun b hb => hK _ (g6 b hb)⟩
            · exact h6
          · exact h6
        · exact h
      | false =>
        rw [hN] at h
        simp only [cond_false] at h ⊢
        cases hI : (ik P xt).isSome with
        | true =>
          rw [hI] at h
          simp only [cond_true] at h ⊢
          unfold appZK at *
          split at h
          · obtain ⟨h1, h2, h3, h4, h5, h6⟩ := h
            exact ⟨h1, h2, h3, h4, h5, fun b hb => hK _ (h6 b hb)⟩
          · exact h
        | false =>
          rw [hI] at h
          exact h.elim
    · exact h
theorem anyA_lex [Gl] {ops : List Oper} {K : St → Prop} : ∀ (l : List Oper) (k : Nat) (listed : Array Bool) (S : St), (∀ j, l[j]? = ops[k + j]?) →
    lexAt ops l.length k listed = true → vcD P N ops l K S → anyA P N ops (fun T h => ∃ S', look S'.t = T ∧ S'.h = h ∧ K S') l.length listed (look S.t) S.h
  | [], _, _, S, _, hB, h => ⟨by simpa [lexAt] using hB, S, rfl, rfl, h⟩
  | o :: l, k, listed, S, hl, hB, h => by
    have h0 : ops[k]? = some o := by simpa using (hl 0).symm
    simp only [List.length_cons, lexAt, h0, Bool.and_eq_true] at hB
    obtain ⟨hr, hB'⟩ := hB
    have hl' : ∀ j, l[j]? = ops[k + 1 + j]? := fun j => by have := hl (j + 1); simpa [Nat.add_assoc, Nat.add_comm 1 j] using this
    by_cases hs : stableOp o.op = true
    · rw [hs] at hr
      simp only [cond_true, Bool.and_eq_true] at hr
      obtain ⟨S1, v, e1, e2, hy, hK⟩ := sstep_of hs h
      refine anyA_first h0 hs l.length listed _ (frees_spec hr.2) (by simpa using hr.1) hy ?_
      have := anyA_lex l (k + 1) _ _ hl' hB' hK
      rw [look_put, h_put, e1, e2] at this
      exact this
    · simp only [Bool.not_eq_true] at hs
      rw [hs] at hr
      simp only [cond_false, beq_iff_eq] at hr
      refine ⟨fun h => (by rw [hr] at h; cases h), fun i hi => ?_⟩
      rw [hr] at hi
      obtain rfl : i = k := by simpa using hi
      unfold opA
      simp only [h0, hs, cond_false]
      refine ⟨S, rfl, rfl, ?_⟩
      unfold vcD at h
      refine gstep_mono (fun S' hS => ?_) (fun S' hS => anyA_lex l (i + 1) _ _ hl' hB' hS) h
      unfold stepD at hS
      rw [hs] at hS
      exact stepK_mono (fun S'' hS => anyA_lex l (i + 1) _ _ hl' hB' hS) hS
theorem vcD_sound [Gl] {ops : List Oper} {id : Nat} {Q : Exit → Act → World → Prop} {K : St → Prop} (hm : P.follows .mixedOrders = true) (hB : lexOk ops = true) (hK : ∀ S a w, K S → Rel M w0 D N S a w → Q .normal a w)
    {S : St} {a : Act} (hr : Rel M w0 D N S a w) (h : vcD P N ops ops K S) : (Code.region id ops.toArray true).wp P Q a w := by
  refine wp_region_any hm ?_
  have hr' : Rel M w0 D N S a (drw w) := ⟨hr.defers, hr.n, fun i => (hr.t i).mono (env_drw _ _), hr.own.drw, hr.frm.trans (frm_drw (fun _ => False) w) (fun _ _ x => x.elim), hr.new⟩
  have := anyA_lex ops 0 (Array.replicate ops.length false) S (by simp) hB h
  have := anyA_sound (Q := Q) (K := fun T h => ∃ S', look S'.t = T ∧ S'.h = h ∧ K S') (fun S a w hx hr => by
    obtain ⟨S', e1, e2, hS⟩ := hx
    exact hK S' a w hS (hr.look_eq e1 e2)) _ _ S a _ hr' this
  simpa [drw] using this
end
end Go.Ab
/-! Ap: Code, loops, the beginning and the end of a function. -/
namespace Go.Ab
open Go.RowKit
structure SW [Gl] (P : Program) (N : Nat) (c : Code) (Q : Exit → St → Prop) (S : St) : Prop where
  run : ∀ (M : Nat → Prop) (w0 : World) (D : Nat → Prop) (a : Act) (w : World), Rel M w0 D N S a w → c.wp P (fun e a' w' => ∃ S', Q e S' ∧ Rel M w0 D N S' a' w') a w
def St.le [Gl] (S S' : St) : Prop := ∀ (M : Nat → Prop) (w0 : World) (D : Nat → Prop) (N : Nat) (a : Act) (w : World), Rel M w0 D N S a w → Rel M w0 D N S' a w
theorem St.le.refl [Gl] (S : St) : S.le S := fun _ _ _ _ _ _ h => h
theorem St.le.trans [Gl] {S S' S'' : St} (h : S.le S') (h' : S'.le S'') : S.le S'' := fun M w0 D N a w r => h' M w0 D N a w (h M w0 D N a w r)
def thn (K : St → Prop) (Q : Exit → St → Prop) : Exit → St → Prop
  | .normal, S => K S
  | e, S => Q e S
def inB (id : Nat) (Q : Exit → St → Prop) : Exit → St → Prop
  | .exit i, S => bif Nat.beq i id then Q .normal S else Q (.exit i) S
  | e, S => Q e S
section
variable {P : Program} {N : Nat} {Q : Exit → St → Prop} {S : St}
theorem SW.mono [Gl] {c : Code} {Q' : Exit → St → Prop} (h : SW P N c Q S) (hq : ∀ e S, Q e S → Q' e S) : SW P N c Q' S :=
  ⟨fun M w0 D a w hr => wp_mono (h.run M w0 D a w hr) fun e a' w' ⟨S', h1, h2⟩ => ⟨S', hq _ _ h1, h2⟩⟩
theorem SW.le [Gl] {c : Code} {S' : St} (hl : S.le S') (h : SW P N c Q S') : SW P N c Q S := ⟨fun M w0 D a w hr => h.run M w0 D a w (hl M w0 D N a w hr)⟩
theorem SW.seq [Gl] {x y : Code} (h : SW P N x (thn (SW P N y Q) Q) S) : SW P N (.seq x y) Q S := SW.mk fun M w0 D a w hr => by
  refine wp_seq (wp_mono (h.run M w0 D a w hr) fun e a' w' ⟨S', h1, h2⟩ => ?_)
  cases e with
  | normal => exact SW.run (show SW P N y Q S' from h1) M w0 D a' w' h2
  | exit i => exact ⟨S', h1, h2⟩
  | goto l => exact ⟨S', h1, h2⟩
  | ret => exact ⟨S', h1, h2⟩
  | panic c => exact ⟨S', h1, h2⟩
  | outgrown => exact ⟨S', h1, h2⟩
theorem SW.seq_k [Gl] {x y : Code} (h : ∀ K : St → Prop, (∀ S, SW P N y Q S → K S) → SW P N x (thn K Q) S) : SW P N (.seq x y) Q S := SW.seq (h _ fun _ h => h)
theorem SW.block [Gl] {id : Nat} {c : Code} (h : SW P N c (inB id Q) S) : SW P N (.block id c) Q S := SW.mk fun M w0 D a w hr => by
  refine wp_block (wp_mono (h.run M w0 D a w hr) fun e a' w' ⟨S', h1, h2⟩ => ?_)
  cases e with
  | exit i =>
    simp only [inB] at h1
    show if i = id then _ else _
    by_cases hi : i = id
    · rw [if_pos hi]
      rw [show Nat.beq i id = true by rw [Nat.beq_eq]; exact hi] at h1
      exact ⟨S', h1, h2⟩
    · rw [if_neg hi]
      rw [show Nat.beq i id = false by rw [← Bool.not_eq_true, Nat.beq_eq]; exact hi] at h1
      exact ⟨S', h1, h2⟩
  | normal => exact ⟨S', h1, h2⟩
  | goto l => exact ⟨S', h1, h2⟩
  | ret => exact ⟨S', h1, h2⟩
  | panic c => exact ⟨S', h1, h2⟩
  | outgrown => exact ⟨S', h1, h2⟩
theorem SW.skip [Gl] (h : Q .normal S) : SW P N .skip Q S := ⟨fun _ _ _ _ _ hr => wp_skip ⟨S, h, hr⟩⟩
theorem SW.exit [Gl] {id : Nat} (h : Q (.exit id) S) : SW P N (.exit id) Q S := ⟨fun _ _ _ _ _ hr => wp_exit ⟨S, h, hr⟩⟩
theorem SW.ret [Gl] (h : Q .ret S) : SW P N .ret Q S := ⟨fun _ _ _ _ _ hr => wp_ret ⟨S, h, hr⟩⟩
def condK (x : SV) (A B : Prop) : Prop := match x with
  | .sc (.bool b) => if b = true then A else B
  | _ => False
theorem SW.cond [Gl] {c : Operand} {x y : Code} (h : condK (S.ev c) (SW P N x Q S) (SW P N y Q S)) : SW P N (.cond c x y) Q S := SW.mk fun M w0 D a w hr => by
  unfold condK at h
  split at h
  · rename_i b hb
    have hc := hr.ev c
    rw [hb] at hc
    generalize hv : a.eval c = v at hc
    cases hc
    cases b
    · simp only [Bool.false_eq_true, if_false] at h
      exact wp_cond_false hv (h.run M w0 D a w hr)
    · simp only [if_true] at h
      exact wp_cond_true hv (h.run M w0 D a w hr)
  · exact h.elim
theorem SW.region [Gl] {id : Nat} {l : List Oper} (h : vcOps P N l l (Q .normal) S) : SW P N (.region id l.toArray false) Q S := SW.mk fun M w0 D a w hr => by
  refine wp_region_list ?_
  simpa using vcOps_sound (K := Q .normal) (Q := fun e a' w' => ∃ S', Q e S' ∧ Rel M w0 D N S' a' w') (fun S a w h hr => ⟨S, h, hr⟩) l S a w h hr
theorem SW.regionD [Gl] {id : Nat} {l : List Oper} (hm : P.follows .mixedOrders = true) (hB : lexOk l = true) (h : vcD P N l l (Q .normal) S) : SW P N (.region id l.toArray true) Q S := SW.mk fun M w0 D a w hr =>
  vcD_sound (K := Q .normal) hm hB (fun S a w h hr => ⟨S, h, hr⟩) hr h
theorem SW.loop [Gl] {c : Code} (I : Nat → St → Prop) (n : Nat) (h0 : I n S) (round : ∀ n S, I n S → SW P N c (thn (fun S' => ∃ m S'', m < n ∧ S'.le S'' ∧ I m S'') Q) S) : SW P N (.loop c) Q S := SW.mk fun M w0 D a w hr => by
  let J : Act → World → Prop := fun a w => ∃ n S, I n S ∧ Rel M w0 D N S a w
  have least : ∀ a w, J a w → ∃ n, (∃ S, I n S ∧ Rel M w0 D N S a w) ∧ ∀ m, (∃ S, I m S ∧ Rel M w0 D N S a w) → n ≤ m := fun a w ⟨n, hn⟩ => by
    induction n using Nat.strongRecOn with
    | _ n ih =>
      by_cases hl : ∃ m, m < n ∧ ∃ S, I m S ∧ Rel M w0 D N S a w
      · obtain ⟨m, hmn, hm⟩ := hl
        exact ih m hmn hm
      · exact ⟨n, hn, fun m hm => Nat.le_of_not_lt fun hlt => hl ⟨m, hlt, hm⟩⟩
  have : ∀ a w, ∃ n, J a w → (∃ S, I n S ∧ Rel M w0 D N S a w) ∧ ∀ m, (∃ S, I m S ∧ Rel M w0 D N S a w) → n ≤ m := fun a w => by
    by_cases hJ : J a w
    · obtain ⟨n, hn⟩ := least a w hJ; exact ⟨n, fun _ => hn⟩
    · exact ⟨0, fun x => absurd x hJ⟩
  obtain ⟨μ, hμ⟩ := Classical.axiomOfChoice (r := fun (a : Act) (f : World → Nat) => ∀ w, J a w → (∃ S, I (f w) S ∧ Rel M w0 D N S a w) ∧ ∀ m, (∃ S, I m S ∧ Rel M w0 D N S a w) → f w ≤ m)
    (fun a => ⟨fun w => (Classical.choose (this a w)), fun w => Classical.choose_spec (this a w)⟩)
  refine wp_loop J μ ⟨n, S, h0, hr⟩ fun a w hJ => ?_
  obtain ⟨⟨S1, hI, hr1⟩, _⟩ := hμ a w hJ
  refine wp_mono ((round _ S1 hI).run M w0 D a w hr1) fun e a' w' ⟨S', h1, h2⟩ => ?_
  cases e with
  | normal =>
    obtain ⟨m, S'', hm, hle, hI'⟩ := h1
    have hr' := hle M w0 D N a' w' h2
    have hJ' : J a' w' := ⟨m, S'', hI', hr'⟩
    exact ⟨hJ', Nat.lt_of_le_of_lt ((hμ a' w' hJ').2 m ⟨S'', hI', hr'⟩) hm⟩
  | exit i => exact ⟨S', h1, h2⟩
  | goto l => exact ⟨S', h1, h2⟩
  | ret => exact ⟨S', h1, h2⟩
  | panic c => exact ⟨S', h1, h2⟩
  | outgrown => exact ⟨S', h1, h2⟩
/-! ### the beginning and the end -/
def argT (i : Nat) (l : List SV) : List (Nat × SV) := match l with
  | [] => []
  | x :: r => (i, x) :: argT (i + 1) r
def resV (P : Program) (S : St) (r : ResultVar) : VRes := match r with
  | .tmp t => .ok True (look S.t t)
  | .cell x t => loadSV (tk P t) (look S.t x) S.h
def resL (P : Program) (S : St) (rs : List ResultVar) (K : List SV → Prop) : Prop := match rs with
  | [] => K []
  | r :: rest => match resV P S r with
    | .ok pre v => pre ∧ resL P S rest (fun vs => K (v :: vs))
    | _ => False
def tupOf (vs : List SV) : SV := match vs with
  | [v] => v
  | vs => .tup vs
def retQ [Gl] (P : Program) (rs : List ResultVar) (Q : SV → Heap → Prop) (e : Exit) (S : St) : Prop := match e with
  | .normal => ∃ S', S.le S' ∧ resL P S' rs (fun vs => Q (tupOf vs) S'.h)
  | .ret => ∃ S', S.le S' ∧ resL P S' rs (fun vs => Q (tupOf vs) S'.h)
  | _ => False
theorem look_argT (l : List SV) : ∀ (i j : Nat), i ≤ j → look (argT i l) j = l.getD (j - i) .any := by
  induction l with
  | nil => intro i j _; simp [argT, look]
  | cons x r ih =>
    intro i j hij
    simp only [argT, look]
    by_cases h : i = j
    · subst h
      rw [show Nat.beq i i = true by rw [Nat.beq_eq]]
      simp
    · rw [show Nat.beq i j = false by rw [← Bool.not_eq_true, Nat.beq_eq]; exact h]
      simp only [cond_false]
      rw [ih (i + 1) j (by omega), show j - i = (j - (i + 1)) + 1 by omega]
      simp
def resOne (tmps : Array Value) (r : ResultVar) : Sem Value := match r with
  | .tmp t => pure (tmps.getD t undef)
  | .cell x t => do loadVar t (← asAddr (tmps.getD x undef))
def unl (us : List Value) : Value := match us with
  | [u] => u
  | us => .tuple us.toArray
theorem results_eq (fn : Func) (tmps : Array Value) : results fn tmps = (do let vs ← fn.results.mapM (resOne tmps); pure (if h : vs.size = 1 then vs[0] else .tuple vs)) := rfl
theorem resL_sound [Gl] {M : Nat → Prop} {w0 : World} {D : Nat → Prop} {a : Act} {w : World} (hr : Rel M w0 D N S a w) : ∀ (rs : List ResultVar) (K : List SV → Prop), resL P S rs K →
    ∃ (us : List Value) (vs : List SV), (rs.mapM (resOne a.tmps)).run P w = .ok us w ∧
      us.length = vs.length ∧ (∀ i, i < vs.length → Rep (envOf (hid M S.h) w) (us.getD i undef) (vs.getD i .any)) ∧ K vs
  | [], K, h => ⟨[], [], by simp, rfl, fun i hi => absurd hi (by simp), h⟩
  | r :: rest, K, h => by
    unfold resL at h
    split at h
    · rename_i pre v hv
      obtain ⟨us, vs, h1, h2, h3, h4⟩ := resL_sound hr rest _ h.2
      have one : ∃ u, (resOne a.tmps r).run P w = .ok u w ∧ Rep (envOf (hid M S.h) w) u v := by
        cases r with
        | tmp t => cases hv; exact ⟨_, rfl, hr.t t⟩
        | cell x t =>
          obtain ⟨u, hu, hrep⟩ := load_sound hr.own (hr.t x) hv h.1
          refine ⟨u, ?_, hrep⟩
          have hp : ∃ ad, a.tmps.getD x undef = .pointer (some ad) := by
            have hx := hr.t x
            simp only [resV] at hv
            unfold loadSV at hv
            split at hv
            all_goals first | (cases hv; done) | skip
            all_goals
              rename_i hxv
              rw [hxv] at hx
              generalize a.tmps.getD x undef = xv at hx
              cases hx
              exact ⟨_, rfl⟩
          obtain ⟨ad, had⟩ := hp
          rw [had] at hu
          show ((do loadVar t (← asAddr (a.tmps.getD x undef))) : Sem Value).run P w = .ok u w
          rw [had]
          simpa [Instr.loadAt, Instr.sureAddr, asAddr] using hu
      obtain ⟨u, hu, hrep⟩ := one
      refine ⟨u :: us, v :: vs, ?_, by simp [h2], fun i hi => ?_, h4⟩
      · rw [List.mapM_cons]
        simp only [Sem.run_bind, hu, Result.andThen_ok, h1, Sem.run_pure]
      · cases i with
        | zero => simpa using hrep
        | succ i => simpa using h3 i (by simpa using hi)
    · exact h.elim
theorem run_results [Gl] {fn : Func} {tmps : Array Value} {w : World} {us : List Value} (h : (fn.results.toList.mapM (resOne tmps)).run P w = .ok us w) :
    (results fn tmps).run P w = .ok (unl us) w := by
  rw [results_eq, Array.mapM_eq_mapM_toList]
  simp only [Sem.run_bind, Sem.run_map, h, Result.andThen_ok, Sem.run_pure]
  congr 1
  match us with
  | [] => rfl
  | [u] => rfl
  | u :: v :: r => rfl
theorem tup_rep {E : Env} {us : List Value} {vs : List SV} (hl : us.length = vs.length) (hr : ∀ i, i < vs.length → Rep E (us.getD i undef) (vs.getD i .any)) :
    Rep E (unl us) (tupOf vs) := by
  match us, vs, hl with
  | [], [], _ => exact .tup _ _ rfl (fun i hi => absurd hi (by simp))
  | [u], [v], _ => exact hr 0 (by simp)
  | u :: u' :: us, v :: v' :: vs, hl =>
    refine .tup _ _ (by simpa using hl) (fun i hi => ?_)
    have := hr i hi
    rw [getD_toList]
    exact this
theorem Call.enter [Gl] {f : FuncId} {fn : Func} {c : Code} {args : List SV} {h : Heap} {Q : SV → Heap → Prop} (hf : P.funcs[f]? = some fn) (hb : fn.body = some c) (hn : (fn.name == "runtime.NumGoroutine") = false)
    (hl : args.length ≤ fn.ntmps) (hsw : SW P fn.ntmps c (retQ P fn.results.toList Q) ⟨argT 0 args, h⟩) : Call P f args h Q := by
  refine ⟨fun M w vs own hr => .inl ⟨⟨fn, hf, by rw [hb]; rfl, hn⟩, ?_⟩⟩
  refine calls_of_wp hf hb ?_
  have hrel : Rel M w h.has fn.ntmps ⟨argT 0 args, h⟩ { tmps := vs ++ Array.replicate (fn.ntmps - vs.size) undef, defers := [] } w := by
    refine ⟨rfl, by simp [hr.1]; omega, fun i => ?_, own, Frm.refl _ _, fun b hb _ => hb⟩
    rw [look_argT args 0 i (Nat.zero_le _), Nat.sub_zero]
    by_cases hi : i < args.length
    · have := hr.2 i hi
      have hv : i < vs.size := by rw [hr.1]; exact hi
      simpa [Array.getElem?_append_left hv] using this
    · rw [List.getD_eq_getElem?_getD, List.getElem?_eq_none (by omega)]
      exact .any _
  refine wp_mono (hsw.run M w h.has _ w hrel) fun e a' w' ⟨S', h1, h2⟩ => ?_
  have fin : (∃ S'', S'.le S'' ∧ resL P S'' fn.results.toList (fun vs => Q (tupOf vs) S''.h)) → a'.defers = [] ∧ ∃ v, (results fn a'.tmps).run P w' = .ok v w' ∧
      ∃ v' r h', Ending.returned v = .returned v' ∧ Q r h' ∧ Rep (envOf (hid M h') w') v' r ∧ Owns M h' w' ∧ Frm h.has w w' ∧ ∀ b, h'.has b → b < w.heap.size → h.has b := by
    rintro ⟨S'', hle, hres⟩
    have hr'' := hle _ _ _ _ _ _ h2
    obtain ⟨us, vs', hrun, hlen, hrep, hK⟩ := resL_sound hr'' _ _ hres
    exact ⟨hr''.defers, _, run_results hrun, _, _, _, rfl, hK, tup_rep hlen hrep, hr''.own, hr''.frm, hr''.new⟩
  cases e with
  | normal => exact fin h1
  | ret => exact fin h1
  | exit i => exact h1.elim
  | goto l => exact h1.elim
  | panic c => exact h1.elim
  | outgrown => exact h1.elim
theorem Call.law [Gl] {f : FuncId} {args : List SV} {r : Value} (hc : PCall P f args (.sc r)) (hbody : Body P f) {w : World} {vs : Array Value} (hg : GlOk (envOf (fun _ => False) w)) (hr : Reps (envOf (fun _ => False) w) vs args) :
    Calls P f vs w fun e w' => e = .returned r ∧ Below w.heap.size w w' := by
  have hh : hid (fun _ => False) [] = fun _ => False := by
    funext b
    simp only [hid]
    exact propext ⟨fun x => x.elim id (fun ⟨k, hk⟩ => by cases hk), fun x => x.elim⟩
  rcases hc.out (fun _ => False) w vs ⟨by simp, fun b ⟨k, hk⟩ => (by cases hk), fun b x => x.elim, fun b k hk _ => (by cases hk), fun b l hk => (by cases hk), by rw [hh]; exact hg⟩ (by rw [hh]; exact hr) with ⟨_, hc⟩ | ⟨v, w', hrun, _⟩
  · refine hc.mono fun e w' ⟨v, r', h', he, ⟨h1, h2⟩, hv, _, frm, _⟩ => ?_
    subst h1 h2
    cases hv
    exact ⟨he, frm.below (fun b _ ⟨k, hk⟩ => by cases hk)⟩
  · obtain ⟨fn, hf, hb, hn⟩ := hbody
    rw [run_callFunc hf hb hn] at hrun
    cases hrun
theorem PCall.of_calls [Gl] {f : FuncId} {args : List SV} {r : SV} (hbody : Body P f)
    (h : ∀ (w : World) (E : Env) (vs : Array Value), (∀ a v, E.see a v → w.cell? a = some v) → (∀ b m, E.size b m → HasSize w b m) → GlOk E → Reps E vs args →
      Calls P f vs w fun e w' => ∃ v, e = .returned v ∧ (∀ E', Rep E' v r) ∧ Below w.heap.size w w' ∧ w.drawn ≤ w'.drawn) : PCall P f args r := by
  refine ⟨fun M w vs own hr => .inl ⟨hbody, (h w (envOf (hid M []) w) vs (fun a v x => x.2) (fun b m x => x) own.gl hr).mono fun e w' ⟨v, he, hv, bel, dr⟩ => ?_⟩⟩
  have frm : Frm (Heap.has []) w w' := ⟨bel.size, fun b hb _ => bel.block b hb, fun b m ⟨c, e, fr, hb, hs⟩ => ⟨c, e, fr, by rw [bel.block b (lt_of_heap hb)]; exact hb, hs⟩, bel.os, bel.tape, bel.output, dr⟩
  have hle : (envOf (hid M []) w).le (envOf (hid M []) w') := env_le frm (fun b hb _ => by obtain ⟨k, hk⟩ := hb; cases hk) (fun _ _ x => x)
  exact ⟨v, r, [], he, ⟨rfl, rfl⟩, hv _, ⟨own.nodup, own.notM, fun b hb => Nat.lt_of_lt_of_le (own.lt b hb) bel.size, fun b k hk _ => (by cases hk), fun b l hk => (by cases hk), own.gl.mono hle⟩, frm, fun b ⟨k, hk⟩ => by cases hk⟩
end
end Go.Ab
