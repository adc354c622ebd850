/- Operations that make a block or an aggregate; the yield of every operation that only computes. -/
import Derived.Test.YtockdinjmnkdoaaAe
namespace Go.Ab
open Go.RowKit

/-- The world behind a new block. -/
def alc (w : World) (c : Array Value) (e : TypeId) : World := { w with heap := w.heap.push (.cells c e (0, 0)) }

section
variable {P : Program} {M : Nat → Prop} {h : Heap} {w : World}

theorem heap_alc_old {c : Array Value} {e : TypeId} {b : Nat} (hb : b < w.heap.size) : (alc w c e).heap[b]? = w.heap[b]? := by
  show (w.heap.push _)[b]? = _
  rw [Array.getElem?_push, if_neg (Nat.ne_of_lt hb)]
theorem heap_alc_new {c : Array Value} {e : TypeId} : (alc w c e).heap[w.heap.size]? = some (.cells c e (0, 0)) := by
  show (w.heap.push _)[w.heap.size]? = _
  rw [Array.getElem?_push, if_pos rfl]
theorem size_alc {c : Array Value} {e : TypeId} : (alc w c e).heap.size = w.heap.size + 1 := by simp [alc]

theorem lt_of_heap {b : Nat} {o : Obj} (hb : w.heap[b]? = some o) : b < w.heap.size := by
  rcases Nat.lt_or_ge b w.heap.size with h' | h'
  · exact h'
  · rw [Array.getElem?_eq_none h'] at hb; cases hb

theorem frm_alc (c : Array Value) (e : TypeId) : Frm (fun _ => False) w (alc w c e) where
  size := by rw [size_alc]; omega
  keep := fun b hb _ => heap_alc_old hb
  sizes := fun b m ⟨c', e', fr, hb, hs⟩ => ⟨c', e', fr, by rw [heap_alc_old (lt_of_heap hb)]; exact hb, hs⟩
  os := rfl
  tape := rfl
  output := rfl

theorem Owns.has_lt (own : Owns M h w) {b : Nat} (hb : h.has b) : b < w.heap.size := by
  obtain ⟨k, hk⟩ := hb
  obtain ⟨c, e, hh, _⟩ := own.ok b k hk
  exact lt_of_heap hh

theorem has_cons {b b' : Nat} {k : Blk} : Heap.has ((b, k) :: h) b' ↔ b' = b ∨ h.has b' := by
  unfold Heap.has
  constructor
  · rintro ⟨k', hk⟩
    rcases List.mem_cons.1 hk with hk | hk
    · cases hk; exact .inl rfl
    · exact .inr ⟨k', hk⟩
  · rintro (rfl | ⟨k', hk⟩)
    · exact ⟨k, List.mem_cons_self⟩
    · exact ⟨k', List.mem_cons_of_mem _ hk⟩

theorem has_map {b : Nat} : h.has b ↔ b ∈ h.map (·.1) := by
  unfold Heap.has
  rw [List.mem_map]
  constructor
  · rintro ⟨k, hk⟩; exact ⟨(b, k), hk, rfl⟩
  · rintro ⟨⟨b', k⟩, hk, rfl⟩; exact ⟨k, hk⟩

/-- What was seen is seen behind a new block that is hidden. -/
theorem env_alc (_ : Owns M h w) (c : Array Value) (e : TypeId) (k : Blk) : (envOf (hid M h) w).le (envOf (hid M ((w.heap.size, k) :: h)) (alc w c e)) :=
  env_le (frm_alc c e) (fun _ x _ => x.elim) (fun b hb x => by
    rcases x with x | x
    · exact .inl x
    · rcases has_cons.1 x with x | x
      · omega
      · exact .inr x)

theorem Owns.alc (own : Owns M h w) {c : Array Value} {e : TypeId} {k : Blk} (hl : k.len ≤ c.size) (hr : ∀ i, i < k.len → Rep (envOf (hid M h) w) (c.getD i undef) (k.get i)) :
    Owns M ((w.heap.size, k) :: h) (alc w c e) where
  nodup := by
    rw [List.map_cons, List.nodup_cons]
    refine ⟨fun hm => ?_, own.nodup⟩
    have := own.has_lt (has_map.2 hm)
    omega
  notM := fun b hb hm => by
    rcases has_cons.1 hb with rfl | hb
    · have := own.lt _ hm; omega
    · exact own.notM b hb hm
  lt := fun b hm => by have := own.lt b hm; rw [size_alc]; omega
  ok := fun b k' hm => by
    rcases List.mem_cons.1 hm with hm | hm
    · cases hm
      exact ⟨c, e, heap_alc_new, hl, fun i hi => (hr i hi).mono (env_alc own c e k)⟩
    · obtain ⟨c', e', hb, hl', hr'⟩ := own.ok b k' hm
      exact ⟨c', e', by rw [heap_alc_old (lt_of_heap hb)]; exact hb, hl', fun i hi => (hr' i hi).mono (env_alc own c e k)⟩

/-- An operation makes a block and hands back what leads to it. -/
structure NewOK (P : Program) (M : Nat → Prop) (h : Heap) (w : World) (x : Sem Value) (k : Blk) (mk : Nat → SV) : Prop where
  ex : ∃ c e u, x.run P w = .ok u (alc w c e) ∧ k.len ≤ c.size ∧ (∀ i, i < k.len → Rep (envOf (hid M h) w) (c.getD i undef) (k.get i)) ∧
    Rep (envOf (hid M ((w.heap.size, k) :: h)) (Ab.alc w c e)) u (mk w.heap.size)

theorem box_sound {e : TypeId} {u : Value} {x : SV} {cs : List SV} (hx : Rep (envOf (hid M h) w) u x) (hc : svCells x = some cs) :
    NewOK P M h w (Instr.box e u) (.svs cs) (fun b => .op b 0) := by
  obtain ⟨hl, hr, _⟩ := svCells_spec hx hc
  exact ⟨_, e, _, rfl, by simp only [Blk.len]; omega, fun i hi => hr i hi, .op _ _⟩

theorem zk_spec {t : TypeId} {z : List Value} (hz : zk P t = some z) : ∃ i v, P.info? t = some i ∧ i.zero = some v ∧ v.cells.toList = z := by
  unfold zk at hz
  split at hz
  · rename_i i hi
    split at hz
    · rename_i v hv
      cases hz
      exact ⟨i, v, hi, hv, rfl⟩
    · cases hz
  · cases hz

theorem run_zeroValue {t : TypeId} {i : TypeInfo} {v : Value} (hi : P.info? t = some i) (hz : i.zero = some v) : (zeroValue t).run P w = .ok v w := by
  simp [zeroValue, run_typeInfo hi, hz]

theorem getD_toList {α : Type} (c : Array α) (i : Nat) (d : α) : c.getD i d = c.toList.getD i d := by
  simp [Array.getD_eq_getD_getElem?, List.getD_eq_getElem?_getD]

theorem alloc_sound {t : TypeId} {z : List Value} (hz : zk P t = some z) :
    NewOK P M h w (Instr.alloc t true (.tuple #[])) (.svs (z.map .sc)) (fun b => .op b 0) := by
  obtain ⟨i, v, hi, hv, rfl⟩ := zk_spec hz
  refine ⟨v.cells, t, .pointer (some ⟨w.heap.size, 0, none⟩), ?_, by simp [Blk.len], fun i hi => ?_, .op _ _⟩
  · simp only [Instr.alloc, Sem.run_bind, run_zeroValue hi hv, Result.andThen_ok, Sem.run_pure, newVar, newRow, run_newObj]
    rfl
  · simp only [Blk.len, List.length_map] at hi
    simp only [Blk.get, List.getD_eq_getElem?_getD, List.getElem?_map, List.getElem?_eq_getElem hi, Option.map_some, Option.getD_some]
    rw [getD_toList, getD_list _ _ _ hi]
    exact .sc _

/-! ### building aggregates and slices -/

def setAll (l : List SV) (off : Nat) (cs : List SV) : List SV := match cs with
  | [] => l
  | c :: r => setAll (l.set off c) (off + 1) r

def fillSV (place : Nat → Option (Nat × Nat)) (l : List SV) (ps : List (Nat × SV)) : Option (List SV) := match ps with
  | [] => some l
  | (i, v) :: r => match place i, svCells v with
    | some (off, n), some cs => if cs.length = n ∧ off + n ≤ l.length then fillSV place (setAll l off cs) r else none
    | _, _ => none

theorem length_setAll : ∀ (cs l : List SV) (off : Nat), (setAll l off cs).length = l.length
  | [], _, _ => rfl
  | c :: r, l, off => by rw [setAll, length_setAll r]; simp

def putAll (c : Array Value) (off : Nat) (vs : List Value) : Array Value := match vs with
  | [] => c
  | v :: r => putAll (c.setIfInBounds off v) (off + 1) r

theorem putAll_fold (off : Nat) : ∀ (vs : List Value) (k : Nat) (c : Array Value), (vs.zipIdx k).foldl (fun cs (x : Value × Nat) => cs.setIfInBounds (off + x.2) x.1) c = putAll c (off + k) vs
  | [], _, _ => rfl
  | v :: r, k, c => by
    simp only [List.zipIdx_cons, List.foldl_cons, putAll]
    rw [putAll_fold off r (k + 1)]
    congr 1

theorem size_putAll : ∀ (vs : List Value) (c : Array Value) (off : Nat), (putAll c off vs).size = c.size
  | [], _, _ => rfl
  | v :: r, c, off => by rw [putAll, size_putAll r]; simp

theorem rep_putAll {E : Env} : ∀ (cs : List SV) (vs : List Value) (c : Array Value) (l : List SV) (off : Nat), vs.length = cs.length → c.size = l.length →
    (∀ i, i < cs.length → Rep E (vs.getD i undef) (cs.getD i .any)) → (∀ i, i < l.length → Rep E (c.getD i undef) (l.getD i .any)) →
    ∀ i, i < l.length → Rep E ((putAll c off vs).getD i undef) ((setAll l off cs).getD i .any)
  | [], [], c, l, off, _, _, _, h2 => h2
  | [], _ :: _, _, _, _, h, _, _, _ => by simp at h
  | _ :: _, [], _, _, _, h, _, _, _ => by simp at h
  | s :: cs, v :: vs, c, l, off, hl, hs, h1, h2 => by
    intro i hi
    rw [putAll, setAll]
    refine rep_putAll cs vs _ _ (off + 1) (by simpa using hl) (by simpa using hs) (fun j hj => ?_) (fun j hj => ?_) i (by simpa using hi)
    · have := h1 (j + 1) (by simpa using hj)
      simpa using this
    · have hj' : j < l.length := by simpa using hj
      by_cases hjo : off = j
      · subst hjo
        have hc : off < c.size := by omega
        have := h1 0 (by simp)
        simpa [hc, hj'] using this
      · have := h2 j hj'
        simpa [Array.getElem?_setIfInBounds_ne hjo, List.getElem?_set_ne hjo, List.getD_eq_getElem?_getD] using this

theorem fill_sound {E : Env} {place : Nat → Option (Nat × Nat)} : ∀ (ps : List (Nat × SV)) (qs : List (Nat × Value)) (c : Array Value) (l r : List SV),
    qs.map (·.1) = ps.map (·.1) → (∀ i, i < ps.length → Rep E (qs.getD i (0, undef)).2 (ps.getD i (0, .any)).2) → c.size = l.length → (∀ i, i < l.length → Rep E (c.getD i undef) (l.getD i .any)) →
    fillSV place l ps = some r → ∃ c', Instr.fill place c qs = some c' ∧ c'.size = r.length ∧ ∀ i, i < r.length → Rep E (c'.getD i undef) (r.getD i .any)
  | [], [], c, l, r, _, _, hs, h2, hf => by
    cases hf
    exact ⟨c, rfl, hs, h2⟩
  | [], _ :: _, _, _, _, h, _, _, _, _ => by simp at h
  | _ :: _, [], _, _, _, h, _, _, _, _ => by simp at h
  | (i, s) :: ps, (i', v) :: qs, c, l, r, hm, hr, hs, h2, hf => by
    simp only [List.map_cons, List.cons.injEq] at hm
    obtain ⟨rfl, hm⟩ := hm
    simp only [fillSV] at hf
    split at hf
    · rename_i off n cs hp hc
      by_cases hb : cs.length = n ∧ off + n ≤ l.length
      · rw [if_pos hb] at hf
        obtain ⟨rfl, hle⟩ := hb
        have h0 := hr 0 (by simp)
        simp only [List.getD_cons_zero] at h0
        obtain ⟨hv1, hv2, _⟩ := svCells_spec h0 hc
        have hstep : Instr.fill place c ((i', v) :: qs) = Instr.fill place (putAll c off v.cells.toList) qs := by
          have hfold : v.cells.zipIdx.foldl (fun cs (x : Value × Nat) => cs.setIfInBounds (off + x.2) x.1) c = putAll c off v.cells.toList := by
            rw [← Array.foldl_toList, Array.toList_zipIdx]
            exact putAll_fold off _ 0 c
          have hnot : ¬ (v.cells.size ≠ cs.length ∨ off + v.cells.size > c.size) := by omega
          rw [Instr.fill]
          simp only [hp, Bool.or_eq_true, decide_eq_true_eq]
          rw [if_neg hnot]
          rw [← hfold]
        rw [hstep]
        refine fill_sound ps qs _ _ r hm (fun j hj => ?_) (by rw [size_putAll, length_setAll]; exact hs) (fun j hj => ?_) hf
        · have := hr (j + 1) (by simpa using hj)
          simpa using this
        · rw [length_setAll] at hj
          exact rep_putAll cs _ c l off (by rw [Array.length_toList]; exact hv1) hs (fun k hk => by rw [← getD_toList]; exact hv2 k hk) h2 j hj
      · rw [if_neg hb] at hf
        cases hf
    · cases hf

/-- The fields' places. -/
def flk (P : Program) (t : TypeId) : Option (List (Nat × Nat)) :=
  match P.underlying t with
  | some (.struct fs) => bif fs.toList.all (fun f => (P.info? f.type).isSome) then some (fs.toList.map fun f => (f.offset, P.cellsOf f.type)) else none
  | _ => none

def buildSV (F : Option (List (Nat × Nat))) (A : Option (Nat × Nat)) (Z : Option (List Value)) (ps : List (Nat × SV)) : VRes :=
  match Z with
  | none => .bad
  | some z => match F with
    | some fl => match fillSV (fun i => fl[i]?) (z.map .sc) ps with
      | some r => .ok True (.agg r)
      | none => .bad
    | none => match A with
      | some (_, s) => match fillSV (fun i => some (i * s, s)) (z.map .sc) ps with
        | some r => .ok True (.agg r)
        | none => .bad
      | none => .bad

theorem run_listMapM {α β : Type} (f : α → Sem β) (g : α → β) : ∀ (l : List α), (∀ x ∈ l, (f x).run P w = .ok (g x) w) → (l.mapM f).run P w = .ok (l.map g) w
  | [], _ => by simp
  | x :: l, hx => by
    have := run_listMapM f g l (fun y hy => hx y (List.mem_cons_of_mem _ hy))
    simp [List.mapM_cons, hx x List.mem_cons_self, this]

theorem zeros_rep {E : Env} (z : Array Value) : ∀ i, i < (z.toList.map SV.sc).length → Rep E (z.getD i undef) ((z.toList.map SV.sc).getD i .any) := fun i hi => by
  simp only [List.length_map] at hi
  rw [getD_toList, getD_list _ _ _ hi]
  simp only [List.getD_eq_getElem?_getD, List.getElem?_map, List.getElem?_eq_getElem hi, Option.map_some, Option.getD_some]
  exact .sc _

theorem build_sound {t : TypeId} {ps : List (Nat × SV)} {qs : Array (Nat × Value)} {v : SV} {pre : Prop} (hm : qs.toList.map (·.1) = ps.map (·.1))
    (hr : ∀ i, i < ps.length → Rep (envOf (hid M h) w) (qs.toList.getD i (0, undef)).2 (ps.getD i (0, .any)).2)
    (hv : buildSV (flk P t) (ark P t) (zk P t) ps = .ok pre v) : ∃ r, (Instr.build t qs).run P w = .ok r w ∧ Rep (envOf (hid M h) w) r v := by
  unfold buildSV at hv
  cases hZ : zk P t with
  | none => simp [hZ] at hv
  | some z =>
    obtain ⟨i, zv, hi, hzv, rfl⟩ := zk_spec hZ
    simp only [hZ] at hv
    cases hF : flk P t with
    | some fl =>
      simp only [hF] at hv
      split at hv
      · rename_i r hf
        cases hv
        unfold flk at hF
        split at hF
        · rename_i fs hu
          by_cases hall : (fs.toList.all fun f => (P.info? f.type).isSome) = true
          · rw [hall] at hF
            simp only [cond_true, Option.some.injEq] at hF
            subst hF
            have hmap : (fs.mapM fun f => do pure (f.offset, ← sizeOf f.type) : Sem (Array (Nat × Nat))).run P w = .ok ((fs.toList.map fun f => (f.offset, P.cellsOf f.type)).toArray) w := by
              rw [Array.mapM_eq_mapM_toList]
              simp only [Sem.run_map]
              rw [run_listMapM _ (fun f : Field => (f.offset, P.cellsOf f.type)) _ (fun f hf => by
                obtain ⟨j, hj⟩ := Option.isSome_iff_exists.1 (List.all_eq_true.1 hall f hf)
                simp [run_sizeOf_info hj, Program.cellsOf, hj])]
              simp
            obtain ⟨c', hc', hs', hr'⟩ := fill_sound ps qs.toList zv.cells _ r hm hr (by simp) (zeros_rep zv.cells) hf
            refine ⟨.agg c', ?_, .agg _ _ hs' hr'⟩
            simp only [Instr.build, Sem.run_bind, run_zeroValue hi hzv, Result.andThen_ok, run_underlying hu, hmap, List.getElem?_toArray]
            rw [hc']
            rfl
          · simp only [Bool.not_eq_true] at hall
            rw [hall] at hF
            simp at hF
        · cases hF
      · cases hv
    | none =>
      simp only [hF] at hv
      cases hA : ark P t with
      | none => simp [hA] at hv
      | some ns =>
        obtain ⟨n, s⟩ := ns
        simp only [hA] at hv
        split at hv
        · rename_i r hf
          cases hv
          obtain ⟨e, j, hu, hin, rfl⟩ := ark_spec hA
          obtain ⟨c', hc', hs', hr'⟩ := fill_sound ps qs.toList zv.cells _ r hm hr (by simp) (zeros_rep zv.cells) hf
          refine ⟨.agg c', ?_, .agg _ _ hs' hr'⟩
          simp only [Instr.build, Sem.run_bind, run_zeroValue hi hzv, Result.andThen_ok, run_underlying hu, run_sizeOf_info hin]
          rw [hc']
          rfl
        · cases hv

end
end Go.Ab
