/- Append. -/
import Derived.Test.YtockdinjmnkdoaaAj
namespace Go.Ab
open Go.RowKit

def Heap.ren (h : Heap) (b b' : Nat) (k : Blk) : Heap := match h with
  | [] => []
  | (c, k') :: r => if c = b then (b', k) :: r else (c, k') :: Heap.ren r b b' k

def appB (k : Blk) (cs : List SV) : Blk :=
  match k, cs with
  | .ints k l, [.sc (.int k' n)] => if k' = k then .ints k (l ++ [n]) else .svs ((Blk.ints k l).cells ++ [.sc (.int k' n)])
  | .bools l, [.sc (.bool b)] => .bools (l ++ [b])
  | k, cs => .svs (k.cells ++ cs)

def newB (cs : List SV) : Blk :=
  match cs with
  | [.sc (.int k n)] => .ints k [n]
  | [.sc (.bool b)] => .bools [b]
  | cs => .svs cs

def flCells (f : Nat → List SV) (n : Nat) : List SV := (List.range n).flatMap f

/-- The elements of what is appended: how many, and their cells. -/
def srcCells (x : SV) (h : Heap) : Option (Nat × List SV) :=
  match x with
  | .fl n _ f => some (n, flCells f n)
  | .os b off n sz => match h.find b with
    | some k => some (n, getN k off (n * sz))
    | none => none
  | .sc (.slice none 0 0) => some (0, [])
  | .sc (.string s) => some (s.size, s.data.toList.map fun b => .sc (.int .u8 b.toNat))
  | _ => none

def srcOk (size : Nat) (x : SV) (h : Heap) : Prop :=
  match x with
  | .fl _ sz _ => sz = size
  | .os b off n sz => match h.find b with
    | some k => sz = size ∧ off + n * sz ≤ k.len
    | none => False
  | .sc (.string _) => size = 1
  | _ => True

def notInt (P : Program) (t : TypeId) : Bool := match P.underlying t with
  | some (.int _) => false
  | some _ => true
  | none => false

theorem appB_cells (k : Blk) (cs : List SV) : (appB k cs).cells = k.cells ++ cs := by
  unfold appB
  split
  · rename_i k' l k'' n
    split
    · rename_i hk; subst hk; simp [Blk.cells]
    · rfl
  · simp [Blk.cells]
  · rfl

theorem newB_cells (cs : List SV) : (newB cs).cells = cs := by
  unfold newB
  split <;> simp [Blk.cells]

section
variable {P : Program} {M : Nat → Prop} {h : Heap} {w : World}

theorem size_unique {b m m' : Nat} (h1 : HasSize w b m) (h2 : HasSize w b m') : m = m' := by
  obtain ⟨c, e, fr, hc, rfl⟩ := h1
  obtain ⟨c', e', fr', hc', rfl⟩ := h2
  rw [hc] at hc'
  cases hc'
  rfl

theorem upd_mem_other {h : Heap} {b c : Nat} {k k' : Blk} (hne : c ≠ b) (hm : (c, k) ∈ h) : (c, k) ∈ h.upd b k' := by
  induction h with
  | nil => cases hm
  | cons x r ih =>
    obtain ⟨d, k0⟩ := x
    simp only [Heap.upd]
    split
    · rename_i hd
      rcases List.mem_cons.1 hm with hm | hm
      · cases hm; exact absurd hd hne
      · exact List.mem_cons_of_mem _ hm
    · rcases List.mem_cons.1 hm with hm | hm
      · cases hm; exact List.mem_cons_self
      · exact List.mem_cons_of_mem _ (ih hm)

/-- Something else, also true, is said of an owned block. -/
theorem Owns.recell (own : Owns M h w) {b : Nat} {k k' : Blk} {c : Array Value} {e : TypeId} (hm : (b, k) ∈ h) (hb : w.heap[b]? = some (.cells c e (0, 0))) (hl : k'.len ≤ c.size)
    (hr : ∀ i, i < k'.len → Rep (envOf (hid M h) w) (c.getD i undef) (k'.get i)) : Owns M (h.upd b k') w := by
  refine ⟨by rw [map_upd]; exact own.nodup, fun c hc => own.notM c (has_upd.1 hc), own.lt, fun d k0 hk => ?_⟩
  rw [hid_upd]
  rcases mem_upd own.nodup hk with ⟨rfl, rfl⟩ | ⟨hne, hk⟩
  · exact ⟨c, e, hb, hl, hr⟩
  · exact own.ok d k0 hk

/-- Fewer blocks are owned: what is given up may be seen. -/
theorem Owns.sub (own : Owns M h w) {h' : Heap} (hn : (h'.map (·.1)).Nodup) (hs : ∀ x ∈ h', x ∈ h) : Owns M h' w := by
  have hh : ∀ b, h'.has b → h.has b := fun b ⟨k, hk⟩ => ⟨k, hs _ hk⟩
  refine ⟨hn, fun b hb => own.notM b (hh b hb), own.lt, fun b k hk => ?_⟩
  obtain ⟨c, e, hb, hl, hr⟩ := own.ok b k (hs _ hk)
  exact ⟨c, e, hb, hl, fun i hi => (hr i hi).mono (env_le (Frm.refl (fun _ => False) w) (fun _ x _ => x.elim) (fun b _ x => x.imp id (hh b)))⟩

theorem Owns.cells (own : Owns M h w) {b : Nat} {k k' : Blk} (hm : (b, k) ∈ h) (he : k'.cells = k.cells) : Owns M (h.upd b k') w := by
  obtain ⟨c, e, hb, hl, hr⟩ := own.ok b k hm
  have hlen : k'.len = k.len := by rw [← Blk.length_cells, he, Blk.length_cells]
  refine own.recell hm hb (by omega) (fun i hi => ?_)
  rw [← Blk.get_cells k' i hi, he, Blk.get_cells k i (by omega)]
  exact hr i (by omega)

theorem ren_self (h : Heap) (b : Nat) (k : Blk) : h.ren b b k = h.upd b k := by
  induction h with
  | nil => rfl
  | cons x r ih => obtain ⟨c, k0⟩ := x; simp only [Heap.ren, Heap.upd, ih]; split <;> simp_all

theorem mem_ren {h : Heap} {b b' : Nat} {k : Blk} {x : Nat × Blk} (hx : x ∈ h.ren b b' k) : x = (b', k) ∨ x ∈ h.del b := by
  induction h with
  | nil => cases hx
  | cons y r ih =>
    obtain ⟨c, k0⟩ := y
    simp only [Heap.ren, Heap.del] at hx ⊢
    split at hx
    · rename_i hc
      rw [if_pos hc]
      rcases List.mem_cons.1 hx with hx | hx
      · exact .inl hx
      · exact .inr hx
    · rename_i hc
      rw [if_neg hc]
      rcases List.mem_cons.1 hx with hx | hx
      · exact .inr (hx ▸ List.mem_cons_self)
      · exact (ih hx).imp id (List.mem_cons_of_mem _)

theorem mem_del {h : Heap} {b : Nat} {x : Nat × Blk} (hx : x ∈ h.del b) : x ∈ h := by
  induction h with
  | nil => cases hx
  | cons y r ih =>
    obtain ⟨c, k0⟩ := y
    simp only [Heap.del] at hx
    split at hx
    · exact List.mem_cons_of_mem _ hx
    · rcases List.mem_cons.1 hx with hx | hx
      · exact hx ▸ List.mem_cons_self
      · exact List.mem_cons_of_mem _ (ih hx)

theorem nodup_ren {h : Heap} {b b' : Nat} {k : Blk} (hn : (h.map (·.1)).Nodup) (hb : b' ∉ h.map (·.1)) : ((h.ren b b' k).map (·.1)).Nodup := by
  induction h with
  | nil => simp [Heap.ren]
  | cons y r ih =>
    obtain ⟨c, k0⟩ := y
    rw [List.map_cons, List.nodup_cons] at hn
    simp only [List.map_cons, List.mem_cons, not_or] at hb
    simp only [Heap.ren]
    split
    · rw [List.map_cons, List.nodup_cons]; exact ⟨hb.2, hn.2⟩
    · rw [List.map_cons, List.nodup_cons]
      refine ⟨fun hm => ?_, ih hn.2 hb.2⟩
      rw [List.mem_map] at hm
      obtain ⟨x, hx, hxc⟩ := hm
      rcases mem_ren hx with rfl | hx
      · exact hb.1 hxc
      · exact hn.1 (hxc ▸ List.mem_map.2 ⟨x, mem_del hx, rfl⟩)

/-- The block that is told apart is not met among the others. -/
theorem del_not {h : Heap} {b : Nat} (hn : (h.map (·.1)).Nodup) : ¬ (h.del b).has b := by
  induction h with
  | nil => rintro ⟨k, hk⟩; cases hk
  | cons y r ih =>
    obtain ⟨c, k0⟩ := y
    rw [List.map_cons, List.nodup_cons] at hn
    simp only [Heap.del]
    split
    · rename_i hc; subst hc; exact fun hh => hn.1 (has_map.1 hh)
    · rename_i hc
      rintro ⟨k, hk⟩
      rcases List.mem_cons.1 hk with hk | hk
      · cases hk; exact hc rfl
      · exact ih hn.2 ⟨k, hk⟩

theorem all_mem {α : Type} {p : α → Bool} {l : List α} (h : l.all p = true) {i : Nat} {d : α} (hi : i < l.length) : p (l.getD i d) = true := by
  rw [getD_list _ _ _ hi]
  exact List.all_eq_true.1 h _ (List.getElem_mem hi)

theorem length_flCells {f : Nat → List SV} {sz : Nat} : ∀ n, (∀ i, i < n → (f i).length = sz) → (flCells f n).length = n * sz
  | 0, _ => by simp [flCells]
  | n + 1, h => by
    have := length_flCells n (fun i hi => h i (by omega))
    unfold flCells at *
    rw [List.range_succ, List.flatMap_append, List.length_append, this]
    simp [h n (by omega), Nat.add_mul]

theorem getD_flCells {f : Nat → List SV} {sz : Nat} : ∀ n, (∀ i, i < n → (f i).length = sz) → ∀ i j, i < n → j < sz → (flCells f n).getD (i * sz + j) .any = (f i).getD j .any
  | 0, _, i, _, hi, _ => absurd hi (by omega)
  | n + 1, h, i, j, hi, hj => by
    have hl := length_flCells n (fun i hi => h i (by omega))
    have e : flCells f (n + 1) = flCells f n ++ f n := by unfold flCells; rw [List.range_succ, List.flatMap_append]; simp
    rw [e, List.getD_eq_getElem?_getD]
    by_cases hin : i < n
    · have := index_lt (s := sz) hin
      rw [List.getElem?_append_left (by omega), ← List.getD_eq_getElem?_getD]
      exact getD_flCells n (fun i hi => h i (by omega)) i j hin hj
    · obtain rfl : i = n := by omega
      rw [List.getElem?_append_right (by omega), hl, ← List.getD_eq_getElem?_getD, Nat.add_sub_cancel_left]

/-- What is appended, as the model reads it. -/
theorem src_sound {u : Value} {x : SV} {n size : Nat} {cs : List SV} (own : Owns M h w) (hx : Rep (envOf (hid M h) w) u x) (hc : srcCells x h = some (n, cs)) (ho : srcOk size x h) :
    (Builtin.lenOf u).run P w = .ok n w ∧ ∃ c : Array Value, (Builtin.firstCells size n u).run P w = .ok c w ∧ c.size = cs.length ∧ cs.length = n * size ∧ ∀ i, i < cs.length → Rep (envOf (hid M h) w) (c.getD i undef) (cs.getD i .any) := by
  unfold srcCells at hc
  split at hc
  · rename_i n' sz f
    cases hc
    subst ho
    cases hx with
    | fl0 a cap _ _ =>
      refine ⟨by simp [Builtin.lenOf], #[], ?_, by simp [flCells], by simp [flCells], fun i hi => absurd hi (by simp [flCells])⟩
      cases a with
      | none => simp [Builtin.firstCells]
      | some a => simp [Builtin.firstCells, loadCells, loadCellsFrom]
    | fl b off _ cap _ _ val hcap hl hs hr =>
      have hlen := length_flCells n hl
      refine ⟨by simp [Builtin.lenOf], ((List.range (n * sz)).map fun i => val (i / sz) (i % sz)).toArray, ?_, by simp [hlen], hlen, fun i hi => ?_⟩
      · simp only [Builtin.firstCells, loadCells]
        have := run_loadCellsFrom (P := P) (w := w) (a := ⟨b, off, none⟩) (fun i => val (i / sz) (i % sz)) (n * sz) 0 #[] (fun j hj => by
          have hsz : 0 < sz := Nat.pos_of_ne_zero (fun e => by subst e; simp at hj)
          have h1 : j / sz < n := Nat.div_lt_of_lt_mul (by rw [Nat.mul_comm]; exact hj)
          have h2 := (hs (j / sz) h1 (j % sz) (Nat.mod_lt _ hsz)).2
          rw [Nat.zero_add, Addr.add_lit]
          rw [Nat.add_assoc, Nat.mul_comm, Nat.div_add_mod] at h2
          exact h2)
        simpa using this
      · rw [hlen] at hi
        have hsz : 0 < sz := Nat.pos_of_ne_zero (fun e => by subst e; simp at hi)
        have h1 : i / sz < n := Nat.div_lt_of_lt_mul (by rw [Nat.mul_comm]; exact hi)
        have h2 := hr (i / sz) h1 (i % sz) (Nat.mod_lt _ hsz)
        have h3 := getD_flCells n hl (i / sz) (i % sz) h1 (Nat.mod_lt _ hsz)
        rw [Nat.mul_comm, Nat.div_add_mod] at h3
        rw [h3]
        simpa [hi] using h2
  · rename_i b off n' sz
    split at hc
    · rename_i k hk
      cases hc
      simp only [srcOk, hk] at ho
      obtain ⟨rfl, hle⟩ := ho
      cases hx with
      | os _ _ _ cap _ m hcap hm hb =>
        have hmem := Heap.find_mem hk
        obtain ⟨c, e, hbk, hl, hr⟩ := own.ok b k hmem
        refine ⟨by simp [Builtin.lenOf], ((List.range (n * sz)).map fun i => c.getD (off + i) undef).toArray, ?_, by simp [length_getN], length_getN _ _ _, fun i hi => ?_⟩
        · simp only [Builtin.firstCells, loadCells]
          have := run_loadCellsFrom (P := P) (w := w) (a := ⟨b, off, none⟩) (fun i => c.getD (off + i) undef) (n * sz) 0 #[] (fun j hj => by
            have hlt : off + j < c.size := by omega
            rw [Nat.zero_add, Addr.add_lit]
            simp [World.cell?, hbk, hlt])
          simpa using this
        · rw [length_getN] at hi
          rw [getD_getN _ _ _ _ hi]
          have := hr (off + i) (by omega)
          simpa [hi] using this
    · cases hc
  · cases hc
    cases hx
    exact ⟨by simp [Builtin.lenOf], #[], by simp [Builtin.firstCells], rfl, by simp, fun i hi => absurd hi (by simp)⟩
  · rename_i s
    cases hc
    cases hx
    unfold srcOk at ho
    subst ho
    refine ⟨by simp [Builtin.lenOf], s.data.map fun b => .int .u8 b.toNat, ?_, by rw [Array.size_map, List.length_map, Array.length_toList], by rw [List.length_map, Array.length_toList, Nat.mul_one]; rfl, fun i hi => ?_⟩
    · simp only [Builtin.firstCells, Sem.run_pure]
      congr 2
      have : s.extract 0 s.size = s := by simp
      rw [this]
    · have hi' : i < s.data.size := by simpa using hi
      simp only [List.getD_eq_getElem?_getD, List.getElem?_map, Array.getElem?_toList, Array.getElem?_eq_getElem hi', Option.map_some, Option.getD_some]
      rw [getD_toList]
      simp only [Array.toList_map, List.getD_eq_getElem?_getD, List.getElem?_map, Array.getElem?_toList, Array.getElem?_eq_getElem hi', Option.map_some, Option.getD_some]
      exact .sc _
  · cases hc

end
end Go.Ab
