/- The abstract layer, part Z6: the kit's contracts of functions that change a row, as this layer's. -/
import Derived.Test.YtmcmphmhjikgkaaGreatDoorZ3
import Derived.Sort.Row
import Derived.Deep.Draws
set_option linter.unusedVariables false
set_option linter.unusedSectionVars false
set_option linter.unusedSimpArgs false
namespace Go.Ab
open Go.RowKit

section
variable {P : Program} {M : Nat → Prop} {h : Heap} {w : World}

theorem heap_map_same {b : Nat} {f : Array Value → Array Value} {c : Array Value} {e : TypeId} {fr : Nat × Nat} (hb : w.heap[b]? = some (.cells c e fr)) :
    (Go.Sort.mapBlock w b f).heap[b]? = some (.cells (f c) e fr) := by
  simp [Go.Sort.mapBlock, Array.getElem?_modify, hb, Go.Sort.onCells]

theorem heap_map_other {b b' : Nat} {f : Array Value → Array Value} (hne : b' ≠ b) : (Go.Sort.mapBlock w b f).heap[b']? = w.heap[b']? := by
  simp only [Go.Sort.mapBlock, Array.getElem?_modify]
  rw [if_neg (Ne.symm hne)]

theorem frm_map {b : Nat} {f : Array Value → Array Value} (hf : ∀ c : Array Value, (f c).size = c.size) : Frm (fun c => c = b) w (Go.Sort.mapBlock w b f) where
  size := by simp [Go.Sort.mapBlock]
  keep := fun c _ hc => heap_map_other hc
  sizes := fun c m ⟨cs, e, fr, hc, hs⟩ => by
    by_cases hcb : c = b
    · subst hcb; exact ⟨_, e, fr, heap_map_same hc, by rw [hf]; exact hs⟩
    · exact ⟨cs, e, fr, by rw [heap_map_other hcb]; exact hc, hs⟩
  os := rfl
  tape := rfl
  output := rfl
  drn := Nat.le_refl _

theorem Owns.mapB [Gl] (own : Owns M h w) {b : Nat} {k k' : Blk} {f : Array Value → Array Value} (hm : (b, k) ∈ h) (hkM : k.isM = false) (hkM' : k'.isM = false) (hf : ∀ c : Array Value, (f c).size = c.size) (hl : k'.len = k.len)
    (hr : ∀ c e, w.heap[b]? = some (.cells c e (0, 0)) → k.len ≤ c.size → ∀ i, i < k.len → Rep (envOf (hid M h) w) ((f c).getD i undef) (k'.get i)) : Owns M (h.upd b k') (Go.Sort.mapBlock w b f) := by
  have hle : (envOf (hid M h) w).le (envOf (hid M (h.upd b k')) (Go.Sort.mapBlock w b f)) := by
    rw [hid_upd]
    exact env_le (frm_map hf) (fun c hc _ => .inr (hc ▸ ⟨k, hm⟩)) (fun _ _ x => x)
  refine ⟨by rw [map_upd]; exact own.nodup, fun c hc => own.notM c (has_upd.1 hc), fun c hc => by have := own.lt c hc; simpa [Go.Sort.mapBlock] using this, fun c k2 hk hM => ?_, fun c l hk => ?_, own.gl.mono hle⟩
  rotate_left
  · rcases mem_upd own.nodup hk with ⟨rfl, e⟩ | ⟨hne, hk⟩
    · rw [← e] at hkM'; cases hkM'
    · obtain ⟨es, ck, hb, he⟩ := own.mp c l hk
      exact ⟨es, ck, by rw [heap_map_other hne]; exact hb, he⟩
  rcases mem_upd own.nodup hk with ⟨rfl, rfl⟩ | ⟨hne, hk⟩
  · obtain ⟨cs, e, hb, hl2, hr2⟩ := own.ok c k hm hkM
    exact ⟨_, e, heap_map_same hb, by rw [hf, hl]; exact hl2, fun i hi => (hr cs e hb hl2 i (by rw [← hl]; exact hi)).mono hle⟩
  · obtain ⟨cs, e, hb, hl2, hr2⟩ := own.ok c k2 hk hM
    exact ⟨cs, e, by rw [heap_map_other hne]; exact hb, hl2, fun i hi => (hr2 i hi).mono hle⟩

theorem frm_drawN (w : World) (n : Nat) : Frm (fun _ => False) w (w.drewN n) := ⟨Nat.le_refl _, fun _ _ _ => rfl, fun _ _ x => x, rfl, rfl, rfl, Nat.le_add_right _ _⟩

theorem Owns.drawN [Gl] (own : Owns M h w) (n : Nat) : Owns M h (w.drewN n) := ⟨own.nodup, own.notM, own.lt, own.ok, own.mp, own.gl⟩

theorem putCells_size {α : Type} [Inhabited α] (enc : α → Value) (off : Nat) (d : Array α) (c : Array Value) : (Go.Sort.putCells enc off d c).size = c.size := by
  simp [Go.Sort.putCells]

theorem putCells_getD {α : Type} [Inhabited α] (enc : α → Value) (off : Nat) (d : Array α) (c : Array Value) (i : Nat) (hi : i < c.size) :
    (Go.Sort.putCells enc off d c).getD i undef = if off ≤ i ∧ i < off + d.size then enc d[i - off]! else c.getD i undef := by
  simp [Go.Sort.putCells, hi]

/-- Numbers laid over others. -/
def over (l : List Int) (off : Nat) (m : List Int) : List Int := l.take off ++ m ++ l.drop (off + m.length)

theorem over_length {l m : List Int} {off : Nat} (h : off + m.length ≤ l.length) : (over l off m).length = l.length := by
  simp only [over, List.length_append, List.length_take, List.length_drop]; omega

theorem over_getD {l m : List Int} {off : Nat} (h : off + m.length ≤ l.length) (i : Nat) : (over l off m).getD i 0 = if off ≤ i ∧ i < off + m.length then m.getD (i - off) 0 else l.getD i 0 := by
  unfold over
  simp only [List.getD_eq_getElem?_getD]
  have ht : (l.take off).length = off := by simp; omega
  by_cases h1 : i < off
  · rw [if_neg (by omega), List.append_assoc, List.getElem?_append_left (by omega), List.getElem?_take, if_pos h1]
  · by_cases h2 : i < off + m.length
    · rw [if_pos (by omega), List.append_assoc, List.getElem?_append_right (by omega), ht, List.getElem?_append_left (by omega)]
    · rw [if_neg (by omega), List.getElem?_append_right (by simp only [List.length_append, ht]; omega), List.getElem?_drop]
      congr 2
      simp only [List.length_append, ht]
      omega

theorem over_all {l m : List Int} (h : m.length = l.length) : over l 0 m = m := by
  simp [over, h]

/-- **A function that changes a row of numbers in place.** -/
theorem Call.of_row [Gl] {f : FuncId} (hbody : Body P f) {α : Type} [Inhabited α] (kd : IntKind) (val : α → Int) (d : Array α) (b off : Nat) (l : List Int) (rest : List Value) (r : Value) (Good : Array α → Prop)
    (hl : ∀ j, j < d.size → l.getD (off + j) 0 = val d[j]!) (hoff : off + d.size ≤ l.length)
    (hc : ∀ (w : World) (E : Env) (cap : Nat), GlOk E → (∀ a v, E.see a v → w.cell? a = some v) → Go.Sort.Holds (fun a => Value.int kd (val a)) w b off d → d.size ≤ cap →
      Calls P f (#[.slice (some ⟨b, off, none⟩) d.size cap] ++ rest.toArray) w fun e w' => e = .returned r ∧ ∃ (n : Nat) (dk : Array α), w' = (Go.Sort.putRow (fun a => Value.int kd (val a)) w b off dk).drewN n ∧ dk.size = d.size ∧ Good dk) :
    Call P f (.os b off d.size 1 :: rest.map .sc) [(b, .ints kd l)] (fun r' h' => r' = .sc r ∧ ∃ dk : Array α, Good dk ∧ dk.size = d.size ∧ h' = [(b, .ints kd (over l off (dk.toList.map val)))]) := by
  refine ⟨fun M w vs own hr => .inl ⟨hbody, ?_⟩⟩
  have hm : (b, Blk.ints kd l) ∈ ([(b, Blk.ints kd l)] : Heap) := List.mem_cons_self
  obtain ⟨hs1, hs2⟩ := hr
  have h0 := hs2 0 (by simp)
  simp only [List.getD_cons_zero] at h0
  obtain ⟨cap, hcap, hv0⟩ : ∃ cap, d.size ≤ cap ∧ vs.getD 0 undef = .slice (some ⟨b, off, none⟩) d.size cap := by
    generalize vs.getD 0 undef = v0 at h0
    cases h0 with
    | os _ _ _ cap _ m hc hm hb => exact ⟨cap, hc, rfl⟩
  have hvs : vs = #[.slice (some ⟨b, off, none⟩) d.size cap] ++ rest.toArray := by
    apply Array.ext
    · rw [hs1]; simp [Nat.add_comm]
    · intro i hi hi2
      cases i with
      | zero =>
        have : vs[0] = vs.getD 0 undef := by simp [hi]
        rw [this, hv0]
        simp
      | succ i =>
        have h1 := hs2 (i + 1) (by rw [← hs1]; exact hi)
        have hir : i < rest.length := by rw [hs1] at hi; simpa using hi
        simp only [List.getD_cons_succ] at h1
        rw [List.getD_eq_getElem?_getD, List.getElem?_map, List.getElem?_eq_getElem hir] at h1
        simp only [Option.map_some, Option.getD_some] at h1
        have h2 : vs[i + 1] = vs.getD (i + 1) undef := by simp [hi]
        rw [h2]
        have h3 : vs.getD (i + 1) undef = rest[i] := by
          generalize vs.getD (i + 1) undef = v1 at h1
          cases h1; rfl
        rw [h3]
        simp [Array.getElem_append]
  have hold : Go.Sort.Holds (fun a => Value.int kd (val a)) w b off d := fun j hj => by
    obtain ⟨v, hv, hrv⟩ := own.cell hm (i := off + j) (by simp [Blk.len]; omega)
    obtain ⟨c, e, hb, _, _⟩ := own.ok b _ hm rfl
    simp only [Blk.get] at hrv
    rw [hl j hj] at hrv
    have : v = .int kd (val d[j]!) := by cases hrv; rfl
    rw [hv, this]
    exact ⟨rfl, by simp [World.frozen?, hb]⟩
  rw [hvs]
  refine (hc w (envOf (hid M [(b, .ints kd l)]) w) cap own.gl (fun a v x => x.2) hold hcap).mono fun e w' ⟨he, n, dk, hw', hds, hg⟩ => ?_
  have hlen : (dk.toList.map val).length = d.size := by simp [hds]
  have own1 : Owns M (Heap.upd [(b, Blk.ints kd l)] b (.ints kd (over l off (dk.toList.map val)))) (Go.Sort.putRow (fun a => Value.int kd (val a)) w b off dk) := by
    refine own.mapB hm rfl rfl (putCells_size _ _ _) (by simp only [Blk.len]; exact over_length (by rw [hlen]; exact hoff)) fun c e hb hle i hi => ?_
    simp only [Blk.len] at hle hi
    rw [putCells_getD _ _ _ _ _ (by omega)]
    simp only [Blk.get]
    rw [over_getD (by rw [hlen]; exact hoff), hlen, hds]
    by_cases hin : off ≤ i ∧ i < off + d.size
    · rw [if_pos hin, if_pos hin]
      have h5 : (dk.toList.map val).getD (i - off) 0 = val dk[i - off]! := by
        have h6 : i - off < dk.size := by omega
        simp [List.getD_eq_getElem?_getD, h6]
      rw [h5]
      exact .sc _
    · rw [if_neg hin, if_neg hin]
      obtain ⟨c2, e2, hb2, _, hr2⟩ := own.ok b _ hm rfl
      rw [hb] at hb2
      cases hb2
      exact hr2 i (by simpa [Blk.len] using hi)
  have hu : Heap.upd [(b, Blk.ints kd l)] b (.ints kd (over l off (dk.toList.map val))) = [(b, .ints kd (over l off (dk.toList.map val)))] := by simp [Heap.upd]
  rw [hu] at own1
  refine ⟨r, .sc r, [(b, .ints kd (over l off (dk.toList.map val)))], he, ⟨rfl, dk, hg, hds, rfl⟩, .sc _, ?_, ?_, ?_⟩
  · rw [hw']; exact own1.drawN n
  · rw [hw']
    have f1 : Frm (fun c => c = b) w (Go.Sort.putRow (fun a => Value.int kd (val a)) w b off dk) := frm_map (putCells_size _ _ _)
    have f2 := f1.trans (frm_drawN _ n) (fun _ _ x => x.elim)
    exact ⟨f2.size, fun c hc hd => f2.keep c hc (fun e => hd (by rw [e]; exact ⟨_, hm⟩)), f2.sizes, f2.os, f2.tape, f2.output, f2.drn⟩
  · rintro c ⟨k, hk⟩ _
    rcases List.mem_cons.1 hk with hk | hk
    · cases hk; exact ⟨_, hm⟩
    · cases hk

/-- What is said of the one block that is handed over may be said otherwise. -/
theorem Call.blk [Gl] {f : FuncId} {args : List SV} {Q : SV → Heap → Prop} {b : Nat} {k k' : Blk} (he : k'.cells = k.cells) (hkM : k.isM = false) (hkM' : k'.isM = false) (hc : Call P f args [(b, k')] Q) : Call P f args [(b, k)] Q := by
  refine ⟨fun M w vs own hr => ?_⟩
  have hu : Heap.upd [(b, k)] b k' = [(b, k')] := by simp [Heap.upd]
  have own' := own.cells List.mem_cons_self he hkM hkM'
  have hh : hid M [(b, k)] = hid M [(b, k')] := by rw [← hu, hid_upd]
  rw [hu] at own'
  rw [hh] at hr
  have hhas : ∀ c, Heap.has [(b, k')] c → Heap.has [(b, k)] c := fun c hc => by rw [← hu] at hc; exact has_upd.1 hc
  have hhas2 : ∀ c, Heap.has [(b, k)] c → Heap.has [(b, k')] c := fun c hc => by rw [← hu]; exact has_upd.2 hc
  exact (hc.out M w vs own' hr).mono fun e w' ⟨v, r, h', h1, h2, h3, h4, h5, h6⟩ => ⟨v, r, h', h1, h2, h3, h4, ⟨h5.size, fun c hb hd => h5.keep c hb (fun x => hd (hhas c x)), h5.sizes, h5.os, h5.tape, h5.output, h5.drn⟩, fun c hc hl => hhas c (h6 c hc hl)⟩
end
end Go.Ab
