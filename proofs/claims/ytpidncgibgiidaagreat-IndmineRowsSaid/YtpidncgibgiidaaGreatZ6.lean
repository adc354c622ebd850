/- The abstract layer, part Z6: the kit's contracts of functions that change a row, as this layer's. -/
import Derived.Test.YtpidncgibgiidaaGreatZ3
import Derived.Sort.Row
import Derived.Deep.Draws
set_option linter.unusedVariables false
set_option linter.unusedSectionVars false
set_option linter.unusedSimpArgs false
namespace Go.Ab
open Go.RowKit
section
variable {P : Program} {M : Nat → Prop} {h : Heap} {w : World}
theorem heap_map_same {b : Nat} {f : Array Value → Array Value} {c : Array Value} {e : TypeId} {fr : Nat × Nat} (hb : w.heap[b]? = some (.cells c e fr)) :
    (Go.Sort.mapBlock w b f).heap[b]? = some (.cells (f c) e fr) := by
  simp [Go.Sort.mapBlock, Array.getElem?_modify, hb, Go.Sort.onCells]
theorem heap_map_other {b b' : Nat} {f : Array Value → Array Value} (hne : b' ≠ b) : (Go.Sort.mapBlock w b f).heap[b']? = w.heap[b']? := by
  simp only [Go.Sort.mapBlock, Array.getElem?_modify]
  rw [if_neg (Ne.symm hne)]
theorem frm_map {b : Nat} {f : Array Value → Array Value} (hf : ∀ c : Array Value, (f c).size = c.size) : Frm (fun c => c = b) w (Go.Sort.mapBlock w b f) where
  size := by simp [Go.Sort.mapBlock]
  keep := fun c _ hc => heap_map_other hc
  sizes := fun c m ⟨cs, e, fr, hc, hs⟩ => by
    by_cases hcb : c = b
    · subst hcb; exact ⟨_, e, fr, heap_map_same hc, by rw [hf]; exact hs⟩
    · exact ⟨cs, e, fr, by rw [heap_map_other hcb]; exact hc, hs⟩
  os := rfl
  tape := rfl
  output := rfl
  drn := Nat.le_refl _
theorem Owns.mapB [Gl] (own : Owns M h w) {b : Nat} {k k' : Blk} {f : Array Value → Array Value} (hm : (b, k) ∈ h) (hkM : k.isM = false) (hkM' : k'.isM = false) (hf : ∀ c : Array Value, (f c).size = c.size) (hl : k'.len = k.len)
    (hr : ∀ c e, w.heap[b]? = some (.cells c e (0, 0)) → k.len ≤ c.size → ∀ i, i < k.len → Rep (envOf (hid M h) w) ((f c).getD i undef) (k'.get i)) : Owns M (h.upd b k') (Go.Sort.mapBlock w b f) := by
  have hle : (envOf (hid M h) w).le (envOf (hid M (h.upd b k')) (Go.Sort.mapBlock w b f)) := by
    rw [hid_upd]
    exact env_le (frm_map hf) (fun c hc _ => .inr (hc ▸ ⟨k, hm⟩)) (fun _ _ x => x)
  refine ⟨by rw [map_upd]; exact own.nodup, fun c hc => own.notM c (has_upd.1 hc), fun c hc => by have := own.lt c hc; simpa [Go.Sort.mapBlock] using this, fun c k2 hk hM => ?_, fun c l hk => ?_, own.gl.mono hle⟩
  rotate_left
  · rcases mem_upd own.nodup hk with ⟨rfl, e⟩ | ⟨hne, hk⟩
    · rw [← e] at hkM'; cases hkM'
    · obtain ⟨es, ck, hb, he⟩ := own.mp c l hk
      exact ⟨es, ck, by rw [heap_map_other hne]; exact hb, he⟩
  rcases mem_upd own.nodup hk with ⟨rfl, rfl⟩ | ⟨hne, hk⟩
  · obtain ⟨cs, e, hb, hl2, hr2⟩ := own.ok c k hm hkM
    exact ⟨_, e, heap_map_same hb, by rw [hf, hl]; exact hl2, fun i hi => (hr cs e hb hl2 i (by rw [← hl]; exact hi)).mono hle⟩
  · obtain ⟨cs, e, hb, hl2, hr2⟩ := own.ok c k2 hk hM
    exact ⟨cs, e, by rw [heap_map_other hne]; exact hb, hl2, fun i hi => (hr2 i hi).mono hle⟩
theorem putCells_size {α : Type} [Inhabited α] (enc : α → Value) (off : Nat) (d : Array α) (c : Array Value) : (Go.Sort.putCells enc off d c).size = c.size := by
  simp [Go.Sort.putCells]
theorem putCells_getD {α : Type} [Inhabited α] (enc : α → Value) (off : Nat) (d : Array α) (c : Array Value) (i : Nat) (hi : i < c.size) :
    (Go.Sort.putCells enc off d c).getD i undef = if off ≤ i ∧ i < off + d.size then enc d[i - off]! else c.getD i undef := by
  simp [Go.Sort.putCells, hi]
def over (l : List Int) (off : Nat) (m : List Int) : List Int := l.take off ++ m ++ l.drop (off + m.length)
theorem Call.blk [Gl] {f : FuncId} {args : List SV} {Q : SV → Heap → Prop} {b : Nat} {k k' : Blk} (he : k'.cells = k.cells) (hkM : k.isM = false) (hkM' : k'.isM = false) (hc : Call P f args [(b, k')] Q) : Call P f args [(b, k)] Q := by
  refine ⟨fun M w vs own hr => ?_⟩
  have hu : Heap.upd [(b, k)] b k' = [(b, k')] := by simp [Heap.upd]
  have own' := own.cells List.mem_cons_self he hkM hkM'
  have hh : hid M [(b, k)] = hid M [(b, k')] := by rw [← hu, hid_upd]
  rw [hu] at own'
  rw [hh] at hr
  have hhas : ∀ c, Heap.has [(b, k')] c → Heap.has [(b, k)] c := fun c hc => by rw [← hu] at hc; exact has_upd.1 hc
  have hhas2 : ∀ c, Heap.has [(b, k)] c → Heap.has [(b, k')] c := fun c hc => by rw [← hu]; exact has_upd.2 hc
  exact (hc.out M w vs own' hr).mono fun e w' ⟨v, r, h', h1, h2, h3, h4, h5, h6⟩ => ⟨v, r, h', h1, h2, h3, h4, ⟨h5.size, fun c hb hd => h5.keep c hb (fun x => hd (hhas c x)), h5.sizes, h5.os, h5.tape, h5.output, h5.drn⟩, fun c hc hl => hhas c (h6 c hc hl)⟩
end
end Go.Ab
