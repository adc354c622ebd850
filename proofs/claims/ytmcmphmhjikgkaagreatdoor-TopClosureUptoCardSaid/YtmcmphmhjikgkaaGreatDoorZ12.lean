/- The abstract layer, part Z12: the library's sort of structs of plain fields by a comparison that parts them all. -/
import Derived.Test.YtmcmphmhjikgkaaGreatDoorZ6
import Derived.Shelf.SlSortCmp.NoneTotal
set_option linter.unusedVariables false
set_option linter.unusedSectionVars false
set_option linter.unusedSimpArgs false
namespace Go.Ab
open Go.RowKit Go.Sort Go.Proofs Go.Shelf

section
variable {P : Program} {M : Nat → Prop} {h : Heap} {w : World}

theorem frm_ahead (w : World) (n : Nat) : Frm (fun _ => False) w (Go.Sort.ahead w n) := ⟨Nat.le_refl _, fun _ _ _ => rfl, fun _ _ x => x, rfl, rfl, rfl, Nat.le_add_right _ _⟩
theorem frm_grow (w : World) (os : Array Obj) : Frm (fun _ => False) w (grow w os) := by
  have hk : ∀ b, b < w.heap.size → (grow w os).heap[b]? = w.heap[b]? := fun b hb => by simp [grow, Array.getElem?_append, hb]
  exact ⟨by simp [grow], fun b hb _ => hk b hb, fun b m ⟨c, e, fr, hb, hs⟩ => ⟨c, e, fr, by rw [hk b (lt_of_heap hb)]; exact hb, hs⟩, rfl, rfl, rfl, Nat.le_refl _⟩
theorem Frm.weak {D D' : Nat → Prop} {w w' : World} (f : Frm D w w') (hD : ∀ b, D b → D' b) : Frm D' w w' := ⟨f.size, fun b hb hd => f.keep b hb (fun x => hd (hD b x)), f.sizes, f.os, f.tape, f.output, f.drn⟩
/-- What only draws and makes blocks. -/
theorem grow_of_frm {w w' : World} (f : Frm (fun _ => False) w w') : ∃ q os, w' = grow (w.drewN q) os := by
  refine ⟨w'.drawn - w.drawn, w'.heap.extract w.heap.size w'.heap.size, ?_⟩
  have e1 : w'.heap = w.heap ++ w'.heap.extract w.heap.size w'.heap.size := by
    apply Array.ext_getElem?
    intro i
    rw [Array.getElem?_append]
    by_cases hi : i < w.heap.size
    · rw [if_pos hi]
      exact f.keep i hi (fun x => x)
    · rw [if_neg hi, Array.getElem?_extract]
      have hs := f.size
      by_cases h2 : i < w'.heap.size
      · rw [if_pos (by omega), Nat.add_sub_cancel' (by omega)]
      · rw [if_neg (by omega), Array.getElem?_eq_none (by omega)]
  have e2 : w'.drawn = w.drawn + (w'.drawn - w.drawn) := by have := f.drn; omega
  obtain ⟨hp, tp, dr, os, out⟩ := w'
  obtain ⟨hp0, tp0, dr0, os0, out0⟩ := w
  have h1 := f.os; have h2 := f.tape; have h3 := f.output
  simp only at h1 h2 h3 e1 e2
  subst h1 h2 h3
  unfold grow World.drewN
  simp only
  rw [← e1, ← e2]

variable {α : Type} [Inhabited α]
theorem flat_len (enc : α → List Value) (k : Nat) (hk : ∀ x, (enc x).length = k) (l : List α) : (l.flatMap fun x => (enc x).map SV.sc).length = l.length * k := by
  induction l with
  | nil => simp
  | cons a r ih => rw [List.flatMap_cons, List.length_append, ih, List.length_map, hk, List.length_cons, Nat.add_mul, Nat.one_mul, Nat.add_comm]
theorem flat_get (enc : α → List Value) (k : Nat) (hk : ∀ x, (enc x).length = k) : ∀ (l : List α) (t : Nat), t < l.length * k → (l.flatMap fun x => (enc x).map SV.sc).getD t .any = .sc ((flatK enc k l.toArray)[t]!) := by
  intro l t ht
  rw [get_flatK _ _ _ t (by simpa using ht)]
  induction l generalizing t with
  | nil => simp at ht
  | cons a r ih =>
    have k0 : 0 < k := by
      rcases Nat.eq_zero_or_pos k with h | h
      · subst h; simp at ht
      · exact h
    rw [List.flatMap_cons]
    by_cases h1 : t < k
    · have e1 : t / k = 0 := Nat.div_eq_of_lt h1
      have e2 : t % k = t := Nat.mod_eq_of_lt h1
      have h2 : t < (enc a).length := by rw [hk]; exact h1
      rw [e1, e2, List.getD_eq_getElem?_getD, List.getElem?_append_left (by rw [List.length_map]; exact h2), List.getElem?_map, List.getElem?_eq_getElem h2]
      simp [h2]
    · have h2 := ih (t - k) (by rw [List.length_cons, Nat.add_mul, Nat.one_mul] at ht; omega)
      have e1 : t / k = (t - k) / k + 1 := by rw [← Nat.add_div_right _ k0, Nat.sub_add_cancel (by omega)]
      have e2 : t % k = (t - k) % k := by rw [Nat.mod_eq_sub_mod (by omega)]
      rw [List.getD_eq_getElem?_getD, List.getElem?_append_right (by rw [List.length_map, hk]; omega), List.length_map, hk, ← List.getD_eq_getElem?_getD, h2, e1, e2]
      simp

/-- **slices.SortFunc at structs of plain fields**: the block holds the one sorted list. -/
theorem Call.sortQ [Gl] {ρ : Ren} (L : SlLaysF0.n6 P ρ) (hbody : Body P (ρ.f 6)) (k : Nat) (aE : ∀ w, (isAgg (ρ.t 24)).run P w = .ok true w) (zE : ∀ w, (Go.sizeOf (ρ.t 24)).run P w = .ok k w) (enc : α → List Value) (hk : ∀ x, (enc x).length = k) (h1 : ∀ x, ∀ v ∈ enc x, v.oneCell' = true)
    (cf : α → α → Int) (hO : SWO (ltOf cf)) (hT : ∀ x y, ltOf cf x y = false → ltOf cf y x = false → x = y) (g : Nat) (eg : ∀ args w, (callFunc g args).run P w = .ok (.enter g args) w)
    (hcmp : ∀ x y, PCall P g [.agg ((enc x).map .sc), .agg ((enc y).map .sc)] (.sc (.int .i64 (cf x y)))) (b : Nat) (l : List α) (hl : l.length < 4611686018427387904) :
    Call P (ρ.f 6) [.os b 0 l.length k, .fn (.func g) [] []] [(b, .svs (l.flatMap fun x => (enc x).map SV.sc))]
      (fun r h' => r = .tup [] ∧ h' = [(b, .svs ((l.mergeSort fun x y => !(ltOf cf) y x).flatMap fun x => (enc x).map SV.sc))]) := by
  refine ⟨fun M w vs own hr => .inl ⟨hbody, ?_⟩⟩
  have hm : (b, Blk.svs (l.flatMap fun x => (enc x).map SV.sc)) ∈ ([(b, Blk.svs (l.flatMap fun x => (enc x).map SV.sc))] : Heap) := List.mem_cons_self
  have hflen := flat_len enc k hk l
  obtain ⟨hs1, hs2⟩ := hr
  have r0 := hs2 0 (by simp)
  have r1 := hs2 1 (by simp)
  simp only [List.getD_cons_zero, List.getD_cons_succ] at r0 r1
  obtain ⟨cap, hv0⟩ : ∃ cap, vs.getD 0 undef = .slice (some ⟨b, 0, none⟩) l.length cap := by
    generalize vs.getD 0 undef = v0 at r0
    cases r0 with
    | os _ _ _ cap _ m hc hm hb => exact ⟨cap, rfl⟩
  have hv1 : vs.getD 1 undef = .func (.func g) #[] #[] := by
    generalize vs.getD 1 undef = v1 at r1
    cases r1 with
    | fn _ c1 c2 _ _ l1 l2 _ _ =>
      have e1 : c1 = #[] := Array.eq_empty_of_size_eq_zero l1
      have e2 : c2 = #[] := Array.eq_empty_of_size_eq_zero l2
      rw [e1, e2]
  have hvs : vs = #[.slice (some ⟨b, 0, none⟩) l.length cap, .func (.func g) #[] #[]] := by
    apply Array.ext
    · simpa using hs1
    · intro i h2 h3
      simp at h3
      rcases (by omega : i = 0 ∨ i = 1) with rfl | rfl
      · have : vs[0] = vs.getD 0 undef := by simp [h2]
        rw [this, hv0]; rfl
      · have : vs[1] = vs.getD 1 undef := by simp [h2]
        rw [this, hv1]; rfl
  have hfsz : (flatK enc k l.toArray).size = l.length * k := by simp
  have hold : HoldsK enc k w b 0 l.toArray := fun j hj => by
    rw [hfsz] at hj
    obtain ⟨v, hv, hrv⟩ := own.cell hm (i := 0 + j) (by simp only [Blk.len]; rw [hflen]; omega)
    obtain ⟨c, e, hb, _, _⟩ := own.ok b _ hm rfl
    simp only [Blk.get] at hrv
    rw [Nat.zero_add, flat_get enc k hk l j hj] at hrv
    have : v = (flatK enc k l.toArray)[j]! := by
      generalize (flatK enc k l.toArray)[j]! = u at hrv
      cases hrv; rfl
    rw [hv, this]
    exact ⟨rfl, by simp [World.frozen?, hb]⟩
  have hW : ∀ m (dk : Array α) os, Frm (fun c => c = b) w (sortWorldK enc k w b 0 m dk os) := fun m dk os => by
    have f1 := (frm_ahead w m).weak (D' := fun c => c = b) (fun _ x => x.elim)
    have f2 : Frm (fun c => c = b) (Go.Sort.ahead w m) (putRowK enc k (Go.Sort.ahead w m) b 0 dk) := frm_map (putCells_size _ _ _)
    have f3 := frm_grow (putRowK enc k (Go.Sort.ahead w m) b 0 dk) os
    exact f1.trans (f2.trans f3 (fun _ _ x => x.elim)) (fun _ _ x => x)
  have hC : CmpLays P g #[] enc k cf b 0 l.toArray.size w := fun m os dk hds x y => by
    have f := hW m dk os
    generalize sortWorldK enc k w b 0 m dk os = W at f ⊢
    have hle : (envOf (hid M [(b, Blk.svs (l.flatMap fun x => (enc x).map SV.sc))]) w).le (envOf (hid (hid M [(b, Blk.svs (l.flatMap fun x => (enc x).map SV.sc))]) []) W) :=
      env_le f (fun c hc _ => .inr (by rw [show c = b from hc]; exact ⟨_, hm⟩)) (fun c _ x => x.elim id (fun ⟨_, hk⟩ => by cases hk))
    have own' : Owns (hid M [(b, Blk.svs (l.flatMap fun x => (enc x).map SV.sc))]) [] W := ⟨by simp, fun c ⟨_, hk⟩ => by (cases hk), fun c hc => Nat.lt_of_lt_of_le (hc.elim (own.lt c) (fun x => own.has_lt x)) f.size, fun c k hk _ => by (cases hk), fun c l hk => by (cases hk), own.gl.mono hle⟩
    change Calls P g #[.agg (enc x).toArray, .agg (enc y).toArray] W _
    have hrep : ∀ z, Rep (envOf (hid (hid M [(b, Blk.svs (l.flatMap fun x => (enc x).map SV.sc))]) []) W) (.agg (enc z).toArray) (.agg ((enc z).map .sc)) := fun z => by
      refine .agg _ _ (by simp) (fun j hj => ?_)
      rw [List.length_map] at hj
      have e1 : ((enc z).map SV.sc).getD j .any = .sc ((enc z).toArray.getD j undef) := by simp [hj]
      rw [e1]
      exact .sc _
    rcases (hcmp x y).out _ W #[.agg (enc x).toArray, .agg (enc y).toArray] own' ⟨rfl, fun i hi => by
      simp at hi
      rcases (by omega : i = 0 ∨ i = 1) with rfl | rfl
      · exact hrep x
      · exact hrep y⟩ with ⟨_, hc⟩ | ⟨v, w', hrun, _⟩
    · exact hc.mono fun e w' ⟨v, r, h', he, ⟨hr, hh⟩, hv, _, frm, _⟩ => by
        subst hr hh
        cases hv
        exact ⟨he, grow_of_frm ⟨frm.size, fun c hc _ => frm.keep c hc (fun ⟨_, hk⟩ => by cases hk), frm.sizes, frm.os, frm.tape, frm.output, frm.drn⟩⟩
    · rw [eg] at hrun
      cases hrun
  have hfin := AnyQ.slices_SortFunc_total L k aE zE enc hk h1 cf hO g #[] b 0 cap l.toArray w eg hC hold (own.has_lt ⟨_, hm⟩) (by simpa using hl) hT
  have e0 : l.toArray.size = l.length := by simp
  rw [e0] at hfin
  rw [hvs]
  refine hfin.mono fun e w' ⟨he, n, os, hw'⟩ => ?_
  have hw2 : w' = sortWorldK enc k w b 0 n (l.mergeSort fun x y => !(ltOf cf) y x).toArray os := hw'
  clear hw' hfin
  have hsl : (l.mergeSort fun x y => !(ltOf cf) y x).length = l.length := List.length_mergeSort _
  generalize (l.mergeSort fun x y => !(ltOf cf) y x) = s at hw2 hsl ⊢
  have hslen := flat_len enc k hk s
  have hfs : (flatK enc k s.toArray).size = l.length * k := by simp [hsl]
  have own1 : Owns M (Heap.upd [(b, Blk.svs (l.flatMap fun x => (enc x).map SV.sc))] b (.svs (s.flatMap fun x => (enc x).map SV.sc))) (mapBlock (Go.Sort.ahead w n) b (putCells id 0 (flatK enc k s.toArray))) := by
    refine (own.frm (frm_ahead w n)).mapB hm rfl rfl (putCells_size _ _ _) (by simp only [Blk.len]; rw [hslen, hflen, hsl]) fun c e hb hle i hi => ?_
    simp only [Blk.len] at hle hi
    rw [hflen] at hle hi
    rw [putCells_getD _ _ _ _ _ (by omega), if_pos ⟨Nat.zero_le _, by rw [hfs]; omega⟩]
    simp only [Blk.get, Nat.sub_zero, id]
    rw [flat_get enc k hk s i (by rw [hsl]; exact hi)]
    exact .sc _
  have hu : Heap.upd [(b, Blk.svs (l.flatMap fun x => (enc x).map SV.sc))] b (.svs (s.flatMap fun x => (enc x).map SV.sc)) = [(b, .svs (s.flatMap fun x => (enc x).map SV.sc))] := by simp [Heap.upd]
  rw [hu] at own1
  have own2 : Owns M [(b, .svs (s.flatMap fun x => (enc x).map SV.sc))] w' := by
    rw [hw2]
    exact own1.frm (frm_grow _ os)
  have f := hW n s.toArray os
  rw [← hw2] at f
  refine ⟨.tuple #[], .tup [], _, he, ⟨rfl, rfl⟩, .tup #[] [] rfl (fun j hj => absurd hj (by simp)), own2, f.weak (fun c hc => by rw [show c = b from hc]; exact ⟨_, hm⟩), ?_⟩
  rintro c ⟨k, hk⟩ _
  rcases List.mem_cons.1 hk with hk | hk
  · cases hk; exact ⟨_, hm⟩
  · cases hk
/-- .. at nothing. -/
theorem Call.sortQ0 [Gl] {ρ : Ren} (L : SlLaysF0.n6 P ρ) (hbody : Body P (ρ.f 6)) (g : Nat) : PCall P (ρ.f 6) [.sc (.slice none 0 0), .fn (.func g) [] []] (.tup []) := by
  refine PCall.of_calls hbody fun w E vs _ _ _ hr => ?_
  obtain ⟨hs1, hs2⟩ := hr
  have r0 := hs2 0 (by simp)
  simp only [List.getD_cons_zero] at r0
  have hv0 : vs.getD 0 undef = .slice none 0 0 := by
    generalize vs.getD 0 undef = v0 at r0
    cases r0; rfl
  have hvs : vs = #[.slice none 0 0, vs.getD 1 undef] := by
    apply Array.ext
    · simpa using hs1
    · intro i h2 h3
      simp at h3
      rcases (by omega : i = 0 ∨ i = 1) with rfl | rfl
      · have : vs[0] = vs.getD 0 undef := by simp [h2]
        rw [this, hv0]; rfl
      · simp [h2]
  rw [hvs]
  exact (AnyF.slices_SortFunc_none L none 0 _ w).mono fun e w' ⟨he, hw⟩ => ⟨_, he, fun _ => .tup #[] [] rfl (fun j hj => absurd hj (by simp)), by rw [hw]; exact ⟨RowKit.Below.refl _ _, Nat.le_refl _⟩⟩
end
end Go.Ab
