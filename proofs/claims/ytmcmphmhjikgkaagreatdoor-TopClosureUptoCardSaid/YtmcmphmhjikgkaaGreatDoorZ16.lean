/- The abstract layer, part Z16: the library's sort of plain values by a comparison that parts them all. -/
import Derived.Test.YtmcmphmhjikgkaaGreatDoorZ12
import Derived.Shelf.SlSortCmp.NoneTotal
set_option linter.unusedVariables false
set_option linter.unusedSectionVars false
set_option linter.unusedSimpArgs false
namespace Go.Ab
open Go.RowKit Go.Sort Go.Proofs Go.Shelf

section
variable {P : Program} {M : Nat → Prop} {h : Heap} {w : World} {α : Type} [Inhabited α]
/-- **slices.SortFunc at one cell**: the block holds the one sorted list. -/
theorem Call.sort1 [Gl] {ρ : Ren} (L : SlLaysF.n6 P ρ) (hbody : Body P (ρ.f 6)) (enc : α → Value) (h1 : OneCell enc)
    (cf : α → α → Int) (hO : SWO (ltOf cf)) (hT : ∀ x y, ltOf cf x y = false → ltOf cf y x = false → x = y) (g : Nat) (eg : ∀ args w, (callFunc g args).run P w = .ok (.enter g args) w)
    (hcmp : ∀ x y, PCall P g [.sc (enc x), .sc (enc y)] (.sc (.int .i64 (cf x y)))) (b : Nat) (l : List α) (hl : l.length < 4611686018427387904) :
    Call P (ρ.f 6) [.os b 0 l.length 1, .fn (.func g) [] []] [(b, .svs (l.map fun x => SV.sc (enc x)))]
      (fun r h' => r = .tup [] ∧ h' = [(b, .svs ((l.mergeSort fun x y => !(ltOf cf) y x).map fun x => SV.sc (enc x)))]) := by
  refine ⟨fun M w vs own hr => .inl ⟨hbody, ?_⟩⟩
  have hm : (b, Blk.svs (l.map fun x => SV.sc (enc x))) ∈ ([(b, Blk.svs (l.map fun x => SV.sc (enc x)))] : Heap) := List.mem_cons_self
  have hflen : (l.map fun x => SV.sc (enc x)).length = l.length := List.length_map _
  obtain ⟨hs1, hs2⟩ := hr
  have r0 := hs2 0 (by simp)
  have r1 := hs2 1 (by simp)
  simp only [List.getD_cons_zero, List.getD_cons_succ] at r0 r1
  obtain ⟨cap, hv0⟩ : ∃ cap, vs.getD 0 undef = .slice (some ⟨b, 0, none⟩) l.length cap := by
    generalize vs.getD 0 undef = v0 at r0
    cases r0 with
    | os _ _ _ cap _ m hc hm hb => exact ⟨cap, rfl⟩
  have hv1 : vs.getD 1 undef = .func (.func g) #[] #[] := by
    generalize vs.getD 1 undef = v1 at r1
    cases r1 with
    | fn _ c1 c2 _ _ l1 l2 _ _ =>
      have e1 : c1 = #[] := Array.eq_empty_of_size_eq_zero l1
      have e2 : c2 = #[] := Array.eq_empty_of_size_eq_zero l2
      rw [e1, e2]
  have hvs : vs = #[.slice (some ⟨b, 0, none⟩) l.length cap, .func (.func g) #[] #[]] := by
    apply Array.ext
    · simpa using hs1
    · intro i h2 h3
      simp at h3
      rcases (by omega : i = 0 ∨ i = 1) with rfl | rfl
      · have : vs[0] = vs.getD 0 undef := by simp [h2]
        rw [this, hv0]; rfl
      · have : vs[1] = vs.getD 1 undef := by simp [h2]
        rw [this, hv1]; rfl
  have hold : Holds enc w b 0 l.toArray := fun j hj => by
    have hj2 : j < l.length := by simpa using hj
    obtain ⟨v, hv, hrv⟩ := own.cell hm (i := 0 + j) (by simp only [Blk.len]; rw [hflen]; omega)
    obtain ⟨c, e, hb, _, _⟩ := own.ok b _ hm rfl
    simp only [Blk.get] at hrv
    have hg : (l.map fun x => SV.sc (enc x)).getD (0 + j) .any = .sc (enc l.toArray[j]!) := by
      simp [List.getD_eq_getElem?_getD, hj2]
    rw [hg] at hrv
    have : v = enc l.toArray[j]! := by
      generalize enc l.toArray[j]! = u at hrv
      cases hrv; rfl
    rw [hv, this]
    exact ⟨rfl, by simp [World.frozen?, hb]⟩
  have hW : ∀ m (dk : Array α) os, Frm (fun c => c = b) w (sortWorld enc w b 0 m dk os) := fun m dk os => by
    have f1 := (frm_ahead w m).weak (D' := fun c => c = b) (fun _ x => x.elim)
    have f2 : Frm (fun c => c = b) (Go.Sort.ahead w m) (putRow enc (Go.Sort.ahead w m) b 0 dk) := frm_map (putCells_size _ _ _)
    have f3 := frm_grow (putRow enc (Go.Sort.ahead w m) b 0 dk) os
    exact f1.trans (f2.trans f3 (fun _ _ x => x.elim)) (fun _ _ x => x)
  have hC : CmpLays1 P g #[] enc cf b 0 l.toArray.size w := fun m os dk hds x y => by
    have f := hW m dk os
    generalize sortWorld enc w b 0 m dk os = W at f ⊢
    have hle : (envOf (hid M [(b, Blk.svs (l.map fun x => SV.sc (enc x)))]) w).le (envOf (hid (hid M [(b, Blk.svs (l.map fun x => SV.sc (enc x)))]) []) W) :=
      env_le f (fun c hc _ => .inr (by rw [show c = b from hc]; exact ⟨_, hm⟩)) (fun c _ x => x.elim id (fun ⟨_, hk⟩ => by cases hk))
    have own' : Owns (hid M [(b, Blk.svs (l.map fun x => SV.sc (enc x)))]) [] W := ⟨by simp, fun c ⟨_, hk⟩ => by (cases hk), fun c hc => Nat.lt_of_lt_of_le (hc.elim (own.lt c) (fun x => own.has_lt x)) f.size, fun c k hk _ => by (cases hk), fun c l hk => by (cases hk), own.gl.mono hle⟩
    change Calls P g #[enc x, enc y] W _
    rcases (hcmp x y).out _ W #[enc x, enc y] own' ⟨rfl, fun i hi => by
      simp at hi
      rcases (by omega : i = 0 ∨ i = 1) with rfl | rfl
      · exact .sc _
      · exact .sc _⟩ with ⟨_, hc⟩ | ⟨v, w', hrun, _⟩
    · exact hc.mono fun e w' ⟨v, r, h', he, ⟨hr, hh⟩, hv, _, frm, _⟩ => by
        subst hr hh
        cases hv
        exact ⟨he, grow_of_frm ⟨frm.size, fun c hc _ => frm.keep c hc (fun ⟨_, hk⟩ => by cases hk), frm.sizes, frm.os, frm.tape, frm.output, frm.drn⟩⟩
    · rw [eg] at hrun
      cases hrun
  have hfin := Any.slices_SortFunc_total L enc h1 cf hO g #[] b 0 cap l.toArray w eg hC hold (own.has_lt ⟨_, hm⟩) (by simpa using hl) hT
  have e0 : l.toArray.size = l.length := by simp
  rw [e0] at hfin
  rw [hvs]
  refine hfin.mono fun e w' ⟨he, n, os, hw'⟩ => ?_
  have hw2 : w' = sortWorld enc w b 0 n (l.mergeSort fun x y => !(ltOf cf) y x).toArray os := hw'
  clear hw' hfin
  have hsl : (l.mergeSort fun x y => !(ltOf cf) y x).length = l.length := List.length_mergeSort _
  generalize (l.mergeSort fun x y => !(ltOf cf) y x) = s at hw2 hsl ⊢
  have hslen : (s.map fun x => SV.sc (enc x)).length = s.length := List.length_map _
  have own1 : Owns M (Heap.upd [(b, Blk.svs (l.map fun x => SV.sc (enc x)))] b (.svs (s.map fun x => SV.sc (enc x)))) (mapBlock (Go.Sort.ahead w n) b (putCells enc 0 s.toArray)) := by
    refine (own.frm (frm_ahead w n)).mapB hm rfl rfl (putCells_size _ _ _) (by simp only [Blk.len]; rw [hslen, hflen, hsl]) fun c e hb hle i hi => ?_
    simp only [Blk.len] at hle hi
    rw [hflen] at hle hi
    have hi2 : i < s.length := by rw [hsl]; exact hi
    rw [putCells_getD _ _ _ _ _ (by omega), if_pos ⟨Nat.zero_le _, by simp; omega⟩]
    simp only [Blk.get, Nat.sub_zero]
    have hg : (s.map fun x => SV.sc (enc x)).getD i .any = .sc (enc s.toArray[i]!) := by
      simp [List.getD_eq_getElem?_getD, hi2]
    rw [hg]
    exact .sc _
  have hu : Heap.upd [(b, Blk.svs (l.map fun x => SV.sc (enc x)))] b (.svs (s.map fun x => SV.sc (enc x))) = [(b, .svs (s.map fun x => SV.sc (enc x)))] := by simp [Heap.upd]
  rw [hu] at own1
  have own2 : Owns M [(b, .svs (s.map fun x => SV.sc (enc x)))] w' := by
    rw [hw2]
    exact own1.frm (frm_grow _ os)
  have f := hW n s.toArray os
  rw [← hw2] at f
  refine ⟨.tuple #[], .tup [], _, he, ⟨rfl, rfl⟩, .tup #[] [] rfl (fun j hj => absurd hj (by simp)), own2, f.weak (fun c hc => by rw [show c = b from hc]; exact ⟨_, hm⟩), ?_⟩
  rintro c ⟨k, hk⟩ _
  rcases List.mem_cons.1 hk with hk | hk
  · cases hk; exact ⟨_, hm⟩
  · cases hk
/-- A function that puts the values of a slice in place in another order (of the library's sort). -/
theorem Call.place1 [Gl] {f : FuncId} (hbody : Body P f) (enc : α → Value) (b : Nat) (l s : List α) (hsl : s.length = l.length)
    (hc : ∀ (w : World) (cap : Nat), Holds enc w b 0 l.toArray → b < w.heap.size → Calls P f #[.slice (some ⟨b, 0, none⟩) l.length cap] w fun e w' => e = .returned (.tuple #[]) ∧ ∃ n os, w' = sortWorld enc w b 0 n s.toArray os) :
    Call P f [.os b 0 l.length 1] [(b, .svs (l.map fun x => SV.sc (enc x)))] (fun r h' => r = .tup [] ∧ h' = [(b, .svs (s.map fun x => SV.sc (enc x)))]) := by
  refine ⟨fun M w vs own hr => .inl ⟨hbody, ?_⟩⟩
  have hm : (b, Blk.svs (l.map fun x => SV.sc (enc x))) ∈ ([(b, Blk.svs (l.map fun x => SV.sc (enc x)))] : Heap) := List.mem_cons_self
  have hflen : (l.map fun x => SV.sc (enc x)).length = l.length := List.length_map _
  obtain ⟨hs1, hs2⟩ := hr
  have r0 := hs2 0 (by simp)
  simp only [List.getD_cons_zero] at r0
  obtain ⟨cap, hv0⟩ : ∃ cap, vs.getD 0 undef = .slice (some ⟨b, 0, none⟩) l.length cap := by
    generalize vs.getD 0 undef = v0 at r0
    cases r0 with
    | os _ _ _ cap _ m hc hm hb => exact ⟨cap, rfl⟩
  have hvs : vs = #[.slice (some ⟨b, 0, none⟩) l.length cap] := by
    apply Array.ext
    · simpa using hs1
    · intro i h2 h3
      simp at h3
      subst h3
      have : vs[0] = vs.getD 0 undef := by simp [h2]
      rw [this, hv0]; rfl
  have hold : Holds enc w b 0 l.toArray := fun j hj => by
    have hj2 : j < l.length := by simpa using hj
    obtain ⟨v, hv, hrv⟩ := own.cell hm (i := 0 + j) (by simp only [Blk.len]; rw [hflen]; omega)
    obtain ⟨c, e, hb, _, _⟩ := own.ok b _ hm rfl
    simp only [Blk.get] at hrv
    have hg : (l.map fun x => SV.sc (enc x)).getD (0 + j) .any = .sc (enc l.toArray[j]!) := by
      simp [List.getD_eq_getElem?_getD, hj2]
    rw [hg] at hrv
    have : v = enc l.toArray[j]! := by
      generalize enc l.toArray[j]! = u at hrv
      cases hrv; rfl
    rw [hv, this]
    exact ⟨rfl, by simp [World.frozen?, hb]⟩
  have hW : ∀ m (dk : Array α) os, Frm (fun c => c = b) w (sortWorld enc w b 0 m dk os) := fun m dk os => by
    have f1 := (frm_ahead w m).weak (D' := fun c => c = b) (fun _ x => x.elim)
    have f2 : Frm (fun c => c = b) (Go.Sort.ahead w m) (putRow enc (Go.Sort.ahead w m) b 0 dk) := frm_map (putCells_size _ _ _)
    have f3 := frm_grow (putRow enc (Go.Sort.ahead w m) b 0 dk) os
    exact f1.trans (f2.trans f3 (fun _ _ x => x.elim)) (fun _ _ x => x)
  have hfin := hc w cap hold (own.has_lt ⟨_, hm⟩)
  rw [hvs]
  refine hfin.mono fun e w' ⟨he, n, os, hw'⟩ => ?_
  have hw2 : w' = sortWorld enc w b 0 n s.toArray os := hw'
  clear hw' hfin
  have hslen : (s.map fun x => SV.sc (enc x)).length = s.length := List.length_map _
  have own1 : Owns M (Heap.upd [(b, Blk.svs (l.map fun x => SV.sc (enc x)))] b (.svs (s.map fun x => SV.sc (enc x)))) (mapBlock (Go.Sort.ahead w n) b (putCells enc 0 s.toArray)) := by
    refine (own.frm (frm_ahead w n)).mapB hm rfl rfl (putCells_size _ _ _) (by simp only [Blk.len]; rw [hslen, hflen, hsl]) fun c e hb hle i hi => ?_
    simp only [Blk.len] at hle hi
    rw [hflen] at hle hi
    have hi2 : i < s.length := by rw [hsl]; exact hi
    rw [putCells_getD _ _ _ _ _ (by omega), if_pos ⟨Nat.zero_le _, by simp; omega⟩]
    simp only [Blk.get, Nat.sub_zero]
    have hg : (s.map fun x => SV.sc (enc x)).getD i .any = .sc (enc s.toArray[i]!) := by
      simp [List.getD_eq_getElem?_getD, hi2]
    rw [hg]
    exact .sc _
  have hu : Heap.upd [(b, Blk.svs (l.map fun x => SV.sc (enc x)))] b (.svs (s.map fun x => SV.sc (enc x))) = [(b, .svs (s.map fun x => SV.sc (enc x)))] := by simp [Heap.upd]
  rw [hu] at own1
  have own2 : Owns M [(b, .svs (s.map fun x => SV.sc (enc x)))] w' := by
    rw [hw2]
    exact own1.frm (frm_grow _ os)
  have f := hW n s.toArray os
  rw [← hw2] at f
  refine ⟨.tuple #[], .tup [], _, he, ⟨rfl, rfl⟩, .tup #[] [] rfl (fun j hj => absurd hj (by simp)), own2, f.weak (fun c hc => by rw [show c = b from hc]; exact ⟨_, hm⟩), ?_⟩
  rintro c ⟨k, hk⟩ _
  rcases List.mem_cons.1 hk with hk | hk
  · cases hk; exact ⟨_, hm⟩
  · cases hk
end
end Go.Ab
