/- The abstract layer, part Z19: the library's sort of values that are only known by what they read as (frozen slices). -/
import Derived.Test.YtblfodnajpamfaaGreatDoorZ16
set_option linter.unusedVariables false
set_option linter.unusedSectionVars false
set_option linter.unusedSimpArgs false
namespace Go.Ab
open Go.RowKit Go.Sort Go.Proofs Go.Shelf
section
variable {P : Program} {M : Nat → Prop} {h : Heap} {w : World}
theorem Call.sortS [Gl] {β : Type} [DecidableEq β] {ρ : Ren} (L : SlLaysF.n6 P ρ) (hbody : Body P (ρ.f 6)) (sv : β → SV) (hone : ∀ x E v, Rep E v (sv x) → v.oneCell' = true)
    (cf : β → β → Int) (hO : SWO (ltOf cf)) (hT : ∀ x y, ltOf cf x y = false → ltOf cf y x = false → x = y) (g : Nat) (eg : ∀ args w, (callFunc g args).run P w = .ok (.enter g args) w)
    (b : Nat) (l : List β) (hne : l ≠ []) (hnd : l.Nodup) (hl : l.length < 4611686018427387904) (hcmp : ∀ x ∈ l, ∀ y ∈ l, PCall P g [sv x, sv y] (.sc (.int .i64 (cf x y)))) :
    Call P (ρ.f 6) [.os b 0 l.length 1, .fn (.func g) [] []] [(b, .svs (l.map sv))]
      (fun r h' => r = .tup [] ∧ h' = [(b, .svs ((l.mergeSort fun x y => !(ltOf cf) y x).map sv))]) := by
  refine ⟨fun M w vs own hr => .inl ⟨hbody, ?_⟩⟩
  have hm : (b, Blk.svs (l.map sv)) ∈ ([(b, Blk.svs (l.map sv))] : Heap) := List.mem_cons_self
  have hflen : (l.map sv).length = l.length := List.length_map _
  obtain ⟨hs1, hs2⟩ := hr
  have r0 := hs2 0 (by simp)
  have r1 := hs2 1 (by simp)
  simp only [List.getD_cons_zero, List.getD_cons_succ] at r0 r1
  obtain ⟨cap, hv0⟩ : ∃ cap, vs.getD 0 undef = .slice (some ⟨b, 0, none⟩) l.length cap := by
    generalize vs.getD 0 undef = v0 at r0
    cases r0 with
    | os _ _ _ cap _ m hc hm hb => exact ⟨cap, rfl⟩
  have hv1 : vs.getD 1 undef = .func (.func g) #[] #[] := by
    generalize vs.getD 1 undef = v1 at r1
    cases r1 with
    | fn _ c1 c2 _ _ l1 l2 _ _ =>
      have e1 : c1 = #[] := Array.eq_empty_of_size_eq_zero l1
      have e2 : c2 = #[] := Array.eq_empty_of_size_eq_zero l2
      rw [e1, e2]
  have hvs : vs = #[.slice (some ⟨b, 0, none⟩) l.length cap, .func (.func g) #[] #[]] := by
    apply Array.ext
    · simpa using hs1
    · intro i h2 h3
      simp at h3
      rcases (by omega : i = 0 ∨ i = 1) with rfl | rfl
      · have : vs[0] = vs.getD 0 undef := by simp [h2]
        rw [this, hv0]; rfl
      · have : vs[1] = vs.getD 1 undef := by simp [h2]
        rw [this, hv1]; rfl
  obtain ⟨x0, hx0⟩ := List.exists_mem_of_ne_nil l hne
  haveI : Inhabited {x : β // x ∈ l} := ⟨⟨x0, hx0⟩⟩
  obtain ⟨enc, henc⟩ : ∃ enc : {x : β // x ∈ l} → Value, ∀ x, enc x = (w.cell? ⟨b, 0 + l.idxOf x.1, none⟩).getD undef := ⟨_, fun _ => rfl⟩
  have hcellE : ∀ x : {x : β // x ∈ l}, w.cell? ⟨b, 0 + l.idxOf x.1, none⟩ = some (enc x) ∧ Rep (envOf (hid M [(b, Blk.svs (l.map sv))]) w) (enc x) (sv x.1) := fun x => by
    have hi := List.idxOf_lt_length_of_mem x.2
    obtain ⟨v, hv, hrv⟩ := own.cell hm (i := 0 + l.idxOf x.1) (by simp only [Blk.len]; rw [hflen]; omega)
    simp only [Blk.get] at hrv
    have hg : (l.map sv).getD (0 + l.idxOf x.1) .any = sv x.1 := by
      rw [Nat.zero_add, List.getD_eq_getElem?_getD, List.getElem?_map, List.getElem?_eq_getElem hi, List.getElem_idxOf hi]
      rfl
    rw [hg] at hrv
    have e : enc x = v := by rw [henc, hv]; rfl
    rw [e]
    exact ⟨hv, hrv⟩
  have h1 : OneCell enc := fun x => hone _ _ _ (hcellE x).2
  have hfr : ∀ j, w.frozen? ⟨b, 0 + j, none⟩ = false := fun j => by
    obtain ⟨c, e, hb, _, _⟩ := own.ok b _ hm rfl
    simp [World.frozen?, hb]
  have hatl : l.attach.length = l.length := List.length_attach
  have hold : Holds enc w b 0 l.attach.toArray := fun j hj => by
    have hj2 : j < l.attach.length := by simpa using hj
    have hj3 : j < l.length := by omega
    have he : (l.attach.toArray[j]!).1 = l[j] := by
      rw [getElem!_pos l.attach.toArray j hj]
      simp
    refine ⟨?_, hfr j⟩
    have h3 := (hcellE (l.attach.toArray[j]!)).1
    rw [he, hnd.idxOf_getElem j hj3] at h3
    exact h3
  have hW : ∀ m (dk : Array {x : β // x ∈ l}) os, Frm (fun c => c = b) w (sortWorld enc w b 0 m dk os) := fun m dk os => by
    have f1 := (frm_ahead w m).weak (D' := fun c => c = b) (fun _ x => x.elim)
    have f2 : Frm (fun c => c = b) (Go.Sort.ahead w m) (putRow enc (Go.Sort.ahead w m) b 0 dk) := frm_map (putCells_size _ _ _)
    have f3 := frm_grow (putRow enc (Go.Sort.ahead w m) b 0 dk) os
    exact f1.trans (f2.trans f3 (fun _ _ x => x.elim)) (fun _ _ x => x)
  have hC : CmpLays1 P g #[] enc (fun x y => cf x.1 y.1) b 0 l.attach.toArray.size w := fun m os dk hds x y => by
    have f := hW m dk os
    generalize sortWorld enc w b 0 m dk os = W at f ⊢
    have hle : (envOf (hid M [(b, Blk.svs (l.map sv))]) w).le (envOf (hid (hid M [(b, Blk.svs (l.map sv))]) []) W) :=
      env_le f (fun c hc _ => .inr (by rw [show c = b from hc]; exact ⟨_, hm⟩)) (fun c _ x => x.elim id (fun ⟨_, hk⟩ => by cases hk))
    have own' : Owns (hid M [(b, Blk.svs (l.map sv))]) [] W := ⟨by simp, fun c ⟨_, hk⟩ => by (cases hk), fun c hc => Nat.lt_of_lt_of_le (hc.elim (own.lt c) (fun x => own.has_lt x)) f.size, fun c k hk _ => by (cases hk), fun c l hk => by (cases hk), own.gl.mono hle⟩
    change Calls P g #[enc x, enc y] W _
    rcases (hcmp x.1 x.2 y.1 y.2).out _ W #[enc x, enc y] own' ⟨rfl, fun i hi => by
      simp at hi
      rcases (by omega : i = 0 ∨ i = 1) with rfl | rfl
      · exact (hcellE x).2.mono hle
      · exact (hcellE y).2.mono hle⟩ with ⟨_, hc⟩ | ⟨v, w', hrun, _⟩
    · exact hc.mono fun e w' ⟨v, r, h', he, ⟨hr, hh⟩, hv, _, frm, _⟩ => by
        subst hr hh
        cases hv
        exact ⟨he, grow_of_frm ⟨frm.size, fun c hc _ => frm.keep c hc (fun ⟨_, hk⟩ => by cases hk), frm.sizes, frm.os, frm.tape, frm.output, frm.drn⟩⟩
    · rw [eg] at hrun
      cases hrun
  have hOA : SWO (ltOf fun x y : {x : β // x ∈ l} => cf x.1 y.1) := ⟨fun x => hO.irrefl x.1, fun x y z => hO.trans x.1 y.1 z.1, fun x y z => hO.ntrans x.1 y.1 z.1⟩
  have hfin := Any.slices_SortFunc_total L enc h1 (fun x y => cf x.1 y.1) hOA g #[] b 0 cap l.attach.toArray w eg hC hold (own.has_lt ⟨_, hm⟩) (by simpa using hl) (fun x y h1 h2 => Subtype.ext (hT x.1 y.1 h1 h2))
  have e0 : l.attach.toArray.size = l.length := by simp
  rw [e0] at hfin
  rw [hvs]
  refine hfin.mono fun e w' ⟨he, n, os, hw'⟩ => ?_
  have hw2 : w' = sortWorld enc w b 0 n (l.attach.mergeSort fun x y => !(ltOf fun x y : {x : β // x ∈ l} => cf x.1 y.1) y x).toArray os := hw'
  clear hw' hfin
  have hsm : (l.attach.mergeSort fun x y => !(ltOf fun x y : {x : β // x ∈ l} => cf x.1 y.1) y x).map Subtype.val = l.mergeSort fun x y => !(ltOf cf) y x := by
    have h5 := List.map_mergeSort (r := fun x y => !(ltOf fun x y : {x : β // x ∈ l} => cf x.1 y.1) y x) (s := fun x y => !(ltOf cf) y x) (f := Subtype.val) (l := l.attach) (fun a _ b _ => rfl)
    rw [List.attach_map_subtype_val] at h5
    exact h5
  have hsl : (l.attach.mergeSort fun x y => !(ltOf fun x y : {x : β // x ∈ l} => cf x.1 y.1) y x).length = l.length := by rw [List.length_mergeSort, hatl]
  rw [← hsm, List.map_map]
  generalize (l.attach.mergeSort fun x y => !(ltOf fun x y : {x : β // x ∈ l} => cf x.1 y.1) y x) = s at hw2 hsl ⊢
  have hslen : (s.map (sv ∘ Subtype.val)).length = s.length := List.length_map _
  have own1 : Owns M (Heap.upd [(b, Blk.svs (l.map sv))] b (.svs (s.map (sv ∘ Subtype.val)))) (mapBlock (Go.Sort.ahead w n) b (putCells enc 0 s.toArray)) := by
    refine (own.frm (frm_ahead w n)).mapB hm rfl rfl (putCells_size _ _ _) (by simp only [Blk.len]; rw [hslen, hflen, hsl]) fun c e hb hle i hi => ?_
    simp only [Blk.len] at hle hi
    rw [hflen] at hle hi
    have hi2 : i < s.length := by rw [hsl]; exact hi
    rw [putCells_getD _ _ _ _ _ (by omega), if_pos ⟨Nat.zero_le _, by simp; omega⟩]
    simp only [Blk.get, Nat.sub_zero]
    have hg : (s.map (sv ∘ Subtype.val)).getD i .any = sv (s.toArray[i]!).1 := by
      rw [getElem!_pos s.toArray i (by simpa using hi2), List.getD_eq_getElem?_getD, List.getElem?_map, List.getElem?_eq_getElem hi2]
      simp
    rw [hg]
    exact (hcellE _).2.mono (env_le (frm_ahead w n) (fun _ x _ => x.elim) (fun _ _ x => x))
  have hu : Heap.upd [(b, Blk.svs (l.map sv))] b (.svs (s.map (sv ∘ Subtype.val))) = [(b, .svs (s.map (sv ∘ Subtype.val)))] := by simp [Heap.upd]
  rw [hu] at own1
  have own2 : Owns M [(b, .svs (s.map (sv ∘ Subtype.val)))] w' := by
    rw [hw2]
    exact own1.frm (frm_grow _ os)
  have f := hW n s.toArray os
  rw [← hw2] at f
  refine ⟨.tuple #[], .tup [], _, he, ⟨rfl, rfl⟩, .tup #[] [] rfl (fun j hj => absurd hj (by simp)), own2, f.weak (fun c hc => by rw [show c = b from hc]; exact ⟨_, hm⟩), ?_⟩
  rintro c ⟨k, hk⟩ _
  rcases List.mem_cons.1 hk with hk | hk
  · cases hk; exact ⟨_, hm⟩
  · cases hk
end
end Go.Ab
