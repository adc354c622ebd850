/- The abstract layer, part Z21: the library's sort of structs whose fields are only known by what they read as. -/
import Derived.Test.YtpidncgibgiidaaGreatZ16
set_option linter.unusedVariables false
set_option linter.unusedSectionVars false
set_option linter.unusedSimpArgs false
namespace Go.Ab
open Go.RowKit Go.Sort Go.Proofs Go.Shelf
section
variable {P : Program} {M : Nat → Prop} {h : Heap} {w : World}
theorem flatS_len {β : Type} (sv : β → List SV) (k : Nat) (hk : ∀ x, (sv x).length = k) (l : List β) : (l.flatMap sv).length = l.length * k := by
  induction l with
  | nil => simp
  | cons a r ih => rw [List.flatMap_cons, List.length_append, ih, hk, List.length_cons, Nat.add_mul, Nat.one_mul, Nat.add_comm]
theorem flatS_get {β : Type} (sv : β → List SV) (k : Nat) (k0 : 0 < k) (hk : ∀ x, (sv x).length = k) : ∀ (l : List β) (t : Nat) (ht : t / k < l.length), (l.flatMap sv).getD t .any = (sv l[t / k]).getD (t % k) .any
  | [], t, ht => by simp at ht
  | a :: r, t, ht => by
    rw [List.flatMap_cons]
    by_cases h1 : t < k
    · have e1 : t / k = 0 := Nat.div_eq_of_lt h1
      have e2 : t % k = t := Nat.mod_eq_of_lt h1
      simp only [e1, e2, List.getElem_cons_zero]
      rw [List.getD_eq_getElem?_getD, List.getElem?_append_left (by rw [hk]; exact h1), ← List.getD_eq_getElem?_getD]
    · have e1 : t / k = (t - k) / k + 1 := by rw [← Nat.add_div_right _ k0, Nat.sub_add_cancel (by omega)]
      have e2 : t % k = (t - k) % k := by rw [Nat.mod_eq_sub_mod (by omega)]
      have h2 := flatS_get sv k k0 hk r (t - k) (by rw [e1, List.length_cons] at ht; omega)
      simp only [e1, e2, List.getElem_cons_succ]
      rw [List.getD_eq_getElem?_getD, List.getElem?_append_right (by rw [hk]; omega), hk, ← List.getD_eq_getElem?_getD, h2]
theorem div_lt_of {t n k : Nat} (k0 : 0 < k) (h : t < n * k) : t / k < n := (Nat.div_lt_iff_lt_mul k0).2 h
theorem Call.sortSK [Gl] {β : Type} [DecidableEq β] {ρ : Ren} (L : SlLaysF0.n6 P ρ) (hbody : Body P (ρ.f 6)) (k : Nat) (k0 : 0 < k) (aE : ∀ w, (isAgg (ρ.t 24)).run P w = .ok true w) (zE : ∀ w, (Go.sizeOf (ρ.t 24)).run P w = .ok k w)
    (sv : β → List SV) (hk : ∀ x, (sv x).length = k) (hone : ∀ x j E v, j < k → Rep E v ((sv x).getD j .any) → v.oneCell' = true)
    (cf : β → β → Int) (hO : SWO (ltOf cf)) (g : Nat) (eg : ∀ args w, (callFunc g args).run P w = .ok (.enter g args) w)
    (b : Nat) (l : List β) (hT : ∀ x ∈ l, ∀ y ∈ l, ltOf cf x y = false → ltOf cf y x = false → x = y) (hne : l ≠ []) (hnd : l.Nodup) (hl : l.length < 4611686018427387904) (hcmp : ∀ x ∈ l, ∀ y ∈ l, PCall P g [.agg (sv x), .agg (sv y)] (.sc (.int .i64 (cf x y)))) :
    Call P (ρ.f 6) [.os b 0 l.length k, .fn (.func g) [] []] [(b, .svs (l.flatMap sv))]
      (fun r h' => r = .tup [] ∧ h' = [(b, .svs ((l.mergeSort fun x y => !(ltOf cf) y x).flatMap sv))]) := by
  refine ⟨fun M w vs own hr => .inl ⟨hbody, ?_⟩⟩
  have hm : (b, Blk.svs (l.flatMap sv)) ∈ ([(b, Blk.svs (l.flatMap sv))] : Heap) := List.mem_cons_self
  have hflen := flatS_len sv k hk l
  obtain ⟨hs1, hs2⟩ := hr
  have r0 := hs2 0 (by simp)
  have r1 := hs2 1 (by simp)
  simp only [List.getD_cons_zero, List.getD_cons_succ] at r0 r1
  obtain ⟨cap, hv0⟩ : ∃ cap, vs.getD 0 undef = .slice (some ⟨b, 0, none⟩) l.length cap := by
    generalize vs.getD 0 undef = v0 at r0
    cases r0 with
    | os _ _ _ cap _ m hc hm hb => exact ⟨cap, rfl⟩
  have hv1 : vs.getD 1 undef = .func (.func g) #[] #[] := by
    generalize vs.getD 1 undef = v1 at r1
    cases r1 with
    | fn _ c1 c2 _ _ l1 l2 _ _ =>
      have e1 : c1 = #[] := Array.eq_empty_of_size_eq_zero l1
      have e2 : c2 = #[] := Array.eq_empty_of_size_eq_zero l2
      rw [e1, e2]
  have hvs : vs = #[.slice (some ⟨b, 0, none⟩) l.length cap, .func (.func g) #[] #[]] := by
    apply Array.ext
    · simpa using hs1
    · intro i h2 h3
      simp at h3
      rcases (by omega : i = 0 ∨ i = 1) with rfl | rfl
      · have : vs[0] = vs.getD 0 undef := by simp [h2]
        rw [this, hv0]; rfl
      · have : vs[1] = vs.getD 1 undef := by simp [h2]
        rw [this, hv1]; rfl
  obtain ⟨x0, hx0⟩ := List.exists_mem_of_ne_nil l hne
  haveI : Inhabited {x : β // x ∈ l} := ⟨⟨x0, hx0⟩⟩
  obtain ⟨enc, henc⟩ : ∃ enc : {x : β // x ∈ l} → List Value, ∀ x, enc x = (List.range k).map fun j => (w.cell? ⟨b, 0 + (l.idxOf x.1 * k + j), none⟩).getD undef := ⟨_, fun _ => rfl⟩
  have hek : ∀ x, (enc x).length = k := fun x => by rw [henc]; simp
  have hcellE : ∀ (x : {x : β // x ∈ l}) (j : Nat), j < k → w.cell? ⟨b, 0 + (l.idxOf x.1 * k + j), none⟩ = some ((enc x)[j]!) ∧ Rep (envOf (hid M [(b, Blk.svs (l.flatMap sv))]) w) ((enc x)[j]!) ((sv x.1).getD j .any) := fun x j hj => by
    have hi := List.idxOf_lt_length_of_mem x.2
    have hlt : l.idxOf x.1 * k + j < l.length * k := by
      have : (l.idxOf x.1 + 1) * k ≤ l.length * k := Nat.mul_le_mul_right _ hi
      rw [Nat.add_mul, Nat.one_mul] at this
      omega
    obtain ⟨v, hv, hrv⟩ := own.cell hm (i := 0 + (l.idxOf x.1 * k + j)) (by simp only [Blk.len]; rw [hflen]; omega)
    simp only [Blk.get] at hrv
    have hd : (l.idxOf x.1 * k + j) / k = l.idxOf x.1 := by rw [Nat.mul_comm, Nat.mul_add_div k0, Nat.div_eq_of_lt hj, Nat.add_zero]
    have hmm : (l.idxOf x.1 * k + j) % k = j := by rw [Nat.mul_comm, Nat.mul_add_mod, Nat.mod_eq_of_lt hj]
    rw [Nat.zero_add, flatS_get sv k k0 hk l _ (by rw [hd]; exact hi)] at hrv
    simp only [hd, hmm, List.getElem_idxOf hi] at hrv
    have e : (enc x)[j]! = v := by
      rw [henc, getElem!_pos _ j (by simpa using hj)]
      simp only [List.getElem_map, List.getElem_range]
      rw [hv]
      rfl
    rw [e]
    exact ⟨hv, hrv⟩
  have h1 : ∀ x, ∀ v ∈ enc x, v.oneCell' = true := fun x v hv => by
    obtain ⟨j, hj, e⟩ := List.getElem_of_mem hv
    rw [hek] at hj
    have := hone _ j _ _ hj (hcellE x j hj).2
    rw [getElem!_pos (enc x) j (by rw [hek]; exact hj), e] at this
    exact this
  have hfr : ∀ j, w.frozen? ⟨b, 0 + j, none⟩ = false := fun j => by
    obtain ⟨c, e, hb, _, _⟩ := own.ok b _ hm rfl
    simp [World.frozen?, hb]
  have hatl : l.attach.length = l.length := List.length_attach
  have hfsz : (flatK enc k l.attach.toArray).size = l.length * k := by simp
  have hold : HoldsK enc k w b 0 l.attach.toArray := fun j hj => by
    rw [hfsz] at hj
    have hjd := div_lt_of k0 hj
    have hjm : j % k < k := Nat.mod_lt _ k0
    have he : (l.attach.toArray[j / k]!).1 = l[j / k] := by
      rw [getElem!_pos l.attach.toArray (j / k) (by simpa using hjd)]
      simp
    refine ⟨?_, hfr j⟩
    have h3 := (hcellE (l.attach.toArray[j / k]!) (j % k) hjm).1
    rw [he, hnd.idxOf_getElem (j / k) hjd, Nat.mul_comm, Nat.div_add_mod] at h3
    rw [h3, id, get_flatK _ _ _ j (by simpa using hj)]
  have hW : ∀ m (dk : Array {x : β // x ∈ l}) os, Frm (fun c => c = b) w (sortWorldK enc k w b 0 m dk os) := fun m dk os => by
    have f1 := (frm_ahead w m).weak (D' := fun c => c = b) (fun _ x => x.elim)
    have f2 : Frm (fun c => c = b) (Go.Sort.ahead w m) (putRowK enc k (Go.Sort.ahead w m) b 0 dk) := frm_map (putCells_size _ _ _)
    have f3 := frm_grow (putRowK enc k (Go.Sort.ahead w m) b 0 dk) os
    exact f1.trans (f2.trans f3 (fun _ _ x => x.elim)) (fun _ _ x => x)
  have hC : CmpLays P g #[] enc k (fun x y => cf x.1 y.1) b 0 l.attach.toArray.size w := fun m os dk hds x y => by
    have f := hW m dk os
    generalize sortWorldK enc k w b 0 m dk os = W at f ⊢
    have hle : (envOf (hid M [(b, Blk.svs (l.flatMap sv))]) w).le (envOf (hid (hid M [(b, Blk.svs (l.flatMap sv))]) []) W) :=
      env_le f (fun c hc _ => .inr (by rw [show c = b from hc]; exact ⟨_, hm⟩)) (fun c _ x => x.elim id (fun ⟨_, hk⟩ => by cases hk))
    have own' : Owns (hid M [(b, Blk.svs (l.flatMap sv))]) [] W := ⟨by simp, fun c ⟨_, hk⟩ => by (cases hk), fun c hc => Nat.lt_of_lt_of_le (hc.elim (own.lt c) (fun x => own.has_lt x)) f.size, fun c k hk _ => by (cases hk), fun c l hk => by (cases hk), own.gl.mono hle⟩
    change Calls P g #[.agg (enc x).toArray, .agg (enc y).toArray] W _
    have hrep : ∀ z, Rep (envOf (hid (hid M [(b, Blk.svs (l.flatMap sv))]) []) W) (.agg (enc z).toArray) (.agg (sv z.1)) := fun z => by
      refine .agg _ _ (by simp [hek, hk]) (fun j hj => ?_)
      rw [hk] at hj
      have e1 : (enc z).toArray.getD j undef = (enc z)[j]! := by
        rw [getElem!_pos (enc z) j (by rw [hek]; exact hj)]
        simp [hek, hj]
      rw [e1]
      exact (hcellE z j hj).2.mono hle
    rcases (hcmp x.1 x.2 y.1 y.2).out _ W #[.agg (enc x).toArray, .agg (enc y).toArray] own' ⟨rfl, fun i hi => by
      simp at hi
      rcases (by omega : i = 0 ∨ i = 1) with rfl | rfl
      · exact hrep x
      · exact hrep y⟩ with ⟨_, hc⟩ | ⟨v, w', hrun, _⟩
    · exact hc.mono fun e w' ⟨v, r, h', he, ⟨hr, hh⟩, hv, _, frm, _⟩ => by
        subst hr hh
        cases hv
        exact ⟨he, grow_of_frm ⟨frm.size, fun c hc _ => frm.keep c hc (fun ⟨_, hk⟩ => by cases hk), frm.sizes, frm.os, frm.tape, frm.output, frm.drn⟩⟩
    · rw [eg] at hrun
      cases hrun
  have hOA : SWO (ltOf fun x y : {x : β // x ∈ l} => cf x.1 y.1) := ⟨fun x => hO.irrefl x.1, fun x y z => hO.trans x.1 y.1 z.1, fun x y z => hO.ntrans x.1 y.1 z.1⟩
  have hfin := AnyQ.slices_SortFunc_total L k aE zE enc hek h1 (fun x y => cf x.1 y.1) hOA g #[] b 0 cap l.attach.toArray w eg hC hold (own.has_lt ⟨_, hm⟩) (by simpa using hl) (fun x y h1 h2 => Subtype.ext (hT x.1 x.2 y.1 y.2 h1 h2))
  have e0 : l.attach.toArray.size = l.length := by simp
  rw [e0] at hfin
  rw [hvs]
  refine hfin.mono fun e w' ⟨he, n, os, hw'⟩ => ?_
  have hw2 : w' = sortWorldK enc k w b 0 n (l.attach.mergeSort fun x y => !(ltOf fun x y : {x : β // x ∈ l} => cf x.1 y.1) y x).toArray os := hw'
  clear hw' hfin
  have hsm : (l.attach.mergeSort fun x y => !(ltOf fun x y : {x : β // x ∈ l} => cf x.1 y.1) y x).map Subtype.val = l.mergeSort fun x y => !(ltOf cf) y x := by
    have h5 := List.map_mergeSort (r := fun x y => !(ltOf fun x y : {x : β // x ∈ l} => cf x.1 y.1) y x) (s := fun x y => !(ltOf cf) y x) (f := Subtype.val) (l := l.attach) (fun a _ b _ => rfl)
    rw [List.attach_map_subtype_val] at h5
    exact h5
  have hsl : (l.attach.mergeSort fun x y => !(ltOf fun x y : {x : β // x ∈ l} => cf x.1 y.1) y x).length = l.length := by rw [List.length_mergeSort, hatl]
  rw [← hsm]
  generalize (l.attach.mergeSort fun x y => !(ltOf fun x y : {x : β // x ∈ l} => cf x.1 y.1) y x) = s at hw2 hsl ⊢
  have hsv : (s.map Subtype.val).flatMap sv = s.flatMap (fun x => sv x.1) := by rw [List.flatMap_map]
  rw [hsv]
  have hslen := flatS_len (fun x : {x : β // x ∈ l} => sv x.1) k (fun x => hk x.1) s
  have hfs : (flatK enc k s.toArray).size = l.length * k := by simp [hsl]
  have own1 : Owns M (Heap.upd [(b, Blk.svs (l.flatMap sv))] b (.svs (s.flatMap fun x => sv x.1))) (mapBlock (Go.Sort.ahead w n) b (putCells id 0 (flatK enc k s.toArray))) := by
    refine (own.frm (frm_ahead w n)).mapB hm rfl rfl (putCells_size _ _ _) (by simp only [Blk.len]; rw [hslen, hflen, hsl]) fun c e hb hle i hi => ?_
    simp only [Blk.len] at hle hi
    rw [hflen] at hle hi
    have hid := div_lt_of k0 hi
    rw [putCells_getD _ _ _ _ _ (by omega), if_pos ⟨Nat.zero_le _, by rw [hfs]; omega⟩]
    simp only [Blk.get, Nat.sub_zero, id]
    rw [get_flatK _ _ _ i (by simpa [hsl] using hi), flatS_get (fun x : {x : β // x ∈ l} => sv x.1) k k0 (fun x => hk x.1) s i (by rw [hsl]; exact hid)]
    have e1 : s.toArray[i / k]! = s[i / k]'(by rw [hsl]; exact hid) := by
      rw [getElem!_pos s.toArray (i / k) (by simpa [hsl] using hid)]
      simp
    rw [e1]
    exact (hcellE _ _ (Nat.mod_lt _ k0)).2.mono (env_le (frm_ahead w n) (fun _ x _ => x.elim) (fun _ _ x => x))
  have hu : Heap.upd [(b, Blk.svs (l.flatMap sv))] b (.svs (s.flatMap fun x => sv x.1)) = [(b, .svs (s.flatMap fun x => sv x.1))] := by simp [Heap.upd]
  rw [hu] at own1
  have own2 : Owns M [(b, .svs (s.flatMap fun x => sv x.1))] w' := by
    rw [hw2]
    exact own1.frm (frm_grow _ os)
  have f := hW n s.toArray os
  rw [← hw2] at f
  refine ⟨.tuple #[], .tup [], _, he, ⟨rfl, rfl⟩, .tup #[] [] rfl (fun j hj => absurd hj (by simp)), own2, f.weak (fun c hc => by rw [show c = b from hc]; exact ⟨_, hm⟩), ?_⟩
  rintro c ⟨k, hk⟩ _
  rcases List.mem_cons.1 hk with hk | hk
  · cases hk; exact ⟨_, hm⟩
  · cases hk
end
end Go.Ab
