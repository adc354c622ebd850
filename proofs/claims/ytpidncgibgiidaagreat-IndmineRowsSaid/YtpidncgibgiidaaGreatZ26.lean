/- The abstract layer, part Z26: the library's sort of values that are only known by what they read as, of which some may read alike. -/
import Derived.Test.YtpidncgibgiidaaGreatZ16
set_option linter.unusedVariables false
set_option linter.unusedSectionVars false
set_option linter.unusedSimpArgs false
namespace Go.Ab
open Go.RowKit Go.Sort Go.Proofs Go.Shelf
section
variable {P : Program} {M : Nat → Prop} {h : Heap} {w : World}
theorem Call.sortP [Gl] {β : Type} {ρ : Ren} (L : SlLaysF.n6 P ρ) (hbody : Body P (ρ.f 6)) (sv : β → SV) (hone : ∀ x E v, Rep E v (sv x) → v.oneCell' = true)
    (cf : β → β → Int) (hO : SWO (ltOf cf)) (g : Nat) (eg : ∀ args w, (callFunc g args).run P w = .ok (.enter g args) w)
    (b : Nat) (l : List β) (hne : l ≠ []) (hl : l.length < 4611686018427387904) (hcmp : ∀ x ∈ l, ∀ y ∈ l, PCall P g [sv x, sv y] (.sc (.int .i64 (cf x y)))) :
    Call P (ρ.f 6) [.os b 0 l.length 1, .fn (.func g) [] []] [(b, .svs (l.map sv))]
      (fun r h' => r = .tup [] ∧ ∃ s : List β, s.Perm l ∧ s.Pairwise (fun x y => ltOf cf y x = false) ∧ h' = [(b, .svs (s.map sv))]) := by
  refine ⟨fun M w vs own hr => .inl ⟨hbody, ?_⟩⟩
  have hm : (b, Blk.svs (l.map sv)) ∈ ([(b, Blk.svs (l.map sv))] : Heap) := List.mem_cons_self
  have hflen : (l.map sv).length = l.length := List.length_map _
  obtain ⟨hs1, hs2⟩ := hr
  have r0 := hs2 0 (by simp)
  have r1 := hs2 1 (by simp)
  simp only [List.getD_cons_zero, List.getD_cons_succ] at r0 r1
  obtain ⟨cap, hv0⟩ : ∃ cap, vs.getD 0 undef = .slice (some ⟨b, 0, none⟩) l.length cap := by
    generalize vs.getD 0 undef = v0 at r0
    cases r0 with
    | os _ _ _ cap _ m hc hm hb => exact ⟨cap, rfl⟩
  have hv1 : vs.getD 1 undef = .func (.func g) #[] #[] := by
    generalize vs.getD 1 undef = v1 at r1
    cases r1 with
    | fn _ c1 c2 _ _ l1 l2 _ _ =>
      have e1 : c1 = #[] := Array.eq_empty_of_size_eq_zero l1
      have e2 : c2 = #[] := Array.eq_empty_of_size_eq_zero l2
      rw [e1, e2]
  have hvs : vs = #[.slice (some ⟨b, 0, none⟩) l.length cap, .func (.func g) #[] #[]] := by
    apply Array.ext
    · simpa using hs1
    · intro i h2 h3
      simp at h3
      rcases (by omega : i = 0 ∨ i = 1) with rfl | rfl
      · have : vs[0] = vs.getD 0 undef := by simp [h2]
        rw [this, hv0]; rfl
      · have : vs[1] = vs.getD 1 undef := by simp [h2]
        rw [this, hv1]; rfl
  have hpos : 0 < l.length := List.length_pos_iff.2 hne
  haveI : Inhabited (Fin l.length) := ⟨⟨0, hpos⟩⟩
  obtain ⟨enc, henc⟩ : ∃ enc : Fin l.length → Value, ∀ x, enc x = (w.cell? ⟨b, 0 + x.1, none⟩).getD undef := ⟨_, fun _ => rfl⟩
  have hcellE : ∀ x : Fin l.length, w.cell? ⟨b, 0 + x.1, none⟩ = some (enc x) ∧ Rep (envOf (hid M [(b, Blk.svs (l.map sv))]) w) (enc x) (sv l[x.1]) := fun x => by
    obtain ⟨v, hv, hrv⟩ := own.cell hm (i := 0 + x.1) (by simp only [Blk.len]; rw [hflen]; have := x.2; omega)
    simp only [Blk.get] at hrv
    have hg : (l.map sv).getD (0 + x.1) .any = sv l[x.1] := by
      rw [Nat.zero_add, List.getD_eq_getElem?_getD, List.getElem?_map, List.getElem?_eq_getElem x.2]
      rfl
    rw [hg] at hrv
    have e : enc x = v := by rw [henc, hv]; rfl
    rw [e]
    exact ⟨hv, hrv⟩
  have h1 : OneCell enc := fun x => hone _ _ _ (hcellE x).2
  have hfr : ∀ j, w.frozen? ⟨b, 0 + j, none⟩ = false := fun j => by
    obtain ⟨c, e, hb, _, _⟩ := own.ok b _ hm rfl
    simp [World.frozen?, hb]
  have hatl : (List.finRange l.length).length = l.length := List.length_finRange
  have hold : Holds enc w b 0 (List.finRange l.length).toArray := fun j hj => by
    have hj2 : j < (List.finRange l.length).length := by simpa using hj
    have hj3 : j < l.length := by omega
    have he : ((List.finRange l.length).toArray[j]!).1 = j := by
      rw [getElem!_pos (List.finRange l.length).toArray j hj]
      simp
    refine ⟨?_, hfr j⟩
    have h3 := (hcellE ((List.finRange l.length).toArray[j]!)).1
    rw [he] at h3
    exact h3
  have hW : ∀ m (dk : Array (Fin l.length)) os, Frm (fun c => c = b) w (sortWorld enc w b 0 m dk os) := fun m dk os => by
    have f1 := (frm_ahead w m).weak (D' := fun c => c = b) (fun _ x => x.elim)
    have f2 : Frm (fun c => c = b) (Go.Sort.ahead w m) (putRow enc (Go.Sort.ahead w m) b 0 dk) := frm_map (putCells_size _ _ _)
    have f3 := frm_grow (putRow enc (Go.Sort.ahead w m) b 0 dk) os
    exact f1.trans (f2.trans f3 (fun _ _ x => x.elim)) (fun _ _ x => x)
  have hC : CmpLays1 P g #[] enc (fun x y => cf l[x.1] l[y.1]) b 0 (List.finRange l.length).toArray.size w := fun m os dk hds x y => by
    have f := hW m dk os
    generalize sortWorld enc w b 0 m dk os = W at f ⊢
    have hle : (envOf (hid M [(b, Blk.svs (l.map sv))]) w).le (envOf (hid (hid M [(b, Blk.svs (l.map sv))]) []) W) :=
      env_le f (fun c hc _ => .inr (by rw [show c = b from hc]; exact ⟨_, hm⟩)) (fun c _ x => x.elim id (fun ⟨_, hk⟩ => by cases hk))
    have own' : Owns (hid M [(b, Blk.svs (l.map sv))]) [] W := ⟨by simp, fun c ⟨_, hk⟩ => by (cases hk), fun c hc => Nat.lt_of_lt_of_le (hc.elim (own.lt c) (fun x => own.has_lt x)) f.size, fun c k hk _ => by (cases hk), fun c l hk => by (cases hk), own.gl.mono hle⟩
    change Calls P g #[enc x, enc y] W _
    rcases (hcmp l[x.1] (List.getElem_mem _) l[y.1] (List.getElem_mem _)).out _ W #[enc x, enc y] own' ⟨rfl, fun i hi => by
      simp at hi
      rcases (by omega : i = 0 ∨ i = 1) with rfl | rfl
      · exact (hcellE x).2.mono hle
      · exact (hcellE y).2.mono hle⟩ with ⟨_, hc⟩ | ⟨v, w', hrun, _⟩
    · exact hc.mono fun e w' ⟨v, r, h', he, ⟨hr, hh⟩, hv, _, frm, _⟩ => by
        subst hr hh
        cases hv
        exact ⟨he, grow_of_frm ⟨frm.size, fun c hc _ => frm.keep c hc (fun ⟨_, hk⟩ => by cases hk), frm.sizes, frm.os, frm.tape, frm.output, frm.drn⟩⟩
    · rw [eg] at hrun
      cases hrun
  have hOA : SWO (ltOf fun x y : Fin l.length => cf l[x.1] l[y.1]) := ⟨fun x => hO.irrefl l[x.1], fun x y z => hO.trans l[x.1] l[y.1] l[z.1], fun x y z => hO.ntrans l[x.1] l[y.1] l[z.1]⟩
  have hfin := Any.slices_SortFunc L enc h1 (fun x y => cf l[x.1] l[y.1]) hOA g #[] b 0 cap (List.finRange l.length).toArray w eg hC hold (own.has_lt ⟨_, hm⟩) (by simpa using hl)
  have e0 : (List.finRange l.length).toArray.size = l.length := by simp
  rw [e0] at hfin
  rw [hvs]
  refine hfin.mono fun e w' ⟨he, d', n, os, hp, hsd, hw'⟩ => ?_
  have hw2 : w' = sortWorld enc w b 0 n d' os := hw'
  clear hw' hfin
  have hsz : d'.size = l.length := by rw [hp.1]; exact e0
  obtain ⟨s, hs⟩ : ∃ s : List (Fin l.length), d' = s.toArray := ⟨d'.toList, by simp⟩
  subst hs
  have hsl : s.length = l.length := by simpa using hsz
  have hperm : s.Perm (List.finRange l.length) := by
    have h6 := hp.2.2
    have ex : ∀ (a : Array (Fin l.length)) (n : Nat), a.size = n → a.extract 0 n = a := fun a n h => by
      subst h
      exact Array.extract_size
    rw [ex s.toArray _ hsz, ex (List.finRange l.length).toArray _ e0] at h6
    simpa using h6
  have hfl : (List.finRange l.length).map (fun x : Fin l.length => l[x.1]) = l := by
    refine List.ext_getElem (by simp) fun i a1 a2 => ?_
    simp
  have hpw : (s.map fun x : Fin l.length => l[x.1]).Pairwise (fun x y => ltOf cf y x = false) := by
    rw [List.pairwise_map, List.pairwise_iff_getElem]
    intro i j hi hj hij
    have h8 := hsd i j (Nat.zero_le _) hij (by omega)
    rw [getElem!_pos s.toArray i (by simpa using hi), getElem!_pos s.toArray j (by simpa using hj)] at h8
    simpa [ltOf] using h8
  have hpl : (s.map fun x : Fin l.length => l[x.1]).Perm l := by
    have h9 := hperm.map (fun x : Fin l.length => l[x.1])
    rwa [hfl] at h9
  have hcs : s.map (fun x : Fin l.length => sv l[x.1]) = (s.map fun x : Fin l.length => l[x.1]).map sv := by rw [List.map_map]; rfl
  obtain ⟨sl, hsle⟩ : ∃ sl, sl = s.map fun x : Fin l.length => l[x.1] := ⟨_, rfl⟩
  rw [← hsle] at hpw hpl hcs
  clear hsd hp hperm hsle
  have hslen : (s.map fun x : Fin l.length => sv l[x.1]).length = s.length := List.length_map _
  have own1 : Owns M (Heap.upd [(b, Blk.svs (l.map sv))] b (.svs (s.map fun x : Fin l.length => sv l[x.1]))) (mapBlock (Go.Sort.ahead w n) b (putCells enc 0 s.toArray)) := by
    refine (own.frm (frm_ahead w n)).mapB hm rfl rfl (putCells_size _ _ _) (by simp only [Blk.len]; rw [hslen, hflen, hsl]) fun c e hb hle i hi => ?_
    simp only [Blk.len] at hle hi
    rw [hflen] at hle hi
    have hi2 : i < s.length := by rw [hsl]; exact hi
    rw [putCells_getD _ _ _ _ _ (by omega), if_pos ⟨Nat.zero_le _, by simp; omega⟩]
    simp only [Blk.get, Nat.sub_zero]
    have hg0 : (s.map fun x : Fin l.length => sv l[x.1]).getD i .any = (fun x : Fin l.length => sv l[x.1]) (s[i]) := by
      rw [List.getD_eq_getElem?_getD, List.getElem?_map, List.getElem?_eq_getElem hi2]
      rfl
    have hgi : s.toArray[i]! = s[i] := by rw [getElem!_pos s.toArray i (by simpa using hi2)]; simp
    have hg : (s.map fun x : Fin l.length => sv l[x.1]).getD i .any = (fun x : Fin l.length => sv l[x.1]) (s.toArray[i]!) := by rw [hg0, hgi]
    rw [hg]
    exact (hcellE _).2.mono (env_le (frm_ahead w n) (fun _ x _ => x.elim) (fun _ _ x => x))
  have hu : Heap.upd [(b, Blk.svs (l.map sv))] b (.svs (s.map fun x : Fin l.length => sv l[x.1])) = [(b, .svs (s.map fun x : Fin l.length => sv l[x.1]))] := by simp [Heap.upd]
  rw [hu] at own1
  have own2 : Owns M [(b, .svs (s.map fun x : Fin l.length => sv l[x.1]))] w' := by
    rw [hw2]
    exact own1.frm (frm_grow _ os)
  have f := hW n s.toArray os
  rw [← hw2] at f
  refine ⟨.tuple #[], .tup [], _, he, ⟨rfl, sl, hpl, hpw, by rw [hcs]⟩, .tup #[] [] rfl (fun j hj => absurd hj (by simp)), own2, f.weak (fun c hc => by rw [show c = b from hc]; exact ⟨_, hm⟩), ?_⟩
  rintro c ⟨k, hk⟩ _
  rcases List.mem_cons.1 hk with hk | hk
  · cases hk; exact ⟨_, hm⟩
  · cases hk
end
end Go.Ab
