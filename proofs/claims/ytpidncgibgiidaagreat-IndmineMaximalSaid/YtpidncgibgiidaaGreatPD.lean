import Derived.Test.YtpidncgibgiidaaGreatPC
set_option linter.unusedSimpArgs false
set_option linter.unusedVariables false
namespace Go.Ab.A15
open Go Go.Ab Go.Ab.A34 Go.Ab.A01
theorem er_get (l : List Int) (p i : Nat) : (l.eraseIdx p).getD i 0 = if i < p then l.getD i 0 else l.getD (i + 1) 0 := by
  rw [List.getD_eq_getElem?_getD, List.getElem?_eraseIdx]
  split
  · rw [List.getD_eq_getElem?_getD]
  · rw [List.getD_eq_getElem?_getD]
theorem er_len {l : List Int} {p : Nat} (h : p < l.length) : (l.eraseIdx p).length = l.length - 1 := by
  rw [List.length_eraseIdx, if_pos h]
theorem zip_er : ∀ (l r : List Int) (p : Nat) (q : Int × Int), q ∈ (l.eraseIdx p).zip (r.eraseIdx p) → q ∈ l.zip r
  | [], r, p, q, h => by simp at h
  | a :: l, [], p, q, h => by simp at h
  | a :: l, b :: r, 0, q, h => by
    simp only [List.eraseIdx_zero, List.tail_cons] at h
    exact List.mem_cons_of_mem _ h
  | a :: l, b :: r, p + 1, q, h => by
    simp only [List.eraseIdx_cons_succ, List.zip_cons_cons] at h ⊢
    rcases List.mem_cons.1 h with h | h
    · exact List.mem_cons.2 (.inl h)
    · exact List.mem_cons.2 (.inr (zip_er l r p q h))
theorem mem_wo {db : List Tb} (h : Sm db) {d : Dp} (hd : d ∈ allP db 6 0) {p : Nat} (hp : p < d.l.length) (h1 : 1 < d.l.length) : woD d p ∈ allP db 6 0 := by
  rw [mem_all h] at hd ⊢
  obtain ⟨hc, hh⟩ := hd
  obtain ⟨f, l, t, r⟩ := d
  unfold woD
  simp only at hp h1 ⊢
  rw [woL_erase, woL_erase]
  obtain ⟨a1, a2, a3, a4, a5⟩ := canD_iff.1 hc
  obtain ⟨hv, hH⟩ := hld_iff.1 hh
  have F := (vE_fit h.chk).1 hv
  have el := er_len hp
  have er := er_len (l := r) (p := p) (by omega)
  refine ⟨canD_iff.2 ⟨fun e => ?_, by omega, a3.sublist (List.eraseIdx_sublist l p), a4.sublist (List.eraseIdx_sublist r p), fun e q hq => a5 e q (zip_er l r p q hq)⟩, hld_iff.2 ⟨(vE_fit h.chk).2 ⟨F.f, F.t, by show (l.eraseIdx p).length = (r.eraseIdx p).length; omega, fun x hx => F.l x (List.mem_of_mem_eraseIdx hx), fun x hx => F.r x (List.mem_of_mem_eraseIdx hx), F.nl.sublist (List.eraseIdx_sublist l p), F.nr.sublist (List.eraseIdx_sublist r p)⟩, fun x hx => ?_⟩⟩
  · rw [e] at el
    simp at el
    omega
  · obtain ⟨y, hy, ha⟩ := hH x hx
    refine ⟨y, hy, fun i hi => ?_⟩
    rw [er_get, er_get]
    simp only at hi
    by_cases h2 : i < p
    · rw [if_pos h2, if_pos h2]
      exact ha i (by simp only; omega)
    · rw [if_neg h2, if_neg h2]
      exact ha (i + 1) (by simp only; omega)
theorem nfl {α β : Type} (f : α → List β) : ∀ (l : List α), (∀ x ∈ l, (f x).Nodup) → l.Pairwise (fun a b => ∀ y, y ∈ f a → ¬ y ∈ f b) → (l.flatMap f).Nodup
  | [], _, _ => by simp
  | a :: l, h, hp => by
    rw [List.flatMap_cons, List.nodup_append]
    obtain ⟨h1, h2⟩ := List.pairwise_cons.1 hp
    refine ⟨h a List.mem_cons_self, nfl f l (fun x hx => h x (List.mem_cons_of_mem _ hx)) h2, fun x hx y hy e => ?_⟩
    obtain ⟨b, hb, hyb⟩ := List.mem_flatMap.1 hy
    exact h1 b hb x hx (e ▸ hyb)
theorem pnm {db : List Tb} {ar i k : Nat} {d : Dp} (h : d ∈ pairP db ar i k) : d.f = (db.getD i t0).name ∧ d.t = (db.getD k t0).name := by
  unfold pairP at h
  rw [(srtD_perm _).mem_iff, List.mem_map] at h
  obtain ⟨p, _, rfl⟩ := h
  exact ⟨rfl, rfl⟩
theorem pnd (db : List Tb) (ar i k : Nat) : (pairP db ar i k).Nodup := by
  unfold pairP
  rw [(srtD_perm _).nodup_iff]
  refine (mk_pw _ _ (nodup_exS (qB_pq _ _ _) ar [] [] rfl)).imp fun {a b} hab e => hab ?_
  have := cmpD_neg a b
  subst e
  omega
theorem all_nd {db : List Tb} (h : Sm db) (ar : Nat) : (allP db ar 0).Nodup := by
  have V := chkS_ok h.chk
  have inj : ∀ i k, i < db.length → k < db.length → (db.getD i t0).name = (db.getD k t0).name → i = k := fun i k hi hk e => by
    have e1 := (idx_at V.n hi).2
    have e2 := (idx_at V.n hk).2
    rw [e, e2] at e1
    exact e1.symm
  unfold allP
  refine nfl _ _ (fun i hi => ?_) ((nodup_rg 0 db.length).imp_of_mem fun {i j} hi hj hij y hy hy2 => ?_)
  · unfold rowP
    refine nfl _ _ (fun k hk => pnd db ar i k) ((nodup_rg 0 db.length).imp_of_mem fun {k j} hk hj hkj y hy hy2 => ?_)
    exact hkj (inj k j (mem_rg.1 hk).2 (mem_rg.1 hj).2 (by rw [← (pnm hy).2, (pnm hy2).2]))
  · unfold rowP at hy hy2
    obtain ⟨k, _, hy⟩ := List.mem_flatMap.1 hy
    obtain ⟨k2, _, hy2⟩ := List.mem_flatMap.1 hy2
    exact hij (inj i j (mem_rg.1 hi).2 (mem_rg.1 hj).2 (by rw [← (pnm hy).1, (pnm hy2).1]))
end Go.Ab.A15
