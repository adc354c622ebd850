import Derived.Test.YtpidncgibgiidaaGreatPD
set_option linter.unusedSimpArgs false
set_option linter.unusedVariables false
namespace Go.Ab.A15
open Go Go.Ab Go.Ab.A34 Go.Ab.A01
def addW (C : List Dp) (d : Dp) : List Dp := if 0 < d.l.length ∧ ¬ d ∈ C then C ++ [d] else C
theorem addW_nd {C : List Dp} {d : Dp} (h : C.Nodup) : (addW C d).Nodup := by
  unfold addW
  split
  · rename_i h1
    rw [List.nodup_append]
    exact ⟨h, by simp, fun a ha b hb e => h1.2 (by rw [List.mem_singleton] at hb; rw [← hb, ← e]; exact ha)⟩
  · exact h
theorem addW_sub {C : List Dp} {d x : Dp} (h : x ∈ C) : x ∈ addW C d := by
  unfold addW
  split
  · exact List.mem_append_left _ h
  · exact h
theorem addW_mem {C : List Dp} {d : Dp} (h : 0 < d.l.length) : d ∈ addW C d := by
  unfold addW
  by_cases hd : d ∈ C
  · rw [if_neg (fun x => x.2 hd)]
    exact hd
  · rw [if_pos ⟨h, hd⟩]
    simp
theorem addW_or {C : List Dp} {d x : Dp} (h : x ∈ addW C d) : x ∈ C ∨ (x = d ∧ 0 < d.l.length) := by
  unfold addW at h
  split at h
  · rename_i h1
    rcases List.mem_append.1 h with h | h
    · exact .inl h
    · exact .inr ⟨List.mem_singleton.1 h, h1.1⟩
  · exact .inl h
theorem addW_get {C : List Dp} {d : Dp} {i : Nat} (h : i < C.length) : (addW C d).getD i d0 = C.getD i d0 ∧ C.length ≤ (addW C d).length := by
  unfold addW
  split
  · rw [List.getD_eq_getElem?_getD, List.getD_eq_getElem?_getD, List.getElem?_append_left h, List.length_append]
    exact ⟨rfl, by omega⟩
  · exact ⟨rfl, Nat.le_refl _⟩
structure Cls (A : List Dp) (C : List Dp) (i p : Nat) : Prop where
  nd : C.Nodup
  sub : ∀ x ∈ C, x ∈ A
  mx : ∀ x ∈ maxP A, x ∈ C
  done : ∀ j, j < i → j < C.length → ∀ q, q < (C.getD j d0).l.length → 1 < (C.getD j d0).l.length → woD (C.getD j d0) q ∈ C
  part : i < C.length → ∀ q, q < p → q < (C.getD i d0).l.length → 1 < (C.getD i d0).l.length → woD (C.getD i d0) q ∈ C
theorem max_nd {A : List Dp} (h : A.Nodup) : (maxP A).Nodup := h.sublist List.filter_sublist
theorem Cls.start {A : List Dp} (h : A.Nodup) : Cls A (maxP A) 0 0 where
  nd := max_nd h
  sub := fun x hx => (List.mem_filter.1 hx).1
  mx := fun x hx => hx
  done := fun j hj => by omega
  part := fun _ q hq => by omega
theorem Cls.step {A C : List Dp} {i p : Nat} (h : Cls A C i p) (hcl : ∀ d ∈ A, ∀ q, q < d.l.length → 1 < d.l.length → woD d q ∈ A) (hlr : ∀ d ∈ A, d.l.length = d.r.length) (hi : i < C.length) (hp : p < (C.getD i d0).l.length) : Cls A (addW C (woD (C.getD i d0) p)) i (p + 1) := by
  have hA : C.getD i d0 ∈ A := h.sub _ (getD_mem' d0 hi)
  have hlen : (woD (C.getD i d0) p).l.length = (C.getD i d0).l.length - 1 := by
    show (woL _ p).length = _
    rw [woL_erase, er_len hp]
  refine ⟨addW_nd h.nd, fun x hx => ?_, fun x hx => addW_sub (h.mx x hx), fun j hj hjl q hq h1 => ?_, fun hil q hq hql h1 => ?_⟩
  · rcases addW_or hx with hx | ⟨rfl, h0⟩
    · exact h.sub x hx
    · exact hcl _ hA p hp (by omega)
  · have hj2 : j < C.length := by omega
    rw [(addW_get hj2).1] at hq h1 ⊢
    exact addW_sub (h.done j hj hj2 q hq h1)
  · rw [(addW_get hi).1] at hql h1 ⊢
    by_cases e : q = p
    · subst e
      exact addW_mem (by omega)
    · exact addW_sub (h.part hi q (by omega) hql h1)
theorem Cls.next {A C : List Dp} {i p : Nat} (h : Cls A C i p) (hi : i < C.length) (hp : (C.getD i d0).l.length ≤ p) : Cls A C (i + 1) 0 := by
  refine ⟨h.nd, h.sub, h.mx, fun j hj hjl q hq h1 => ?_, fun _ q hq => by omega⟩
  by_cases e : j = i
  · subst e
    exact h.part hi q (by omega) hq h1
  · exact h.done j (by omega) hjl q hq h1
theorem Cls.all {A C : List Dp} {i : Nat} (h : Cls A C i 0) (hi : C.length ≤ i) (h6 : ∀ d ∈ A, 0 < d.l.length ∧ d.l.length ≤ 10) : ∀ (n : Nat) (d : Dp), d ∈ A → 10 - d.l.length ≤ n → d ∈ C := by
  intro n
  induction n with
  | zero =>
    intro d hd hn
    by_cases hm : (A.any fun b => shP d b) = true
    · obtain ⟨b, hb, hs⟩ := List.any_eq_true.1 hm
      unfold shP at hs
      simp only [Bool.and_eq_true, decide_eq_true_eq] at hs
      have := (h6 b hb).2
      omega
    · exact h.mx d (List.mem_filter.2 ⟨hd, by simp only [Bool.not_eq_true', Bool.eq_false_iff]; exact hm⟩)
  | succ n ih =>
    intro d hd hn
    by_cases hm : (A.any fun b => shP d b) = true
    · obtain ⟨b, hb, hs⟩ := List.any_eq_true.1 hm
      rw [← shQ_shP] at hs
      unfold shQ shN at hs
      simp only [Bool.and_eq_true, decide_eq_true_eq, List.any_eq_true, mem_rg] at hs
      obtain ⟨hl, q, ⟨_, hq⟩, rfl⟩ := hs
      have hbC := ih b hb (by omega)
      obtain ⟨j, hj, ej⟩ := List.mem_iff_getElem.1 hbC
      have gj : C.getD j d0 = b := by rw [← ej]; simp [List.getD_eq_getElem?_getD, hj]
      have h0 := (h6 _ hd).1
      have hdn := h.done j (by omega) hj q
      rw [gj] at hdn
      exact hdn hq (by omega)
    · exact h.mx d (List.mem_filter.2 ⟨hd, by simp only [Bool.not_eq_true', Bool.eq_false_iff]; exact hm⟩)
theorem Cls.perm {A C : List Dp} {i : Nat} (h : Cls A C i 0) (hi : C.length ≤ i) (hA : A.Nodup) (h6 : ∀ d ∈ A, 0 < d.l.length ∧ d.l.length ≤ 10) : C.Perm A :=
  (List.perm_ext_iff_of_nodup h.nd hA).2 fun x => ⟨h.sub x, fun hx => h.all hi h6 10 x hx (by omega)⟩
end Go.Ab.A15
