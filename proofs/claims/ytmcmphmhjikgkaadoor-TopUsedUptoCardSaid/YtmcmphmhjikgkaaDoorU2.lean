/- What a proof uses, in its order (plain). -/
import Derived.Test.YtmcmphmhjikgkaaDoorU1
set_option linter.unusedSectionVars false
set_option linter.unusedSimpArgs false
set_option linter.unusedVariables false
namespace Go.Ab.A20
open Go Go.Ab
/-- What a trace names enlarges: its members are met later for the first time. -/
theorem trF_new : ∀ (k : Nat) (l : List D2) (s : Nat), ∀ j ∈ trF k l s, ¬ Sb (l.getD j d0).2 s
  | 0, l, s, j, h => by cases h
  | k + 1, l, s, j, h => by
    unfold trF at h
    cases he : enlI l s with
    | none => rw [he] at h; cases h
    | some i =>
      rw [he] at h
      simp only at h
      obtain ⟨hi, h1, h2⟩ := enl_some he
      have e : l.getD i d0 = l[i] := by simp [List.getD_eq_getElem?_getD, hi]
      rcases List.mem_cons.1 h with rfl | h
      · rw [e]; exact h2
      · intro hs
        exact trF_new k l _ j h (sb_trans hs (sb_l _ _))
theorem trF_nodup : ∀ (k : Nat) (l : List D2) (s : Nat), (trF k l s).Nodup
  | 0, l, s => List.nodup_nil
  | k + 1, l, s => by
    unfold trF
    cases he : enlI l s with
    | none => exact List.nodup_nil
    | some i =>
      refine List.nodup_cons.2 ⟨fun h => ?_, trF_nodup k l _⟩
      exact trF_new k l _ i h (sb_r _ _)
theorem natI_nodup {l : List Nat} (h : l.Nodup) : (natI l).Nodup := List.Pairwise.map _ (fun a b hab e => hab (by omega)) h
theorem vals_stps (l : List D2) (A : Nat) (T : List Nat) : valsS (stps l A T).1 = natI T := by
  rcases List.eq_nil_or_concat T with rfl | ⟨R, x, e⟩
  · rfl
  · rw [List.concat_eq_append] at e
    have ih := vals_stps l A R
    rw [e, stps_snoc, natI_snoc]
    unfold stp
    simp only
    rw [valsS_snoc, valsS_snoc, valsS_snoc, ih]
    have e1 : givOf (1, [(x : Int)], (l.getD x d0).1, (l.getD x d0).2) = some (x : Int) := rfl
    have e3 : ∀ f a c, givOf (3, f, a, c) = none := fun f a c => if_neg (by simp)
    have e4 : ∀ f a c, givOf (4, f, a, c) = none := fun f a c => if_neg (by simp)
    simp only [e1, e3, e4, List.append_nil]
termination_by T.length
decreasing_by rw [e]; simp
/-- The given steps of a proof are those of the trace. -/
theorem vals_prv (l : List D2) (d : D2) : valsS (prvS l d) = natI (tr l d.1) := by
  unfold prvS
  have e2 : ∀ f a c, givOf (2, f, a, c) = none := fun f a c => if_neg (by simp)
  have e4 : ∀ f a c, givOf (4, f, a, c) = none := fun f a c => if_neg (by simp)
  rw [valsS_snoc, valsS_snoc, vals_stps, e2, e4, List.append_nil, List.append_nil]
theorem prv_len (l : List D2) (d : D2) : (prvS l d).length = 3 + 3 * (tr l d.1).length := by
  unfold prvS
  rw [List.length_append, List.length_append, stps_len]
  simp only [List.length_cons, List.length_nil]
  omega
/-- The dependencies that are used. -/
def useL (l : List D2) (X : List Int) : List D2 := X.map fun v => l.getD v.toNat d0
theorem use_ok {n : Nat} {l : List D2} {X : List Int} (hl : ∀ d ∈ l, d.1 < n ∧ d.2 < n) (hn : 0 < n) : ∀ d ∈ useL l X, d.1 < n ∧ d.2 < n := fun d hd => by
  obtain ⟨v, _, rfl⟩ := List.mem_map.1 hd
  rw [List.getD_eq_getElem?_getD]
  cases h : l[v.toNat]? with
  | none => exact ⟨hn, hn⟩
  | some d => exact hl d (List.mem_of_getElem? h)
theorem valE_ok {m : Nat} {F : List D2} (hm : m ≤ 6) (h64 : F.length ≤ 64) (h : ∀ d ∈ F, d.1 < 2 ^ m ∧ d.2 < 2 ^ m) : valE m F = 0 := by
  unfold valE
  rw [if_neg (by omega), if_neg (by omega), Int.toNat_natCast, if_pos ?_]
  rw [List.all_eq_true]
  intro d hd
  have := h d hd
  rw [decide_eq_true_eq]
  exact Nat.div_eq_of_lt (Nat.or_lt_two_pow this.1 this.2)
theorem nodup_lt : ∀ (n : Nat) (l : List Nat), l.Nodup → (∀ x ∈ l, x < n) → l.length ≤ n
  | 0, l, _, h => by
    cases l with
    | nil => exact Nat.le_refl _
    | cons a r => exact absurd (h a List.mem_cons_self) (by omega)
  | n + 1, l, hn, h => by
    by_cases hm : n ∈ l
    · have h1 := nodup_lt n (l.erase n) (hn.erase n) (fun x hx => by
        have h2 := (hn.mem_erase_iff).1 hx
        have := h x h2.2
        have := h2.1
        omega)
      rw [List.length_erase_of_mem hm] at h1
      omega
    · have := nodup_lt n l hn (fun x hx => by
        have h1 := h x hx
        rcases Nat.lt_or_ge x n with h2 | h2
        · exact h2
        · obtain rfl : x = n := by omega
          exact absurd hx hm)
      omega
theorem tr_few (l : List D2) (s : Nat) : (tr l s).length ≤ l.length := nodup_lt _ _ (trF_nodup _ l s) (tr_lt _ l s)
end Go.Ab.A20
