/- Rows beside the first one: in order. -/
import Derived.Test.YtmcmphmhjikgkaaGreatDoorC7
set_option linter.unusedSimpArgs false
set_option linter.unusedVariables false
set_option linter.unusedSectionVars false
namespace Go.Ab.A20
open Go Go.Ab
/-- The tableau of two rows that agree in a set: one row where they are equal. -/
def tabL (n z : Nat) : List Nat := if z = 2 ^ n - 1 then [2 ^ n - 1] else [2 ^ n - 1, z]
theorem full_at {n j : Nat} (h : j < n) : gR n (2 ^ n - 1) j = j := by
  unfold gR
  rw [Nat.testBit_two_pow_sub_one, decide_eq_true h, if_pos rfl]
theorem eqR_dec {n s t : Nat} (hs : s < 2 ^ n) (ht : t < 2 ^ n) : eqR n s t = decide (s = t) := by
  cases h : decide (s = t) with
  | true =>
    have e : s = t := of_decide_eq_true h
    subst e
    unfold eqR
    rw [List.all_eq_true]
    intro j _
    exact beq_self_eq_true _
  | false =>
    have e : ¬ s = t := of_decide_eq_false h
    unfold eqR
    cases h2 : (List.range n).all (fun j => gR n s j == gR n t j) with
    | false => rfl
    | true =>
      rw [List.all_eq_true] at h2
      refine absurd (Nat.eq_of_testBit_eq fun i => ?_) e
      by_cases hi : i < n
      · exact (gR_eq hi).1 (beq_iff_eq.1 (h2 i (List.mem_range.2 hi)))
      · have hp : 2 ^ n ≤ 2 ^ i := Nat.pow_le_pow_right (by omega) (by omega)
        rw [Nat.testBit_lt_two_pow (by omega), Nat.testBit_lt_two_pow (by omega)]
theorem gR_ge (n s j : Nat) : j ≤ gR n s j := by unfold gR; split <;> omega
theorem lex_ge (n s : Nat) : ∀ k, k ≤ n → ¬ lexC n s (2 ^ n - 1) k < 0
  | 0, _ => fun h => Int.lt_irrefl 0 h
  | k + 1, h => by
    rw [lexC]
    split
    · exact lex_ge n s k (by omega)
    · rw [full_at (by omega)]
      have := gR_ge n s (n - (k + 1))
      unfold cmpN
      rw [if_neg (by omega)]
      split <;> omega
theorem lex_le (n s : Nat) : ∀ k, k ≤ n → lexC n (2 ^ n - 1) s k ≤ 0 ∧ (lexC n (2 ^ n - 1) s k = 0 → ∀ j, n - k ≤ j → j < n → gR n (2 ^ n - 1) j = gR n s j)
  | 0, _ => ⟨Int.le_refl 0, fun _ j h1 h2 => by omega⟩
  | k + 1, h => by
    obtain ⟨i1, i2⟩ := lex_le n s k (by omega)
    have g1 := full_at (n := n) (j := n - (k + 1)) (by omega)
    have g2 := gR_ge n s (n - (k + 1))
    rw [lexC]
    split
    · rename_i h0
      refine ⟨i1, fun hz j h1 h2 => ?_⟩
      by_cases hj : j = n - (k + 1)
      · subst hj
        rw [g1] at h0 ⊢
        unfold cmpN at h0
        split at h0
        · cases h0
        · split at h0
          · cases h0
          · omega
      · exact i2 hz j (by omega) h2
    · rename_i h0
      rw [g1] at h0 ⊢
      refine ⟨?_, fun hz => absurd hz h0⟩
      unfold cmpN
      split
      · omega
      · rw [if_neg (by omega)]; omega
theorem lex_lt {n s : Nat} (hs : s < 2 ^ n) (h : ¬ s = 2 ^ n - 1) : lexC n (2 ^ n - 1) s n < 0 := by
  obtain ⟨h1, h2⟩ := lex_le n s n (Nat.le_refl n)
  rcases Int.lt_or_eq_of_le h1 with h3 | h3
  · exact h3
  · have h4 := h2 h3
    have hp := Nat.two_pow_pos n
    have : eqR n s (2 ^ n - 1) = true := by
      unfold eqR
      rw [List.all_eq_true]
      intro j hj
      rw [h4 j (by omega) (List.mem_range.1 hj)]
      exact beq_self_eq_true _
    rw [eqR_dec hs (by omega)] at this
    exact absurd (of_decide_eq_true this) h
/-- Rows written by a function of the attribute. -/
def rowG (n : Nat) (F : Nat → Nat) : List SV := (List.range n).map fun j => I64 (F j : Nat)
theorem rowG_len (n : Nat) (F : Nat → Nat) : (rowG n F).length = n := by unfold rowG; simp
theorem rowL_G (n s : Nat) : rowL n s = rowG n (gR n s) := rfl
theorem rowG_at {n j : Nat} {F : Nat → Nat} (h : j < n) : (rowG n F).getD j .any = I64 (F j : Nat) := by
  unfold rowG
  simp [List.getD_eq_getElem?_getD, h]
theorem rowG_get {n j : Nat} {F : Nat → Nat} (h : j < (rowG n F).length) : (rowG n F)[j] = I64 (F j : Nat) := by simp [rowG]
theorem rowG_set {n k : Nat} {F : Nat → Nat} (v : Nat) : (rowG n F).set k (I64 (v : Nat)) = rowG n (fun j => if j = k then v else F j) := by
  refine List.ext_getElem (by rw [List.length_set, rowG_len, rowG_len]) fun j h1 h2 => ?_
  rw [List.getElem_set, rowG_get]
  by_cases h : k = j
  · subst h
    rw [if_pos rfl, rowG_get, if_pos rfl]
  · rw [if_neg h, rowG_get, if_neg (Ne.symm h)]
theorem rowG_congr {n : Nat} {F G : Nat → Nat} (h : ∀ j, j < n → F j = G j) : rowG n F = rowG n G := by
  unfold rowG
  refine List.map_congr_left fun j hj => ?_
  rw [h j (List.mem_range.1 hj)]
theorem gR_or {n s i j : Nat} : gR n (s ||| 2 ^ i) j = if j = i then i else gR n s j := by
  unfold gR
  rw [Nat.testBit_or, Nat.testBit_two_pow]
  by_cases h : j = i
  · subst h
    simp
  · rw [if_neg h]
    have : decide (i = j) = false := decide_eq_false (fun e => h e.symm)
    rw [this, Bool.or_false]
end Go.Ab.A20
namespace Go.Proofs.YtmcmphmhjikgkaaGreatDoor
open Go Go.Ab Go.Ab.A20
variable [Gl] [Bru]

theorem sorted_t (n z g : Nat) (hn : n ≤ 6) (hz : z < 2 ^ n) : Ab.Call Tryz.prog 32 [.agg [I64 n, .os g 0 2 1]] [(g, .svs [NR n (2 ^ n - 1), NR n z])] (fun r h' => r = TB n (tabL n z) ∧ h' = []) := by
  have hp := Nat.two_pow_pos n
  have e := eqR_dec (n := n) (s := z) (t := 2 ^ n - 1) hz (by omega)
  have hs := sort_k g 2 [NR n (2 ^ n - 1), NR n z] 2 (by omega) len_2 (ins_2 n (2 ^ n - 1) z g hn (lex_ge n z n (Nat.le_refl n)))
  unfold tabL
  split
  · rename_i h
    rw [decide_eq_true h] at e
    exact sorted_k n g 2 _ _ hs (comp_e n (2 ^ n - 1) z g hn e)
  · rename_i h
    rw [decide_eq_false h] at e
    exact sorted_k n g 2 _ _ hs (comp_2 n (2 ^ n - 1) z g hn e)
end Go.Proofs.YtmcmphmhjikgkaaGreatDoor
