/- Plain law of values: numerals and texts in quotes are restored. -/
import Derived.Test.YtpkdknfdhhgbgaaDoorP2
import Derived.Test.YtpkdknfdhhgbgaaDoorZ7
set_option linter.unusedSimpArgs false
set_option linter.unusedVariables false
set_option linter.unusedSectionVars false
namespace Go.Ab.A01
open Go Go.Ab

/-- The number that digits spell. -/
def digF : Nat → List UInt8 → Option Nat
  | n, [] => some n
  | n, c :: r => if 48 ≤ c.toNat ∧ c.toNat ≤ 57 then digF (n * 10 + (c.toNat - 48)) r else .none
theorem digF_app : ∀ (a b : List UInt8) (n m : Nat), digF n a = some m → digF n (a ++ b) = digF m b
  | [], b, n, m, h => by cases h; rfl
  | c :: a, b, n, m, h => by
    simp only [List.cons_append, digF] at h ⊢
    split at h
    · rw [if_pos (by assumption)]
      exact digF_app a b _ m h
    · cases h
theorem digF_ge : ∀ (l : List UInt8) (n m : Nat), digF n l = some m → n ≤ m
  | [], n, m, h => by cases h; exact Nat.le_refl _
  | c :: r, n, m, h => by
    simp only [digF] at h
    split at h
    · have := digF_ge r _ m h; omega
    · cases h
theorem digF_step {l : List UInt8} {i n m : Nat} (hi : i < l.length) (h : digF n (l.drop i) = some m) :
    48 ≤ (l.getD i 0).toNat ∧ (l.getD i 0).toNat ≤ 57 ∧ digF (n * 10 + ((l.getD i 0).toNat - 48)) (l.drop (i + 1)) = some m := by
  have g : l.getD i 0 = l[i] := by simp [List.getD_eq_getElem?_getD, hi]
  rw [List.drop_eq_getElem_cons hi, ← g] at h
  simp only [digF] at h
  split at h
  · rename_i hc
    exact ⟨hc.1, hc.2, h⟩
  · cases h
theorem parseU_of : ∀ (l : List UInt8) (n m : Nat), digF n l = some m → m ≤ 18446744073709551615 → Lib.parseUintM 18446744073709551615 n l = .ok m
  | [], n, m, h, _ => by cases h; rfl
  | c :: r, n, m, h, hm => by
    simp only [digF] at h
    split at h
    · rename_i hc
      have hg := digF_ge r _ m h
      unfold Lib.parseUintM
      rw [if_pos hc, if_neg (by omega), if_neg (by omega)]
      exact parseU_of r _ m h hm
    · cases h
theorem byte_of {k : Nat} (h : k < 10) : (UInt8.ofNat (48 + k)).toNat = 48 + k := by
  rw [UInt8.toNat_ofNat']
  omega
theorem dec_digF (u : Nat) : digF 0 (Lib.decDigits u) = some u := by
  induction u using Nat.strongRecOn with
  | _ u ih =>
    by_cases h : u < 10
    · rw [Lib.decDigits, dif_pos h]
      simp only [digF, byte_of h]
      rw [if_pos (by omega)]
      congr 1
      omega
    · rw [Lib.decDigits, dif_neg h, digF_app _ _ _ _ (ih (u / 10) (by omega))]
      simp only [digF, byte_of (Nat.mod_lt u (by decide : 0 < 10))]
      rw [if_pos (by omega)]
      congr 1
      omega
theorem dec_bytes (u : Nat) : ∀ c ∈ Lib.decDigits u, 48 ≤ c.toNat ∧ c.toNat ≤ 57 := by
  induction u using Nat.strongRecOn with
  | _ u ih =>
    intro c hc
    by_cases h : u < 10
    · rw [Lib.decDigits, dif_pos h, List.mem_singleton] at hc
      rw [hc, byte_of h]
      omega
    · rw [Lib.decDigits, dif_neg h, List.mem_append, List.mem_singleton] at hc
      rcases hc with hc | hc
      · exact ih (u / 10) (by omega) c hc
      · rw [hc, byte_of (Nat.mod_lt u (by decide))]
        omega
theorem nDigits_le : ∀ (k u : Nat), u < 10 ^ (k + 1) → Lib.nDigits u ≤ k + 1
  | 0, u, h => by rw [Lib.nDigits_small (by simpa using h)]; exact Nat.le_refl _
  | k + 1, u, h => by
    by_cases h1 : u < 10
    · rw [Lib.nDigits_small h1]; omega
    · rw [Lib.nDigits_big h1]
      have := nDigits_le k (u / 10) (by rw [Nat.pow_succ] at h; omega)
      omega
theorem dec_cons (u : Nat) : ∃ c r, Lib.decDigits u = c :: r ∧ 48 ≤ c.toNat ∧ c.toNat ≤ 57 := by
  cases h : Lib.decDigits u with
  | nil =>
    have := Lib.decDigits_length u
    rw [h] at this
    have := Lib.nDigits_pos u
    simp at *
    omega
  | cons c r => exact ⟨c, r, rfl, dec_bytes u c (by rw [h]; exact List.mem_cons_self)⟩
theorem dec_len {u : Nat} (h : u ≤ 9223372036854775808) : (Lib.decDigits u).length ≤ 19 := by
  rw [Lib.decDigits_length]
  exact nDigits_le 18 _ (by have : (10 : Nat) ^ (18 + 1) = 10000000000000000000 := by decide
                            omega)
theorem itoa_cases (n : Int) : (n < 0 ∧ Lib.itoa n = 45 :: Lib.decDigits n.natAbs) ∨ (0 ≤ n ∧ Lib.itoa n = Lib.decDigits n.natAbs) := by
  unfold Lib.itoa
  rcases Int.lt_or_le n 0 with h | h
  · exact .inl ⟨h, by rw [if_pos h]⟩
  · refine .inr ⟨h, ?_⟩
    rw [if_neg (by omega)]
    congr 1
    omega
/-- A numeral's first byte. -/
theorem itoa_head (n : Int) : ∃ c r, Lib.itoa n = c :: r ∧ (c.toNat = 45 ∨ (48 ≤ c.toNat ∧ c.toNat ≤ 57)) := by
  rcases itoa_cases n with ⟨_, h⟩ | ⟨_, h⟩
  · exact ⟨_, _, h, .inl rfl⟩
  · obtain ⟨c, r, e, h1, h2⟩ := dec_cons n.natAbs
    exact ⟨c, r, by rw [h, e], .inr ⟨h1, h2⟩⟩
theorem ba_ext {a b : ByteArray} (h : a.data.toList = b.data.toList) : a = b := by
  cases a; cases b
  simp only at h
  rw [Array.toList_inj.1 h]
theorem parse_itoa (n : Int) (h0 : -9223372036854775808 ≤ n) (h1 : n ≤ 9223372036854775807) : Lib.parseIntB 64 (Lib.itoa n) = .ok n := by
  obtain ⟨c, r, e, hc1, hc2⟩ := dec_cons n.natAbs
  have hu : Lib.parseUintB 64 (Lib.decDigits n.natAbs) = .ok n.natAbs := by
    unfold Lib.parseUintB
    rw [if_neg (by rw [e]; simp)]
    exact parseU_of _ 0 _ (dec_digF _) (by omega)
  rcases itoa_cases n with ⟨hn, h⟩ | ⟨hn, h⟩
  · rw [h]
    unfold Lib.parseIntB
    simp only
    rw [if_pos (by decide), hu]
    simp only
    rw [if_neg (by simp), if_neg (by simp only [Nat.reduceSub]; have : (2 : Nat) ^ 63 = 9223372036854775808 := by decide
                                     omega), if_pos (by decide)]
    congr 1
    omega
  · rw [h, e]
    unfold Lib.parseIntB
    simp only
    rw [if_neg (by omega), ← e, hu]
    simp only
    rw [if_neg (by simp only [Nat.reduceSub]; have : (2 : Nat) ^ 63 = 9223372036854775808 := by decide
                   omega), if_neg (by omega), if_neg (by omega)]
    congr 1
    omega
theorem pintV_itoa (n : Int) (h0 : -9223372036854775808 ≤ n) (h1 : n ≤ 9223372036854775807) : pintV (itoaS n) = n := by
  unfold pintV
  have : (itoaS n).data.toList = Lib.itoa n := rfl
  rw [this, parse_itoa n h0 h1]
theorem itoa_inj {n m : Int} (h0 : -9223372036854775808 ≤ n) (h1 : n ≤ 9223372036854775807) (h2 : -9223372036854775808 ≤ m) (h3 : m ≤ 9223372036854775807) (h : itoaS n = itoaS m) : n = m := by
  rw [← pintV_itoa n h0 h1, h, pintV_itoa m h2 h3]

/-- What stands at a place behind a beginning. -/
theorem getD_pre (p r : List UInt8) (k : Nat) : (p ++ r).getD (p.length + k) 0 = r.getD k 0 := getD_mid p r k

/-- **The program restores a text in quotes.** -/
theorem unqP_quote {h : List UInt8 → Nat → UInt8} {s : List UInt8} (H : ∀ p c r, s = p ++ 92 :: 120 :: hexd (c.toNat / 16) :: hexd (c.toNat % 16) :: r → h s (p.length + 2) = c) :
    ∀ (r p : List UInt8) (f : Nat), s = p ++ (r.flatMap quote1 ++ [34]) → s.length ≤ p.length + f → unqP h s f p.length = r
  | [], p, f, hs, hf => by
    cases f with
    | zero => rfl
    | succ f =>
      unfold unqP
      exact if_neg (by rw [hs]; simp)
  | c :: r, p, f, hs, hf => by
    have hl : s.length = p.length + ((quote1 c).length + (r.flatMap quote1).length + 1) := by
      rw [hs]
      simp only [List.flatMap_cons, List.length_append, List.length_cons, List.length_nil]
      all_goals omega
    have hq := (quote1_len c).1
    obtain ⟨f, rfl⟩ : ∃ g, f = g + 1 := ⟨f - 1, by omega⟩
    have hs2 : s = (p ++ quote1 c) ++ (r.flatMap quote1 ++ [34]) := by rw [hs, List.flatMap_cons]; simp only [List.append_assoc]
    have ih := unqP_quote H r (p ++ quote1 c) f hs2 (by rw [List.length_append]; omega)
    rw [List.length_append] at ih
    have g0 : ∀ k, k < (quote1 c).length → s.getD (p.length + k) 0 = (quote1 c).getD k 0 := fun k hk => by
      rw [hs2, List.append_assoc, getD_pre, List.getD_eq_getElem?_getD, List.getD_eq_getElem?_getD, List.getElem?_append_left hk]
    unfold unqP
    rw [if_pos (by omega)]
    by_cases h1 : c = 34 ∨ c = 92
    · have e : quote1 c = [92, c] := by unfold quote1; rw [if_pos h1]
      rw [e] at ih g0 hl
      simp only [List.length_cons, List.length_nil] at hl
      have a0 := g0 0 (by simp)
      have a1 := g0 1 (by simp)
      simp only [Nat.add_zero, List.getD_cons_zero, List.getD_cons_succ] at a0 a1
      rw [if_pos ⟨a0, by omega⟩, a1, if_neg (by rcases h1 with rfl | rfl <;> decide), if_neg (by rcases h1 with rfl | rfl <;> decide)]
      congr 1
    · by_cases h2 : c = 10
      · subst h2
        have e : quote1 10 = [92, 110] := rfl
        rw [e] at ih g0 hl
        simp only [List.length_cons, List.length_nil] at hl
        have a0 := g0 0 (by simp)
        have a1 := g0 1 (by simp)
        simp only [Nat.add_zero, List.getD_cons_zero, List.getD_cons_succ] at a0 a1
        rw [if_pos ⟨a0, by omega⟩, a1, if_pos rfl]
        congr 1
      · by_cases h3 : c.toNat < 32 ∨ 126 < c.toNat
        · have e : quote1 c = [92, 120, hexd (c.toNat / 16), hexd (c.toNat % 16)] := by unfold quote1; rw [if_neg h1, if_neg h2, if_pos h3]
          have hh := H p c (r.flatMap quote1 ++ [34]) (by rw [hs2, e, List.append_assoc]; rfl)
          rw [e] at ih g0 hl
          simp only [List.length_cons, List.length_nil] at hl
          have a0 := g0 0 (by simp)
          have a1 := g0 1 (by simp)
          simp only [Nat.add_zero, List.getD_cons_zero, List.getD_cons_succ] at a0 a1
          rw [if_pos ⟨a0, by omega⟩, a1, if_neg (by decide), if_pos rfl, hh]
          congr 1
        · have e : quote1 c = [c] := by unfold quote1; rw [if_neg h1, if_neg h2, if_neg h3]
          rw [e] at ih g0 hl
          simp only [List.length_cons, List.length_nil] at hl
          have a0 := g0 0 (by simp)
          simp only [Nat.add_zero, List.getD_cons_zero] at a0
          rw [a0, if_neg (fun x => h1 (.inr x.1))]
          congr 1

/-- **The reference restores a text in quotes.** -/
theorem unqR_quote {h : List UInt8 → Nat → UInt8} {s : List UInt8} (H : ∀ p c r, s = p ++ 92 :: 120 :: hexd (c.toNat / 16) :: hexd (c.toNat % 16) :: r → h s (p.length + 2) = c) :
    ∀ (r p : List UInt8) (f : Nat), s = p ++ (r.flatMap quote1 ++ [34]) → s.length ≤ p.length + f → unqR h s f p.length = r
  | [], p, f, hs, hf => by
    cases f with
    | zero => rfl
    | succ f =>
      unfold unqR
      exact if_neg (by rw [hs]; simp)
  | c :: r, p, f, hs, hf => by
    have hl : s.length = p.length + ((quote1 c).length + (r.flatMap quote1).length + 1) := by
      rw [hs]
      simp only [List.flatMap_cons, List.length_append, List.length_cons, List.length_nil]
      all_goals omega
    have hq := (quote1_len c).1
    obtain ⟨f, rfl⟩ : ∃ g, f = g + 1 := ⟨f - 1, by omega⟩
    have hs2 : s = (p ++ quote1 c) ++ (r.flatMap quote1 ++ [34]) := by rw [hs, List.flatMap_cons]; simp only [List.append_assoc]
    have ih := unqR_quote H r (p ++ quote1 c) f hs2 (by rw [List.length_append]; omega)
    rw [List.length_append] at ih
    have g0 : ∀ k, k < (quote1 c).length → s.getD (p.length + k) 0 = (quote1 c).getD k 0 := fun k hk => by
      rw [hs2, List.append_assoc, getD_pre, List.getD_eq_getElem?_getD, List.getD_eq_getElem?_getD, List.getElem?_append_left hk]
    unfold unqR
    rw [if_pos (by omega)]
    by_cases h1 : c = 34 ∨ c = 92
    · have e : quote1 c = [92, c] := by unfold quote1; rw [if_pos h1]
      rw [e] at ih g0 hl
      simp only [List.length_cons, List.length_nil] at hl
      have a0 := g0 0 (by simp)
      have a1 := g0 1 (by simp)
      simp only [Nat.add_zero, List.getD_cons_zero, List.getD_cons_succ] at a0 a1
      rw [if_neg (by rw [a0]; intro x; rcases x with x | x; exact x rfl; omega), a1, if_neg (by rcases h1 with rfl | rfl <;> decide), if_neg (by rcases h1 with rfl | rfl <;> (intro x; exact absurd x.1 (by decide)))]
      congr 1
    · by_cases h2 : c = 10
      · subst h2
        have e : quote1 10 = [92, 110] := rfl
        rw [e] at ih g0 hl
        simp only [List.length_cons, List.length_nil] at hl
        have a0 := g0 0 (by simp)
        have a1 := g0 1 (by simp)
        simp only [Nat.add_zero, List.getD_cons_zero, List.getD_cons_succ] at a0 a1
        rw [if_neg (by rw [a0]; intro x; rcases x with x | x; exact x rfl; omega), a1, if_pos rfl]
        congr 1
      · by_cases h3 : c.toNat < 32 ∨ 126 < c.toNat
        · have e : quote1 c = [92, 120, hexd (c.toNat / 16), hexd (c.toNat % 16)] := by unfold quote1; rw [if_neg h1, if_neg h2, if_pos h3]
          have hh := H p c (r.flatMap quote1 ++ [34]) (by rw [hs2, e, List.append_assoc]; rfl)
          rw [e] at ih g0 hl
          simp only [List.length_cons, List.length_nil] at hl
          have a0 := g0 0 (by simp)
          have a1 := g0 1 (by simp)
          simp only [Nat.add_zero, List.getD_cons_zero, List.getD_cons_succ] at a0 a1
          rw [if_neg (by rw [a0]; intro x; rcases x with x | x; exact x rfl; omega), a1, if_neg (by decide), if_pos ⟨rfl, by omega⟩, hh]
          congr 1
        · have e : quote1 c = [c] := by unfold quote1; rw [if_neg h1, if_neg h2, if_neg h3]
          rw [e] at ih g0 hl
          have a0 := g0 0 (by simp)
          simp only [Nat.add_zero, List.getD_cons_zero] at a0
          rw [a0, if_pos (.inl (fun x => h1 (.inr x)))]
          congr 1
end Go.Ab.A01
