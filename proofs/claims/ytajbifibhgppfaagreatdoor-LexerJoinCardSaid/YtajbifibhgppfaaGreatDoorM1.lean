/- Several texts in one: P1, P2, P3, R1, R2, R4, R5, R6, R3, R7, R8, R9, P4, C1, C2, C3, V1, V2. -/
import Derived.Test.YtajbifibhgppfaaGreatDoorZ3
import Derived.Test.YtajbifibhgppfaaGreatDoorZ7
import Derived.Test.YtajbifibhgppfaaGreatDoorB1
import Derived.Test.YtajbifibhgppfaaGreatDoorZ8
import Derived.Test.YtajbifibhgppfaaGreatDoorZ9
import Derived.Laws.BitsAllLaws
/- Plain law of values: texts in quotes. -/
set_option linter.unusedSimpArgs false
set_option linter.unusedVariables false
set_option linter.unusedSectionVars false
namespace Go.Ab.A01
open Go

/-- A hexadecimal digit. -/
def hexd (k : Nat) : UInt8 := if k < 10 then UInt8.ofNat (48 + k) else UInt8.ofNat (87 + k)
/-- A byte within quotes. -/
def quote1 (c : UInt8) : List UInt8 :=
  if c = 34 ∨ c = 92 then [92, c] else if c = 10 then [92, 110] else if c.toNat < 32 ∨ 126 < c.toNat then [92, 120, hexd (c.toNat / 16), hexd (c.toNat % 16)] else [c]
/-- A text in quotes. -/
def quoteL (l : List UInt8) : List UInt8 := 34 :: (l.flatMap quote1 ++ [34])

/-- The value of a hexadecimal digit. -/
def hexv (c : UInt8) : Option Nat := if 48 ≤ c.toNat ∧ c.toNat ≤ 57 then some (c.toNat - 48) else if 97 ≤ c.toNat ∧ c.toNat ≤ 102 then some (c.toNat - 87) else none

/-- What the program reads between quotes, from place i on; h: the byte that stands behind a backslash and an x at a place. -/
def unqP (h : List UInt8 → Nat → UInt8) (s : List UInt8) : Nat → Nat → List UInt8
  | 0, _ => []
  | f + 1, i => if i + 1 < s.length then
      (if s.getD i 0 = 92 ∧ i + 1 < s.length then
        (if s.getD (i + 1) 0 = 110 then 10 :: unqP h s f (i + 2) else if s.getD (i + 1) 0 = 120 then h s (i + 2) :: unqP h s f (i + 4) else s.getD (i + 1) 0 :: unqP h s f (i + 2))
      else s.getD i 0 :: unqP h s f (i + 1)) else []

/-- What the reference reads between quotes. -/
def unqR (h : List UInt8 → Nat → UInt8) (s : List UInt8) : Nat → Nat → List UInt8
  | 0, _ => []
  | f + 1, i => if i + 1 < s.length then
      (if ¬ s.getD i 0 = 92 ∨ s.length ≤ i + 2 then s.getD i 0 :: unqR h s f (i + 1)
      else if s.getD (i + 1) 0 = 110 then 10 :: unqR h s f (i + 2) else if s.getD (i + 1) 0 = 120 ∧ i + 4 < s.length then h s (i + 2) :: unqR h s f (i + 4) else s.getD (i + 1) 0 :: unqR h s f (i + 2))
    else []

theorem getD_mid (p r : List UInt8) (k : Nat) : (p ++ r).getD (p.length + k) 0 = r.getD k 0 := by
  simp only [List.getD_eq_getElem?_getD]
  rw [List.getElem?_append_right (by omega)]
  congr 2
  omega

theorem quote1_len (c : UInt8) : 1 ≤ (quote1 c).length ∧ (quote1 c).length ≤ 4 := by
  unfold quote1
  split
  · simp
  · split
    · simp
    · split <;> simp

/-- Bytes. -/
def mkB (l : List UInt8) : ByteArray := ⟨l.toArray⟩
theorem mkB_app (a b : List UInt8) : mkB a ++ mkB b = mkB (a ++ b) := by
  have h : (mkB a ++ mkB b).data.toList = (mkB (a ++ b)).data.toList := by
    rw [ByteArray.data_append, Array.toList_append]
    rfl
  cases h1 : mkB a ++ mkB b
  rw [h1] at h
  unfold mkB at h ⊢
  simp only at h
  rw [← h]
theorem mkB_size (l : List UInt8) : (mkB l).size = l.length := by
  show l.toArray.size = _
  simp
/-- What Quote has written after j bytes. -/
def accQ (l : List UInt8) (j : Nat) : ByteArray := mkB (34 :: (l.take j).flatMap quote1)
theorem accQ_step {l : List UInt8} {j : Nat} (h : j < l.length) : accQ l (j + 1) = accQ l j ++ mkB (quote1 (l.getD j 0)) := by
  unfold accQ
  rw [mkB_app, List.take_add_one, List.flatMap_append]
  simp [List.getD_eq_getElem?_getD, h]
theorem flat_le (l : List UInt8) : (l.flatMap quote1).length ≤ 4 * l.length := by
  induction l with
  | nil => simp
  | cons x l ih =>
    have := (quote1_len x).2
    simp only [List.flatMap_cons, List.length_append, List.length_cons]
    omega
theorem accQ_size (l : List UInt8) (j : Nat) : (accQ l j).size ≤ 1 + 4 * l.length := by
  unfold accQ
  rw [mkB_size]
  have := flat_le (l.take j)
  have h2 : (l.take j).length ≤ l.length := by rw [List.length_take]; omega
  simp only [List.length_cons]
  omega
theorem accQ_end {l : List UInt8} {j : Nat} (h : l.length ≤ j) : accQ l j ++ ⟨#[34]⟩ = mkB (quoteL l) := by
  show accQ l j ++ mkB [34] = _
  unfold accQ quoteL
  rw [mkB_app, List.take_of_length_le h]
  simp
theorem ext_one {s : ByteArray} {j : Nat} (h : j < s.size) : s.extract j (j + 1) = mkB [s.data.toList.getD j 0] := by
  have e : (s.extract j (j + 1)).data.toList = (mkB [s.data.toList.getD j 0]).data.toList := by
    rw [ByteArray.data_extract, Array.toList_extract, List.extract_eq_take_drop]
    have hl : j < s.data.toList.length := by rw [Array.length_toList]; exact h
    rw [Nat.add_sub_cancel_left, List.drop_eq_getElem_cons hl]
    simp only [mkB, List.take_succ_cons, List.take_zero, List.getD_eq_getElem?_getD]
    rw [List.getElem?_eq_getElem hl]
    rfl
  cases h1 : s.extract j (j + 1)
  rw [h1] at e
  unfold mkB at e ⊢
  simp only at e
  rw [← e]
theorem hex_one : ∀ u : Fin 16, (⟨#[48, 49, 50, 51, 52, 53, 54, 55, 56, 57, 97, 98, 99, 100, 101, 102]⟩ : ByteArray).extract u.val (u.val + 1) = mkB [hexd u.val] := by decide +kernel
theorem q_34 {c : UInt8} (h : c.toNat = 34) : mkB (quote1 c) = ⟨#[92, 34]⟩ := by
  obtain rfl : c = 34 := UInt8.toNat_inj.1 h
  rfl
theorem q_92 {c : UInt8} (h : c.toNat = 92) : mkB (quote1 c) = ⟨#[92, 92]⟩ := by
  obtain rfl : c = 92 := UInt8.toNat_inj.1 h
  rfl
theorem q_10 {c : UInt8} (h : c.toNat = 10) : mkB (quote1 c) = ⟨#[92, 110]⟩ := by
  obtain rfl : c = 10 := UInt8.toNat_inj.1 h
  rfl
theorem q_hex {c : UInt8} (h : c.toNat ≠ 34 ∧ c.toNat ≠ 92 ∧ c.toNat ≠ 10 ∧ (c.toNat < 32 ∨ 126 < c.toNat)) : quote1 c = [92, 120, hexd (c.toNat / 16), hexd (c.toNat % 16)] := by
  have h1 : ¬ (c = 34 ∨ c = 92) := fun e => by rcases e with rfl | rfl; exact h.1 rfl; exact h.2.1 rfl
  have h2 : ¬ c = 10 := fun e => by subst e; exact h.2.2.1 rfl
  unfold quote1
  rw [if_neg h1, if_neg h2, if_pos h.2.2.2]
theorem q_plain {c : UInt8} (h : c.toNat ≠ 34 ∧ c.toNat ≠ 92 ∧ 32 ≤ c.toNat ∧ c.toNat ≤ 126) : quote1 c = [c] := by
  have h1 : ¬ (c = 34 ∨ c = 92) := fun e => by rcases e with rfl | rfl; exact h.1 rfl; exact h.2.1 rfl
  have h2 : ¬ c = 10 := fun e => by subst e; exact absurd h.2.2.1 (by decide)
  unfold quote1
  rw [if_neg h1, if_neg h2, if_neg (by omega)]
theorem str_eq {a b : ByteArray} (h : a = b) : SV.sc (.string a) = SV.sc (.string b) := congrArg (fun x => SV.sc (.string x)) h
/-- The bytes that quoted has written after j bytes. -/
def accL (l : List UInt8) (j : Nat) : List UInt8 := 34 :: (l.take j).flatMap quote1
theorem accL_step {l : List UInt8} {j : Nat} (h : j < l.length) : accL l (j + 1) = accL l j ++ quote1 (l.getD j 0) := by
  unfold accL
  rw [List.take_add_one, List.flatMap_append]
  simp [List.getD_eq_getElem?_getD, h]
theorem accL_size (l : List UInt8) (j : Nat) : (accL l j).length ≤ 1 + 4 * l.length := by
  unfold accL
  have := flat_le (l.take j)
  have h2 : (l.take j).length ≤ l.length := by rw [List.length_take]; omega
  simp only [List.length_cons]
  omega
theorem accL_end {l : List UInt8} {j : Nat} (h : l.length ≤ j) : accL l j ++ [34] = quoteL l := by
  unfold accL quoteL
  rw [List.take_of_length_le h]
  rfl
theorem hexd_of : ∀ u : Fin 16, (⟨#[48, 49, 50, 51, 52, 53, 54, 55, 56, 57, 97, 98, 99, 100, 101, 102]⟩ : ByteArray).data.toList.getD u.val 0 = hexd u.val := by decide +kernel
theorem q_n {c : UInt8} (h : c.toNat = 10) : quote1 c = [92, 110] := by
  obtain rfl : c = 10 := UInt8.toNat_inj.1 h
  rfl
theorem q_b {c : UInt8} (h : c.toNat = 34 ∨ c.toNat = 92) : quote1 c = [92, c] := by
  have h1 : c = 34 ∨ c = 92 := h.imp (fun e => UInt8.toNat_inj.1 e) (fun e => UInt8.toNat_inj.1 e)
  unfold quote1
  rw [if_pos h1]
end Go.Ab.A01
/- Plain law of values: hexadecimal digits. -/
set_option linter.unusedSimpArgs false
set_option linter.unusedVariables false
set_option linter.unusedSectionVars false
namespace Go.Ab.A01
open Go

/-- The value of a digit for ParseUint at base 16. -/
def dv (c : UInt8) : Option Nat := if 48 ≤ c.toNat ∧ c.toNat ≤ 57 then some (c.toNat - 48) else if 97 ≤ c.toNat ||| 32 ∧ c.toNat ||| 32 ≤ 102 then some ((c.toNat ||| 32) - 87) else .none
def hexF : Nat → List UInt8 → Option Nat
  | n, [] => some n
  | n, c :: r => match dv c with
    | some d => hexF (n * 16 + d) r
    | .none => .none
/-- The number that ParseUint reads at base 16. -/
def hexO (l : List UInt8) : Option Nat := if l = [] then .none else hexF 0 l
theorem dv_lt {c : UInt8} {d : Nat} (h : dv c = some d) : d < 16 := by
  unfold dv at h
  split at h
  · cases h; omega
  · split at h
    · cases h; omega
    · cases h
theorem hexF_app : ∀ (a b : List UInt8) (n m : Nat), hexF n a = some m → hexF n (a ++ b) = hexF m b
  | [], b, n, m, h => by cases h; rfl
  | c :: a, b, n, m, h => by
    simp only [List.cons_append, hexF] at h ⊢
    cases hd : dv c with
    | none => rw [hd] at h; cases h
    | some d => rw [hd] at h; exact hexF_app a b _ m h
theorem hexF_lt : ∀ (l : List UInt8) (n m k : Nat), n < 16 ^ k → hexF n l = some m → m < 16 ^ (k + l.length)
  | [], n, m, k, h, e => by cases e; simpa using h
  | c :: r, n, m, k, h, e => by
    simp only [hexF] at e
    cases hd : dv c with
    | none => rw [hd] at e; cases e
    | some d =>
      rw [hd] at e
      have hl := dv_lt hd
      have h2 : n * 16 + d < 16 ^ (k + 1) := by rw [Nat.pow_succ]; omega
      have := hexF_lt r _ m (k + 1) h2 e
      rwa [List.length_cons, Nat.add_comm r.length, ← Nat.add_assoc]
theorem hexF_step {l : List UInt8} {i n : Nat} (hi : i < l.length) (h : hexF 0 (l.take i) = some n) :
    (∀ d, dv (l.getD i 0) = some d → hexF 0 (l.take (i + 1)) = some (n * 16 + d)) ∧ (dv (l.getD i 0) = .none → hexF 0 l = .none) := by
  have g : l.getD i 0 = l[i] := by simp [List.getD_eq_getElem?_getD, hi]
  refine ⟨fun d hd => ?_, fun hn => ?_⟩
  · rw [List.take_add_one, List.getElem?_eq_getElem hi, hexF_app _ _ _ _ h, ← g]
    simp only [Option.toList_some, hexF]
    rw [hd]
  · have e2 : l = l.take i ++ (l.getD i 0 :: l.drop (i + 1)) := by
      rw [g, ← List.drop_eq_getElem_cons hi, List.take_append_drop]
    rw [e2, hexF_app _ _ _ _ h]
    simp only [hexF]
    rw [hn]
theorem hexd_dv : ∀ u : Fin 16, dv (hexd u.val) = some u.val := by decide +kernel
/-- Two digits. -/
theorem hex_two {a b : Nat} (ha : a < 16) (hb : b < 16) : hexO [hexd a, hexd b] = some (a * 16 + b) := by
  have h1 := hexd_dv ⟨a, ha⟩
  have h2 := hexd_dv ⟨b, hb⟩
  simp only at h1 h2
  unfold hexO
  rw [if_neg (by simp)]
  simp only [hexF, h1, h2, Nat.zero_mul, Nat.zero_add]
end Go.Ab.A01
/- Plain law of values: numerals and texts in quotes are restored. -/
set_option linter.unusedSimpArgs false
set_option linter.unusedVariables false
set_option linter.unusedSectionVars false
namespace Go.Ab.A01
open Go Go.Ab

/-- The number that digits spell. -/
def digF : Nat → List UInt8 → Option Nat
  | n, [] => some n
  | n, c :: r => if 48 ≤ c.toNat ∧ c.toNat ≤ 57 then digF (n * 10 + (c.toNat - 48)) r else .none
theorem digF_app : ∀ (a b : List UInt8) (n m : Nat), digF n a = some m → digF n (a ++ b) = digF m b
  | [], b, n, m, h => by cases h; rfl
  | c :: a, b, n, m, h => by
    simp only [List.cons_append, digF] at h ⊢
    split at h
    · rw [if_pos (by assumption)]
      exact digF_app a b _ m h
    · cases h
theorem digF_ge : ∀ (l : List UInt8) (n m : Nat), digF n l = some m → n ≤ m
  | [], n, m, h => by cases h; exact Nat.le_refl _
  | c :: r, n, m, h => by
    simp only [digF] at h
    split at h
    · have := digF_ge r _ m h; omega
    · cases h
theorem digF_step {l : List UInt8} {i n m : Nat} (hi : i < l.length) (h : digF n (l.drop i) = some m) :
    48 ≤ (l.getD i 0).toNat ∧ (l.getD i 0).toNat ≤ 57 ∧ digF (n * 10 + ((l.getD i 0).toNat - 48)) (l.drop (i + 1)) = some m := by
  have g : l.getD i 0 = l[i] := by simp [List.getD_eq_getElem?_getD, hi]
  rw [List.drop_eq_getElem_cons hi, ← g] at h
  simp only [digF] at h
  split at h
  · rename_i hc
    exact ⟨hc.1, hc.2, h⟩
  · cases h
theorem parseU_of : ∀ (l : List UInt8) (n m : Nat), digF n l = some m → m ≤ 18446744073709551615 → Lib.parseUintM 18446744073709551615 n l = .ok m
  | [], n, m, h, _ => by cases h; rfl
  | c :: r, n, m, h, hm => by
    simp only [digF] at h
    split at h
    · rename_i hc
      have hg := digF_ge r _ m h
      unfold Lib.parseUintM
      rw [if_pos hc, if_neg (by omega), if_neg (by omega)]
      exact parseU_of r _ m h hm
    · cases h
theorem byte_of {k : Nat} (h : k < 10) : (UInt8.ofNat (48 + k)).toNat = 48 + k := by
  rw [UInt8.toNat_ofNat']
  omega
theorem dec_digF (u : Nat) : digF 0 (Lib.decDigits u) = some u := by
  induction u using Nat.strongRecOn with
  | _ u ih =>
    by_cases h : u < 10
    · rw [Lib.decDigits, dif_pos h]
      simp only [digF, byte_of h]
      rw [if_pos (by omega)]
      congr 1
      omega
    · rw [Lib.decDigits, dif_neg h, digF_app _ _ _ _ (ih (u / 10) (by omega))]
      simp only [digF, byte_of (Nat.mod_lt u (by decide : 0 < 10))]
      rw [if_pos (by omega)]
      congr 1
      omega
theorem dec_bytes (u : Nat) : ∀ c ∈ Lib.decDigits u, 48 ≤ c.toNat ∧ c.toNat ≤ 57 := by
  induction u using Nat.strongRecOn with
  | _ u ih =>
    intro c hc
    by_cases h : u < 10
    · rw [Lib.decDigits, dif_pos h, List.mem_singleton] at hc
      rw [hc, byte_of h]
      omega
    · rw [Lib.decDigits, dif_neg h, List.mem_append, List.mem_singleton] at hc
      rcases hc with hc | hc
      · exact ih (u / 10) (by omega) c hc
      · rw [hc, byte_of (Nat.mod_lt u (by decide))]
        omega
theorem nDigits_le : ∀ (k u : Nat), u < 10 ^ (k + 1) → Lib.nDigits u ≤ k + 1
  | 0, u, h => by rw [Lib.nDigits_small (by simpa using h)]; exact Nat.le_refl _
  | k + 1, u, h => by
    by_cases h1 : u < 10
    · rw [Lib.nDigits_small h1]; omega
    · rw [Lib.nDigits_big h1]
      have := nDigits_le k (u / 10) (by rw [Nat.pow_succ] at h; omega)
      omega
theorem dec_cons (u : Nat) : ∃ c r, Lib.decDigits u = c :: r ∧ 48 ≤ c.toNat ∧ c.toNat ≤ 57 := by
  cases h : Lib.decDigits u with
  | nil =>
    have := Lib.decDigits_length u
    rw [h] at this
    have := Lib.nDigits_pos u
    simp at *
    omega
  | cons c r => exact ⟨c, r, rfl, dec_bytes u c (by rw [h]; exact List.mem_cons_self)⟩
theorem dec_len {u : Nat} (h : u ≤ 9223372036854775808) : (Lib.decDigits u).length ≤ 19 := by
  rw [Lib.decDigits_length]
  exact nDigits_le 18 _ (by have : (10 : Nat) ^ (18 + 1) = 10000000000000000000 := by decide
                            omega)
theorem itoa_cases (n : Int) : (n < 0 ∧ Lib.itoa n = 45 :: Lib.decDigits n.natAbs) ∨ (0 ≤ n ∧ Lib.itoa n = Lib.decDigits n.natAbs) := by
  unfold Lib.itoa
  rcases Int.lt_or_le n 0 with h | h
  · exact .inl ⟨h, by rw [if_pos h]⟩
  · refine .inr ⟨h, ?_⟩
    rw [if_neg (by omega)]
    congr 1
    omega
/-- A numeral's first byte. -/
theorem itoa_head (n : Int) : ∃ c r, Lib.itoa n = c :: r ∧ (c.toNat = 45 ∨ (48 ≤ c.toNat ∧ c.toNat ≤ 57)) := by
  rcases itoa_cases n with ⟨_, h⟩ | ⟨_, h⟩
  · exact ⟨_, _, h, .inl rfl⟩
  · obtain ⟨c, r, e, h1, h2⟩ := dec_cons n.natAbs
    exact ⟨c, r, by rw [h, e], .inr ⟨h1, h2⟩⟩
theorem ba_ext {a b : ByteArray} (h : a.data.toList = b.data.toList) : a = b := by
  cases a; cases b
  simp only at h
  rw [Array.toList_inj.1 h]
theorem parse_itoa (n : Int) (h0 : -9223372036854775808 ≤ n) (h1 : n ≤ 9223372036854775807) : Lib.parseIntB 64 (Lib.itoa n) = .ok n := by
  obtain ⟨c, r, e, hc1, hc2⟩ := dec_cons n.natAbs
  have hu : Lib.parseUintB 64 (Lib.decDigits n.natAbs) = .ok n.natAbs := by
    unfold Lib.parseUintB
    rw [if_neg (by rw [e]; simp)]
    exact parseU_of _ 0 _ (dec_digF _) (by omega)
  rcases itoa_cases n with ⟨hn, h⟩ | ⟨hn, h⟩
  · rw [h]
    unfold Lib.parseIntB
    simp only
    rw [if_pos (by decide), hu]
    simp only
    rw [if_neg (by simp), if_neg (by simp only [Nat.reduceSub]; have : (2 : Nat) ^ 63 = 9223372036854775808 := by decide
                                     omega), if_pos (by decide)]
    congr 1
    omega
  · rw [h, e]
    unfold Lib.parseIntB
    simp only
    rw [if_neg (by omega), ← e, hu]
    simp only
    rw [if_neg (by simp only [Nat.reduceSub]; have : (2 : Nat) ^ 63 = 9223372036854775808 := by decide
                   omega), if_neg (by omega), if_neg (by omega)]
    congr 1
    omega
theorem pintV_itoa (n : Int) (h0 : -9223372036854775808 ≤ n) (h1 : n ≤ 9223372036854775807) : pintV (itoaS n) = n := by
  unfold pintV
  have : (itoaS n).data.toList = Lib.itoa n := rfl
  rw [this, parse_itoa n h0 h1]
theorem itoa_inj {n m : Int} (h0 : -9223372036854775808 ≤ n) (h1 : n ≤ 9223372036854775807) (h2 : -9223372036854775808 ≤ m) (h3 : m ≤ 9223372036854775807) (h : itoaS n = itoaS m) : n = m := by
  rw [← pintV_itoa n h0 h1, h, pintV_itoa m h2 h3]

/-- What stands at a place behind a beginning. -/
theorem getD_pre (p r : List UInt8) (k : Nat) : (p ++ r).getD (p.length + k) 0 = r.getD k 0 := getD_mid p r k

/-- **The program restores a text in quotes.** -/
theorem unqP_quote {h : List UInt8 → Nat → UInt8} {s : List UInt8} (H : ∀ p c r, s = p ++ 92 :: 120 :: hexd (c.toNat / 16) :: hexd (c.toNat % 16) :: r → h s (p.length + 2) = c) :
    ∀ (r p : List UInt8) (f : Nat), s = p ++ (r.flatMap quote1 ++ [34]) → s.length ≤ p.length + f → unqP h s f p.length = r
  | [], p, f, hs, hf => by
    cases f with
    | zero => rfl
    | succ f =>
      unfold unqP
      exact if_neg (by rw [hs]; simp)
  | c :: r, p, f, hs, hf => by
    have hl : s.length = p.length + ((quote1 c).length + (r.flatMap quote1).length + 1) := by
      rw [hs]
      simp only [List.flatMap_cons, List.length_append, List.length_cons, List.length_nil]
      all_goals omega
    have hq := (quote1_len c).1
    obtain ⟨f, rfl⟩ : ∃ g, f = g + 1 := ⟨f - 1, by omega⟩
    have hs2 : s = (p ++ quote1 c) ++ (r.flatMap quote1 ++ [34]) := by rw [hs, List.flatMap_cons]; simp only [List.append_assoc]
    have ih := unqP_quote H r (p ++ quote1 c) f hs2 (by rw [List.length_append]; omega)
    rw [List.length_append] at ih
    have g0 : ∀ k, k < (quote1 c).length → s.getD (p.length + k) 0 = (quote1 c).getD k 0 := fun k hk => by
      rw [hs2, List.append_assoc, getD_pre, List.getD_eq_getElem?_getD, List.getD_eq_getElem?_getD, List.getElem?_append_left hk]
    unfold unqP
    rw [if_pos (by omega)]
    by_cases h1 : c = 34 ∨ c = 92
    · have e : quote1 c = [92, c] := by unfold quote1; rw [if_pos h1]
      rw [e] at ih g0 hl
      simp only [List.length_cons, List.length_nil] at hl
      have a0 := g0 0 (by simp)
      have a1 := g0 1 (by simp)
      simp only [Nat.add_zero, List.getD_cons_zero, List.getD_cons_succ] at a0 a1
      rw [if_pos ⟨a0, by omega⟩, a1, if_neg (by rcases h1 with rfl | rfl <;> decide), if_neg (by rcases h1 with rfl | rfl <;> decide)]
      congr 1
    · by_cases h2 : c = 10
      · subst h2
        have e : quote1 10 = [92, 110] := rfl
        rw [e] at ih g0 hl
        simp only [List.length_cons, List.length_nil] at hl
        have a0 := g0 0 (by simp)
        have a1 := g0 1 (by simp)
        simp only [Nat.add_zero, List.getD_cons_zero, List.getD_cons_succ] at a0 a1
        rw [if_pos ⟨a0, by omega⟩, a1, if_pos rfl]
        congr 1
      · by_cases h3 : c.toNat < 32 ∨ 126 < c.toNat
        · have e : quote1 c = [92, 120, hexd (c.toNat / 16), hexd (c.toNat % 16)] := by unfold quote1; rw [if_neg h1, if_neg h2, if_pos h3]
          have hh := H p c (r.flatMap quote1 ++ [34]) (by rw [hs2, e, List.append_assoc]; rfl)
          rw [e] at ih g0 hl
          simp only [List.length_cons, List.length_nil] at hl
          have a0 := g0 0 (by simp)
          have a1 := g0 1 (by simp)
          simp only [Nat.add_zero, List.getD_cons_zero, List.getD_cons_succ] at a0 a1
          rw [if_pos ⟨a0, by omega⟩, a1, if_neg (by decide), if_pos rfl, hh]
          congr 1
        · have e : quote1 c = [c] := by unfold quote1; rw [if_neg h1, if_neg h2, if_neg h3]
          rw [e] at ih g0 hl
          simp only [List.length_cons, List.length_nil] at hl
          have a0 := g0 0 (by simp)
          simp only [Nat.add_zero, List.getD_cons_zero] at a0
          rw [a0, if_neg (fun x => h1 (.inr x.1))]
          congr 1

/-- **The reference restores a text in quotes.** -/
theorem unqR_quote {h : List UInt8 → Nat → UInt8} {s : List UInt8} (H : ∀ p c r, s = p ++ 92 :: 120 :: hexd (c.toNat / 16) :: hexd (c.toNat % 16) :: r → h s (p.length + 2) = c) :
    ∀ (r p : List UInt8) (f : Nat), s = p ++ (r.flatMap quote1 ++ [34]) → s.length ≤ p.length + f → unqR h s f p.length = r
  | [], p, f, hs, hf => by
    cases f with
    | zero => rfl
    | succ f =>
      unfold unqR
      exact if_neg (by rw [hs]; simp)
  | c :: r, p, f, hs, hf => by
    have hl : s.length = p.length + ((quote1 c).length + (r.flatMap quote1).length + 1) := by
      rw [hs]
      simp only [List.flatMap_cons, List.length_append, List.length_cons, List.length_nil]
      all_goals omega
    have hq := (quote1_len c).1
    obtain ⟨f, rfl⟩ : ∃ g, f = g + 1 := ⟨f - 1, by omega⟩
    have hs2 : s = (p ++ quote1 c) ++ (r.flatMap quote1 ++ [34]) := by rw [hs, List.flatMap_cons]; simp only [List.append_assoc]
    have ih := unqR_quote H r (p ++ quote1 c) f hs2 (by rw [List.length_append]; omega)
    rw [List.length_append] at ih
    have g0 : ∀ k, k < (quote1 c).length → s.getD (p.length + k) 0 = (quote1 c).getD k 0 := fun k hk => by
      rw [hs2, List.append_assoc, getD_pre, List.getD_eq_getElem?_getD, List.getD_eq_getElem?_getD, List.getElem?_append_left hk]
    unfold unqR
    rw [if_pos (by omega)]
    by_cases h1 : c = 34 ∨ c = 92
    · have e : quote1 c = [92, c] := by unfold quote1; rw [if_pos h1]
      rw [e] at ih g0 hl
      simp only [List.length_cons, List.length_nil] at hl
      have a0 := g0 0 (by simp)
      have a1 := g0 1 (by simp)
      simp only [Nat.add_zero, List.getD_cons_zero, List.getD_cons_succ] at a0 a1
      rw [if_neg (by rw [a0]; intro x; rcases x with x | x; exact x rfl; omega), a1, if_neg (by rcases h1 with rfl | rfl <;> decide), if_neg (by rcases h1 with rfl | rfl <;> (intro x; exact absurd x.1 (by decide)))]
      congr 1
    · by_cases h2 : c = 10
      · subst h2
        have e : quote1 10 = [92, 110] := rfl
        rw [e] at ih g0 hl
        simp only [List.length_cons, List.length_nil] at hl
        have a0 := g0 0 (by simp)
        have a1 := g0 1 (by simp)
        simp only [Nat.add_zero, List.getD_cons_zero, List.getD_cons_succ] at a0 a1
        rw [if_neg (by rw [a0]; intro x; rcases x with x | x; exact x rfl; omega), a1, if_pos rfl]
        congr 1
      · by_cases h3 : c.toNat < 32 ∨ 126 < c.toNat
        · have e : quote1 c = [92, 120, hexd (c.toNat / 16), hexd (c.toNat % 16)] := by unfold quote1; rw [if_neg h1, if_neg h2, if_pos h3]
          have hh := H p c (r.flatMap quote1 ++ [34]) (by rw [hs2, e, List.append_assoc]; rfl)
          rw [e] at ih g0 hl
          simp only [List.length_cons, List.length_nil] at hl
          have a0 := g0 0 (by simp)
          have a1 := g0 1 (by simp)
          simp only [Nat.add_zero, List.getD_cons_zero, List.getD_cons_succ] at a0 a1
          rw [if_neg (by rw [a0]; intro x; rcases x with x | x; exact x rfl; omega), a1, if_neg (by decide), if_pos ⟨rfl, by omega⟩, hh]
          congr 1
        · have e : quote1 c = [c] := by unfold quote1; rw [if_neg h1, if_neg h2, if_neg h3]
          rw [e] at ih g0 hl
          have a0 := g0 0 (by simp)
          simp only [Nat.add_zero, List.getD_cons_zero] at a0
          rw [a0, if_pos (.inl (fun x => h1 (.inr x)))]
          congr 1
end Go.Ab.A01
/- Contracts: Valid, Int, Str, Compare of the program; Valid, sign of the reference. -/
set_option linter.unusedSimpArgs false
set_option linter.unusedVariables false
set_option linter.unusedSectionVars false
namespace Go.Ab
open Go
/-- A value: kind, number, text. -/
abbrev VS (k n : Int) (s : ByteArray) : SV := .agg [I64 k, I64 n, Str s]
def emp (s : ByteArray) : Bool := s.toList == (⟨#[]⟩ : ByteArray).toList
/-- A valid value. -/
def vok (k n : Int) (s : ByteArray) : Bool := if k = 0 then decide (n = 0) && emp s else if k = 1 then emp s else if k = 2 then decide (n = 0) && decide (s.size ≤ 200) else if k = 3 then decide (1 ≤ n) && emp s else false
def sgn (a b : Int) : Int := if a < b then -1 else if b < a then 1 else 0
end Go.Ab
namespace Go.Proofs.YtajbifibhgppfaaGreatDoor
open Go Go.Ab
variable [Gl] [Tabs]

set_option maxRecDepth 20000 in
theorem valid_p (k n : Int) (s : ByteArray) : PCall Tryz.prog 48 [VS k n s] (SB (vok k n s)) := by
  obtain ⟨R, hR⟩ : ∃ R, R = vok k n s := ⟨_, rfl⟩
  rw [← hR]
  unfold vok emp at hR
  have cs : ((s.size : Nat) : Int) ≤ 200 ↔ s.size ≤ 200 := by omega
  refine Call.enter' (N := 41) (rs := [.tmp 2]) Tryz.func48 rfl rfl rfl (by decide) rfl ?_; simp only [argT]; have hD : (0 : Nat) = 0 := rfl
  repeat' first | (with_reducible refine And.intro (by omega) ?_) | (refine SW.seq_k fun K hK => ?_) | (refine SW.block ?_) | ((first | refine SW.region ?_ | refine SW.regionD (Checked.mixed Tryz.checked) (by kernel_rfl) ?_ | refine SW.cond ?_ | refine SW.skip ?_ | refine SW.exit ?_ | refine SW.ret ?_ | (refine allF_i fun b hb => ?_; replace hD := And.intro hb hD; clear hb; try simp only [fresh_cons, fresh_nil, and_true, ne_eq, neF] at hD) | simp only [appK, appOsK]); try simp only [go_sem, ↓reduceIte, reduceCtorEq, Nat.reduceAdd, Nat.reduceMul, Nat.reduceSub, Nat.reduceLT, Nat.reduceLeDiff, Nat.reduceEqDiff, Nat.reduceBEq, Nat.reduceBneDiff, Int.reduceToNat, Int.reduceEq, hD]) | (refine And.intro (by omega) ?_) | (refine ifI (fun hc => ?_) (fun hc => ?_) <;> first | (exfalso; omega) | skip) | (first | (apply hK; clear hK K) | ((iterate 1 (clear hK K)); apply hK; clear hK K) | ((iterate 2 (clear hK K)); apply hK; clear hK K) | ((iterate 3 (clear hK K)); apply hK; clear hK K) | ((iterate 4 (clear hK K)); apply hK; clear hK K) | ((iterate 5 (clear hK K)); apply hK; clear hK K))
  all_goals
    refine ret_pure ?_; simp only [resL_tmp, resL_nil, tupOf, go_sem, ↓reduceIte, reduceCtorEq, Nat.reduceAdd, Nat.reduceMul, Nat.reduceSub, Nat.reduceLT, Nat.reduceLeDiff, Nat.reduceEqDiff, Nat.reduceBEq, Nat.reduceBneDiff, Int.reduceToNat, Int.reduceEq, hD]
    rw [hR]
    simp_all
    first | done | (intro h; exfalso; omega)

set_option maxRecDepth 20000 in
theorem valid_r (k n : Int) (s : ByteArray) : PCall Tryz.prog 73 [VS k n s] (SB (vok k n s)) := by
  obtain ⟨R, hR⟩ : ∃ R, R = vok k n s := ⟨_, rfl⟩
  rw [← hR]
  unfold vok emp at hR
  have cs : ((s.size : Nat) : Int) ≤ 200 ↔ s.size ≤ 200 := by omega
  refine Call.enter' (N := 44) (rs := [.tmp 2]) Tryz.func73 rfl rfl rfl (by decide) rfl ?_; simp only [argT]; have hD : (0 : Nat) = 0 := rfl
  repeat' first | (with_reducible refine And.intro (by omega) ?_) | (refine SW.seq_k fun K hK => ?_) | (refine SW.block ?_) | ((first | refine SW.region ?_ | refine SW.regionD (Checked.mixed Tryz.checked) (by kernel_rfl) ?_ | refine SW.cond ?_ | refine SW.skip ?_ | refine SW.exit ?_ | refine SW.ret ?_ | (refine allF_i fun b hb => ?_; replace hD := And.intro hb hD; clear hb; try simp only [fresh_cons, fresh_nil, and_true, ne_eq, neF] at hD) | simp only [appK, appOsK]); try simp only [go_sem, ↓reduceIte, reduceCtorEq, Nat.reduceAdd, Nat.reduceMul, Nat.reduceSub, Nat.reduceLT, Nat.reduceLeDiff, Nat.reduceEqDiff, Nat.reduceBEq, Nat.reduceBneDiff, Int.reduceToNat, Int.reduceEq, hD]) | (refine And.intro (by omega) ?_) | (refine ifI (fun hc => ?_) (fun hc => ?_) <;> first | (exfalso; omega) | skip) | (first | (apply hK; clear hK K) | ((iterate 1 (clear hK K)); apply hK; clear hK K) | ((iterate 2 (clear hK K)); apply hK; clear hK K) | ((iterate 3 (clear hK K)); apply hK; clear hK K) | ((iterate 4 (clear hK K)); apply hK; clear hK K) | ((iterate 5 (clear hK K)); apply hK; clear hK K))
  all_goals
    refine ret_pure ?_; simp only [resL_tmp, resL_nil, tupOf, go_sem, ↓reduceIte, reduceCtorEq, Nat.reduceAdd, Nat.reduceMul, Nat.reduceSub, Nat.reduceLT, Nat.reduceLeDiff, Nat.reduceEqDiff, Nat.reduceBEq, Nat.reduceBneDiff, Int.reduceToNat, Int.reduceEq, hD]
    rw [hR]
    simp_all
    first | done | (intro h; exfalso; omega)



end Go.Proofs.YtajbifibhgppfaaGreatDoor
/- Contracts: Compare and Digits of the reference; Int, Str of the program. -/
set_option linter.unusedSimpArgs false
set_option linter.unusedVariables false
set_option linter.unusedSectionVars false
namespace Go.Ab
open Go
/-- The order of values. -/
def cmpV (k n : Int) (s : ByteArray) (k' n' : Int) (s' : ByteArray) : Int :=
  if sgn k k' = 0 then (if sgn n n' = 0 then Lib.compareBytes s.data.toList s'.data.toList else sgn n n') else sgn k k'
theorem cb_step {a b : List UInt8} {i : Nat} (ha : i < a.length) (hb : i < b.length) :
    Lib.compareBytes (a.drop i) (b.drop i) = if a.getD i 0 = b.getD i 0 then Lib.compareBytes (a.drop (i + 1)) (b.drop (i + 1)) else sgn (a.getD i 0).toNat (b.getD i 0).toNat := by
  have g1 : a.getD i 0 = a[i] := by simp [List.getD_eq_getElem?_getD, ha]
  have g2 : b.getD i 0 = b[i] := by simp [List.getD_eq_getElem?_getD, hb]
  rw [List.drop_eq_getElem_cons ha, List.drop_eq_getElem_cons hb, g1, g2, Lib.compareBytes]
  generalize a[i] = x
  generalize b[i] = y
  by_cases h : x = y
  · subst h
    rw [if_pos rfl, if_neg (by simp), if_neg (by simp)]
  · rw [if_neg h]
    unfold sgn
    have hne : x.toNat ≠ y.toNat := fun e => h (UInt8.toNat_inj.1 e)
    by_cases h1 : x < y
    · have : x.toNat < y.toNat := h1
      rw [if_pos h1, if_pos (by omega)]
    · have h1' : ¬ x.toNat < y.toNat := h1
      have h2 : y < x := by show y.toNat < x.toNat; omega
      rw [if_neg h1, if_pos h2, if_neg (by omega), if_pos (by omega)]
theorem cb_end {a b : List UInt8} {i : Nat} (ha : i ≤ a.length) (hb : i ≤ b.length) (h : ¬ (i < a.length ∧ i < b.length)) : Lib.compareBytes (a.drop i) (b.drop i) = sgn a.length b.length := by
  unfold sgn
  by_cases h1 : i < a.length
  · rw [List.drop_eq_getElem_cons h1, List.drop_of_length_le (l := b) (by omega), Lib.compareBytes, if_neg (by omega), if_pos (by omega)]
  · rw [List.drop_of_length_le (l := a) (by omega)]
    by_cases h2 : i < b.length
    · rw [List.drop_eq_getElem_cons h2, Lib.compareBytes, if_pos (by omega)]
    · rw [List.drop_of_length_le (l := b) (by omega), Lib.compareBytes, if_neg (by omega), if_neg (by omega)]
end Go.Ab
namespace Go.Proofs.YtajbifibhgppfaaGreatDoor
open Go Go.Ab
variable [Gl] [Tabs]

theorem int_p (n : Int) : PCall Tryz.prog 70 [I64 n] (VS 1 n ⟨#[]⟩) := by
  refine Call.enter' (N := 5) (rs := [.cell 2 33]) Tryz.func70 rfl rfl rfl (by decide) rfl ?_; simp only [argT]; have hD : (0 : Nat) = 0 := rfl
  repeat' first | (with_reducible refine And.intro (by omega) ?_) | (refine SW.seq_k fun K hK => ?_) | (refine SW.block ?_) | ((first | refine SW.region ?_ | refine SW.regionD (Checked.mixed Tryz.checked) (by kernel_rfl) ?_ | refine SW.cond ?_ | refine SW.skip ?_ | refine SW.exit ?_ | refine SW.ret ?_ | (refine allF_i fun b hb => ?_; replace hD := And.intro hb hD; clear hb; try simp only [fresh_cons, fresh_nil, and_true, ne_eq, neF] at hD) | simp only [appK, appOsK]); try simp only [go_sem, ↓reduceIte, reduceCtorEq, Nat.reduceAdd, Nat.reduceMul, Nat.reduceSub, Nat.reduceLT, Nat.reduceLeDiff, Nat.reduceEqDiff, Nat.reduceBEq, Nat.reduceBneDiff, Int.reduceToNat, Int.reduceEq, hD]) | (refine And.intro (by omega) ?_) | (refine ifI (fun hc => ?_) (fun hc => ?_) <;> first | (exfalso; omega) | skip) | (first | (apply hK; clear hK K) | ((iterate 1 (clear hK K)); apply hK; clear hK K) | ((iterate 2 (clear hK K)); apply hK; clear hK K) | ((iterate 3 (clear hK K)); apply hK; clear hK K) | ((iterate 4 (clear hK K)); apply hK; clear hK K) | ((iterate 5 (clear hK K)); apply hK; clear hK K))
  apply ret_cell (i := 2) (n := 3); exact rfl; (simp only [go_sem, ↓reduceIte, reduceCtorEq, Nat.reduceAdd, Nat.reduceMul, Nat.reduceSub, Nat.reduceLT, Nat.reduceLeDiff, Nat.reduceEqDiff, Nat.reduceBEq, Nat.reduceBneDiff, Int.reduceToNat, Int.reduceEq, hD]; try rfl); (first | exact Nat.le_refl _ | decide); simp only [resL_tmp, resL_cellE, resC_ok, resL_nil, tupOf, getN, go_sem, ↓reduceIte, reduceCtorEq, Nat.reduceAdd, Nat.reduceMul, Nat.reduceSub, Nat.reduceLT, Nat.reduceLeDiff, Nat.reduceEqDiff, Nat.reduceBEq, Nat.reduceBneDiff, Int.reduceToNat, Int.reduceEq, hD]





end Go.Proofs.YtajbifibhgppfaaGreatDoor
/- Contracts: cmp.Or, Compare of the program. -/
set_option linter.unusedSimpArgs false
set_option linter.unusedVariables false
set_option linter.unusedSectionVars false
namespace Go.Ab
open Go
/-- The first number that is not 0. -/
def orS : List Int → Int
  | [] => 0
  | x :: l => if x = 0 then orS l else x
theorem orS_step {l : List Int} {j : Nat} (h : j < l.length) : orS (l.drop j) = if l.getD j 0 = 0 then orS (l.drop (j + 1)) else l.getD j 0 := by
  have g : l.getD j 0 = l[j] := by simp [List.getD_eq_getElem?_getD, h]
  rw [List.drop_eq_getElem_cons h, g]
  rfl
theorem orS_end {l : List Int} {j : Nat} (h : ¬ j < l.length) : orS (l.drop j) = 0 := by
  rw [List.drop_of_length_le (by omega)]
  rfl
end Go.Ab
namespace Go.Proofs.YtajbifibhgppfaaGreatDoor
open Go Go.Ab
variable [Gl] [Tabs]



end Go.Proofs.YtajbifibhgppfaaGreatDoor
/- Contract: Quote of the reference. -/
set_option linter.unusedSimpArgs false
set_option linter.unusedVariables false
set_option linter.unusedSectionVars false
namespace Go.Proofs.YtajbifibhgppfaaGreatDoor
open Go Go.Ab Go.Ab.A01
variable [Gl] [Tabs]

set_option maxRecDepth 20000 in
theorem quote_r (s : ByteArray) (hs : s.size ≤ 281474976710656) : PCall Tryz.prog 74 [Str s] (Str (mkB (quoteL s.data.toList))) := by
  have ls : s.data.toList.length = s.size := Array.length_toList
  refine Call.enter' (N := 62) (rs := [.tmp 2]) Tryz.func74 rfl rfl rfl (by decide) rfl ?_; simp only [argT]; have hD : (0 : Nat) = 0 := rfl
  repeat' first | (with_reducible refine And.intro (by omega) ?_) | (refine SW.seq_k fun K hK => ?_) | ((first | refine SW.region ?_ | refine SW.regionD (Checked.mixed Tryz.checked) (by kernel_rfl) ?_ | refine SW.cond ?_ | refine SW.skip ?_ | refine SW.exit ?_ | refine SW.ret ?_ | (refine allF_i fun b hb => ?_; replace hD := And.intro hb hD; clear hb; try simp only [fresh_cons, fresh_nil, and_true, ne_eq, neF] at hD) | simp only [appK, appOsK]); try simp only [go_sem, ↓reduceIte, reduceCtorEq, Nat.reduceAdd, Nat.reduceMul, Nat.reduceSub, Nat.reduceLT, Nat.reduceLeDiff, Nat.reduceEqDiff, Nat.reduceBEq, Nat.reduceBneDiff, Int.reduceToNat, Int.reduceEq, hD]) | (refine And.intro (by omega) ?_) | (refine ifI (fun hc => ?_) (fun hc => ?_) <;> first | (exfalso; omega) | skip) | (first | (apply hK; clear hK K) | ((iterate 1 (clear hK K)); apply hK; clear hK K) | ((iterate 2 (clear hK K)); apply hK; clear hK K) | ((iterate 3 (clear hK K)); apply hK; clear hK K) | ((iterate 4 (clear hK K)); apply hK; clear hK K) | ((iterate 5 (clear hK K)); apply hK; clear hK K))
  refine SW.block ?_
  obtain ⟨I, hI⟩ : ∃ I : Nat → St → Prop, ∀ k S, I k S ↔ (∃ j : Nat, k = s.size - j ∧ j ≤ s.size ∧ S = ⟨[(0, Str s), (3, Str (accQ s.data.toList j)), (4, I64 j)], []⟩) := ⟨fun k S => _, fun _ _ => Iff.rfl⟩
  refine SW.loop' I s.size ((hI _ _).2 ⟨0, rfl, Nat.zero_le _, rfl⟩) (by repeat' (first | exact rfl | exact trivial | exact int_eq (by omega) | exact int_eq (by (rw [i64_wrap] <;> omega)) | constructor)) ?_
  intro k S hIn
  obtain ⟨j, rfl, hj, rfl⟩ := (hI _ _).1 hIn
  clear hIn
  have ie : ((j : Nat) : Int).toNat = j := Int.toNat_natCast _
  have i0 : (0 : Int) ≤ ((j : Nat) : Int) := by omega
  have sz := accQ_size s.data.toList j
  by_cases h1 : j < s.size
  · have h1i : ((j : Nat) : Int) < ((s.size : Nat) : Int) := by omega
    have w1 : IntKind.i64.wrap ((j : Int) + 1) = ((j + 1 : Nat) : Int) := by rw [i64_wrap (by omega) (by omega)]; omega
    have st := accQ_step (l := s.data.toList) (j := j) (by omega)
    have ex := ext_one h1
    have hc8 := (s.data.toList.getD j 0).toNat_lt
    have q1 : IntKind.u8.wrap (Int.tdiv ((s.data.toList.getD j 0).toNat : Int) 16) = (((s.data.toList.getD j 0).toNat / 16 : Nat) : Int) := by
      rw [show Int.tdiv ((s.data.toList.getD j 0).toNat : Int) 16 = (((s.data.toList.getD j 0).toNat / 16 : Nat) : Int) from (Int.ofNat_tdiv _ 16).symm]
      exact u8n (by omega) (by omega)
    have r1 : Int.tmod ((s.data.toList.getD j 0).toNat : Int) 16 = (((s.data.toList.getD j 0).toNat % 16 : Nat) : Int) := (Int.ofNat_tmod _ 16).symm
    have q2 : IntKind.u8.wrap ((((s.data.toList.getD j 0).toNat / 16 : Nat) : Int) + 1) = (((s.data.toList.getD j 0).toNat / 16 + 1 : Nat) : Int) := by rw [u8n (by omega) (by omega)]; omega
    have r2 : IntKind.u8.wrap ((((s.data.toList.getD j 0).toNat % 16 : Nat) : Int) + 1) = (((s.data.toList.getD j 0).toNat % 16 + 1 : Nat) : Int) := by rw [u8n (by omega) (by omega)]; omega
    have x1 := hex_one ⟨(s.data.toList.getD j 0).toNat / 16, by omega⟩
    have x2 := hex_one ⟨(s.data.toList.getD j 0).toNat % 16, by omega⟩
    have e2 : ((j + 1 : Nat) : Int).toNat = j + 1 := Int.toNat_natCast _
    simp only at x1 x2
    have n1 : (((s.data.toList.getD j 0).toNat / 16 : Nat) : Int).toNat = (s.data.toList.getD j 0).toNat / 16 := Int.toNat_natCast _
    have n2 : (((s.data.toList.getD j 0).toNat % 16 : Nat) : Int).toNat = (s.data.toList.getD j 0).toNat % 16 := Int.toNat_natCast _
    have n3 : (((s.data.toList.getD j 0).toNat / 16 + 1 : Nat) : Int).toNat = (s.data.toList.getD j 0).toNat / 16 + 1 := Int.toNat_natCast _
    have n4 : (((s.data.toList.getD j 0).toNat % 16 + 1 : Nat) : Int).toNat = (s.data.toList.getD j 0).toNat % 16 + 1 := Int.toNat_natCast _
    have y1 := mkB_size [hexd ((s.data.toList.getD j 0).toNat / 16)]
    have y2 := mkB_size [hexd ((s.data.toList.getD j 0).toNat % 16)]
    have y3 := mkB_size [s.data.toList.getD j 0]
    repeat' first | (with_reducible refine And.intro (by omega) ?_) | (refine SW.seq_k fun K hK => ?_) | (refine SW.block ?_) | ((first | refine SW.region ?_ | refine SW.regionZ (id := 14) (Checked.mixed Tryz.checked) ((.one 0 [0, 15, 16] (.one 1 [1, 2, 6, 7, 14, 15, 16] (.one 2 [2, 6, 7, 14, 15, 16] (.one 3 [3, 4, 5, 6, 7, 14, 15, 16] (.one 4 [4, 5, 6, 7, 14, 15, 16] (.one 5 [5, 6, 7, 14, 15, 16] (.one 6 [6, 7, 14, 15, 16] (.one 7 [7, 14, 15, 16] (.one 8 [8, 9, 13, 14, 15, 16] (.one 9 [9, 13, 14, 15, 16] (.one 10 [10, 11, 12, 13, 14, 15, 16] (.one 11 [11, 12, 13, 14, 15, 16] (.one 12 [12, 13, 14, 15, 16] (.one 13 [13, 14, 15, 16] (.one 14 [14, 15, 16] (.one 15 [15, 16] (.one 16 [16] .done))))))))))))))))) : OZ) (by kernel_rfl) ?_ | refine SW.regionD (Checked.mixed Tryz.checked) (by kernel_rfl) ?_ | refine SW.cond ?_ | refine SW.skip ?_ | refine SW.exit ?_ | refine SW.ret ?_ | (refine allF_i fun b hb => ?_; replace hD := And.intro hb hD; clear hb; try simp only [fresh_cons, fresh_nil, and_true, ne_eq, neF] at hD) | simp only [appK, appOsK]); try simp only [go_sem, ↓reduceIte, reduceCtorEq, Nat.reduceAdd, Nat.reduceMul, Nat.reduceSub, Nat.reduceLT, Nat.reduceLeDiff, Nat.reduceEqDiff, Nat.reduceBEq, Nat.reduceBneDiff, Int.reduceToNat, Int.reduceEq, hD, h1i, ie, i0, w1, e2, q1, r1, q2, r2, n1, n2, n3, n4, x1, x2, ex, y1, y2, y3]) | (refine And.intro (by omega) ?_) | (refine ifI (fun hc => ?_) (fun hc => ?_) <;> first | (exfalso; omega) | skip) | (first | (apply hK; clear hK K) | ((iterate 1 (clear hK K)); apply hK; clear hK K) | ((iterate 2 (clear hK K)); apply hK; clear hK K) | ((iterate 3 (clear hK K)); apply hK; clear hK K) | ((iterate 4 (clear hK K)); apply hK; clear hK K) | ((iterate 5 (clear hK K)); apply hK; clear hK K)) | (refine And.intro ?_ ?_)
    all_goals refine Rnd.sub (s.size - (j + 1)) (by omega) ((hI _ _).2 ⟨j + 1, rfl, by omega, rfl⟩) ?_
    all_goals repeat' (first | exact rfl | exact trivial | (refine str_eq ?_) | constructor)
    all_goals rw [st]
    · rw [q_34 (by omega)]
    · rw [q_92 (by omega)]
    · rw [q_10 (by omega)]
    · rw [q_hex (by omega)]
      rfl
    · rw [q_hex (by omega)]
      rfl
    · rw [q_plain (by omega)]
  · have h1i : ¬ ((j : Nat) : Int) < ((s.size : Nat) : Int) := by omega
    have e : accQ s.data.toList j ++ _ = _ := accQ_end (l := s.data.toList) (j := j) (by omega)
    repeat' first | (with_reducible refine And.intro (by omega) ?_) | (refine SW.seq_k fun K hK => ?_) | (refine SW.block ?_) | ((first | refine SW.region ?_ | refine SW.regionZ (id := 14) (Checked.mixed Tryz.checked) ((.one 0 [0, 15, 16] (.one 1 [1, 2, 6, 7, 14, 15, 16] (.one 2 [2, 6, 7, 14, 15, 16] (.one 3 [3, 4, 5, 6, 7, 14, 15, 16] (.one 4 [4, 5, 6, 7, 14, 15, 16] (.one 5 [5, 6, 7, 14, 15, 16] (.one 6 [6, 7, 14, 15, 16] (.one 7 [7, 14, 15, 16] (.one 8 [8, 9, 13, 14, 15, 16] (.one 9 [9, 13, 14, 15, 16] (.one 10 [10, 11, 12, 13, 14, 15, 16] (.one 11 [11, 12, 13, 14, 15, 16] (.one 12 [12, 13, 14, 15, 16] (.one 13 [13, 14, 15, 16] (.one 14 [14, 15, 16] (.one 15 [15, 16] (.one 16 [16] .done))))))))))))))))) : OZ) (by kernel_rfl) ?_ | refine SW.regionD (Checked.mixed Tryz.checked) (by kernel_rfl) ?_ | refine SW.cond ?_ | refine SW.skip ?_ | refine SW.exit ?_ | refine SW.ret ?_ | (refine allF_i fun b hb => ?_; replace hD := And.intro hb hD; clear hb; try simp only [fresh_cons, fresh_nil, and_true, ne_eq, neF] at hD) | simp only [appK, appOsK]); try simp only [go_sem, ↓reduceIte, reduceCtorEq, Nat.reduceAdd, Nat.reduceMul, Nat.reduceSub, Nat.reduceLT, Nat.reduceLeDiff, Nat.reduceEqDiff, Nat.reduceBEq, Nat.reduceBneDiff, Int.reduceToNat, Int.reduceEq, hD, h1i]) | (refine And.intro (by omega) ?_) | (refine ifI (fun hc => ?_) (fun hc => ?_) <;> first | (exfalso; omega) | skip) | (first | (apply hK; clear hK K) | ((iterate 1 (clear hK K)); apply hK; clear hK K) | ((iterate 2 (clear hK K)); apply hK; clear hK K) | ((iterate 3 (clear hK K)); apply hK; clear hK K) | ((iterate 4 (clear hK K)); apply hK; clear hK K) | ((iterate 5 (clear hK K)); apply hK; clear hK K)) | (refine And.intro ?_ ?_)
    refine ret_pure ?_; simp only [resL_tmp, resL_nil, tupOf, go_sem, ↓reduceIte, reduceCtorEq, Nat.reduceAdd, Nat.reduceMul, Nat.reduceSub, Nat.reduceLT, Nat.reduceLeDiff, Nat.reduceEqDiff, Nat.reduceBEq, Nat.reduceBneDiff, Int.reduceToNat, Int.reduceEq, hD]
    exact congrArg (fun x => SV.sc (Value.string x)) e
end Go.Proofs.YtajbifibhgppfaaGreatDoor
/- Contract: quoted of the program. -/
set_option linter.unusedSimpArgs false
set_option linter.unusedVariables false
set_option linter.unusedSectionVars false
namespace Go.Proofs.YtajbifibhgppfaaGreatDoor
open Go Go.Ab Go.Ab.A01
variable [Gl] [Tabs]

set_option maxHeartbeats 4000000 in
set_option maxRecDepth 20000 in
theorem quoted_p (s : ByteArray) (hs : s.size ≤ 1000000) : PCall Tryz.prog 50 [Str s] (Str (mkB (quoteL s.data.toList))) := by
  have ls : s.data.toList.length = s.size := Array.length_toList
  refine Call.enter' (N := 57) (rs := [.tmp 2]) Tryz.func50 rfl rfl rfl (by decide) rfl ?_; simp only [argT]; have hD : (0 : Nat) = 0 := rfl
  repeat' first | (with_reducible refine And.intro (by omega) ?_) | (refine SW.seq_k fun K hK => ?_) | ((first | refine SW.region ?_ | refine SW.regionD (Checked.mixed Tryz.checked) (by kernel_rfl) ?_ | refine SW.cond ?_ | refine SW.skip ?_ | refine SW.exit ?_ | refine SW.ret ?_ | (refine allF_i fun b hb => ?_; replace hD := And.intro hb hD; clear hb; try simp only [fresh_cons, fresh_nil, and_true, ne_eq, neF] at hD) | simp only [appK, appOsK]); try simp only [go_sem, ↓reduceIte, reduceCtorEq, Nat.reduceAdd, Nat.reduceMul, Nat.reduceSub, Nat.reduceLT, Nat.reduceLeDiff, Nat.reduceEqDiff, Nat.reduceBEq, Nat.reduceBneDiff, Int.reduceToNat, Int.reduceEq, hD]) | (refine And.intro (by omega) ?_) | (refine ifI (fun hc => ?_) (fun hc => ?_) <;> first | (exfalso; omega) | skip) | (first | (apply hK; clear hK K) | ((iterate 1 (clear hK K)); apply hK; clear hK K) | ((iterate 2 (clear hK K)); apply hK; clear hK K) | ((iterate 3 (clear hK K)); apply hK; clear hK K) | ((iterate 4 (clear hK K)); apply hK; clear hK K) | ((iterate 5 (clear hK K)); apply hK; clear hK K))
  refine SW.block ?_
  obtain ⟨I, hI⟩ : ∃ I : Nat → St → Prop, ∀ k S, I k S ↔ (∃ (j : Nat) (x : SV) (h : Heap), k = s.size - j ∧ j ≤ s.size ∧ Acc 1 x h [] (accL s.data.toList j).length (byts (accL s.data.toList j)) ∧ S = ⟨[(0, Str s), (3, x), (9, I64 j), (8, I64 s.size)], h⟩) := ⟨fun k S => _, fun _ _ => Iff.rfl⟩
  refine SW.loop' I s.size ((hI _ _).2 ⟨0, _, _, rfl, Nat.zero_le _, .inr ⟨b, .svs [.sc (.int .u8 34)], trivial, rfl, rfl, rfl, rfl⟩, rfl⟩) (by repeat' (first | exact rfl | exact trivial | exact int_eq (by omega) | exact int_eq (by (rw [i64_wrap] <;> omega)) | constructor)) ?_
  clear hD
  have hD : (0 : Nat) = 0 := rfl
  intro k S hIn
  obtain ⟨j, x, h, rfl, hj, hB, rfl⟩ := (hI _ _).1 hIn
  clear hIn
  have ie : ((j : Nat) : Int).toNat = j := Int.toNat_natCast _
  have i0 : (0 : Int) ≤ ((j : Nat) : Int) := by omega
  have sz := accL_size s.data.toList j
  by_cases h1 : j < s.size
  · have h1i : ((j : Nat) : Int) < ((s.size : Nat) : Int) := by omega
    have w1 : IntKind.i64.wrap ((j : Int) + 1) = ((j + 1 : Nat) : Int) := by rw [i64_wrap (by omega) (by omega)]; omega
    have st := accL_step (l := s.data.toList) (j := j) (by omega)
    have hc8 := (s.data.toList.getD j 0).toNat_lt
    have x1 := hexd_of ⟨(s.data.toList.getD j 0).toNat / 16, by omega⟩
    have x2 := hexd_of ⟨(s.data.toList.getD j 0).toNat % 16, by omega⟩
    simp only at x1 x2
    have n1 : (((s.data.toList.getD j 0).toNat / 16 : Nat) : Int).toNat = (s.data.toList.getD j 0).toNat / 16 := Int.toNat_natCast _
    have n2 : (((s.data.toList.getD j 0).toNat % 16 : Nat) : Int).toNat = (s.data.toList.getD j 0).toNat % 16 := Int.toNat_natCast _
    have b1 : ((s.data.toList.getD j 0).toNat : Int).fdiv (2 ^ min 4 8) = (((s.data.toList.getD j 0).toNat / 16 : Nat) : Int) := by
      rw [show min 4 8 = 4 from rfl, Int.fdiv_eq_ediv_of_nonneg _ (by decide), show (2 : Int) ^ 4 = 16 by decide]
      omega
    have b2 : bits BinOp.and IntKind.u8 ((s.data.toList.getD j 0).toNat : Int) 15 = (((s.data.toList.getD j 0).toNat % 16 : Nat) : Int) := by
      have h := u8_and_nat (s.data.toList.getD j 0).toNat 15 hc8 (by decide)
      rw [show ((15 : Nat) : Int) = 15 from rfl] at h
      rw [h]
      have e : (15 : Nat) = 2 ^ 4 - 1 := rfl
      rw [e, Nat.and_two_pow_sub_one_eq_mod]
    obtain ⟨cl, hcl⟩ : ∃ d, d = hexd ((s.data.toList.getD j 0).toNat % 16) := ⟨_, rfl⟩
    obtain ⟨ch, hch⟩ : ∃ d, d = hexd ((s.data.toList.getD j 0).toNat / 16) := ⟨_, rfl⟩
    rw [← hch] at x1
    rw [← hcl] at x2
    repeat' first | ((with_reducible refine appK_byts (l2 := [92, s.data.toList.getD j 0]) hB ?_ ?_ ?_ ?_ ?_ ?_ ?_ ?_ ?_); (iterate 8 (first | rfl | exact hD | exact hD.1 | exact hD.2.1 | exact hD.2.2.1 | exact Nat.succ_pos _ | (simp only [List.length_cons, List.length_nil]; omega))); intro b' blk' h' h'' n3 hn3 hfind hcells hcv hB' hle; clear hB; have hB := hB'; clear hB'; (try simp only [go_sem, ↓reduceIte, reduceCtorEq, Nat.reduceAdd, Nat.reduceMul, Nat.reduceSub, Nat.reduceLT, Nat.reduceLeDiff, Nat.reduceEqDiff, Nat.reduceBEq, Nat.reduceBneDiff, Int.reduceToNat, Int.reduceEq, hD] at hcv); simp only [go_sem, ↓reduceIte, reduceCtorEq, Nat.reduceAdd, Nat.reduceMul, Nat.reduceSub, Nat.reduceLT, Nat.reduceLeDiff, Nat.reduceEqDiff, Nat.reduceBEq, Nat.reduceBneDiff, Int.reduceToNat, Int.reduceEq, hD, hfind, hcv]; (first | (apply hK; clear hK K) | ((iterate 1 (clear hK K)); apply hK; clear hK K) | ((iterate 2 (clear hK K)); apply hK; clear hK K) | ((iterate 3 (clear hK K)); apply hK; clear hK K) | ((iterate 4 (clear hK K)); apply hK; clear hK K) | ((iterate 5 (clear hK K)); apply hK; clear hK K)); refine SW.le (hle _) ?_; clear hle hfind hcv hcells) | ((with_reducible refine appK_byts (l2 := [92, 110]) hB ?_ ?_ ?_ ?_ ?_ ?_ ?_ ?_ ?_); (iterate 8 (first | rfl | exact hD | exact hD.1 | exact hD.2.1 | exact hD.2.2.1 | exact Nat.succ_pos _ | (simp only [List.length_cons, List.length_nil]; omega))); intro b' blk' h' h'' n3 hn3 hfind hcells hcv hB' hle; clear hB; have hB := hB'; clear hB'; (try simp only [go_sem, ↓reduceIte, reduceCtorEq, Nat.reduceAdd, Nat.reduceMul, Nat.reduceSub, Nat.reduceLT, Nat.reduceLeDiff, Nat.reduceEqDiff, Nat.reduceBEq, Nat.reduceBneDiff, Int.reduceToNat, Int.reduceEq, hD] at hcv); simp only [go_sem, ↓reduceIte, reduceCtorEq, Nat.reduceAdd, Nat.reduceMul, Nat.reduceSub, Nat.reduceLT, Nat.reduceLeDiff, Nat.reduceEqDiff, Nat.reduceBEq, Nat.reduceBneDiff, Int.reduceToNat, Int.reduceEq, hD, hfind, hcv]; (first | (apply hK; clear hK K) | ((iterate 1 (clear hK K)); apply hK; clear hK K) | ((iterate 2 (clear hK K)); apply hK; clear hK K) | ((iterate 3 (clear hK K)); apply hK; clear hK K) | ((iterate 4 (clear hK K)); apply hK; clear hK K) | ((iterate 5 (clear hK K)); apply hK; clear hK K)); refine SW.le (hle _) ?_; clear hle hfind hcv hcells) | ((with_reducible refine appK_byts (l2 := [92, 120, ch, cl]) hB ?_ ?_ ?_ ?_ ?_ ?_ ?_ ?_ ?_); (iterate 8 (first | rfl | exact hD | exact hD.1 | exact hD.2.1 | exact hD.2.2.1 | exact Nat.succ_pos _ | (simp only [List.length_cons, List.length_nil]; omega))); intro b' blk' h' h'' n3 hn3 hfind hcells hcv hB' hle; clear hB; have hB := hB'; clear hB'; (try simp only [go_sem, ↓reduceIte, reduceCtorEq, Nat.reduceAdd, Nat.reduceMul, Nat.reduceSub, Nat.reduceLT, Nat.reduceLeDiff, Nat.reduceEqDiff, Nat.reduceBEq, Nat.reduceBneDiff, Int.reduceToNat, Int.reduceEq, hD] at hcv); simp only [go_sem, ↓reduceIte, reduceCtorEq, Nat.reduceAdd, Nat.reduceMul, Nat.reduceSub, Nat.reduceLT, Nat.reduceLeDiff, Nat.reduceEqDiff, Nat.reduceBEq, Nat.reduceBneDiff, Int.reduceToNat, Int.reduceEq, hD, hfind, hcv]; (first | (apply hK; clear hK K) | ((iterate 1 (clear hK K)); apply hK; clear hK K) | ((iterate 2 (clear hK K)); apply hK; clear hK K) | ((iterate 3 (clear hK K)); apply hK; clear hK K) | ((iterate 4 (clear hK K)); apply hK; clear hK K) | ((iterate 5 (clear hK K)); apply hK; clear hK K)); refine SW.le (hle _) ?_; clear hle hfind hcv hcells) | ((with_reducible refine appK_byts (l2 := [s.data.toList.getD j 0]) hB ?_ ?_ ?_ ?_ ?_ ?_ ?_ ?_ ?_); (iterate 8 (first | rfl | exact hD | exact hD.1 | exact hD.2.1 | exact hD.2.2.1 | exact Nat.succ_pos _ | (simp only [List.length_cons, List.length_nil]; omega))); intro b' blk' h' h'' n3 hn3 hfind hcells hcv hB' hle; clear hB; have hB := hB'; clear hB'; (try simp only [go_sem, ↓reduceIte, reduceCtorEq, Nat.reduceAdd, Nat.reduceMul, Nat.reduceSub, Nat.reduceLT, Nat.reduceLeDiff, Nat.reduceEqDiff, Nat.reduceBEq, Nat.reduceBneDiff, Int.reduceToNat, Int.reduceEq, hD] at hcv); simp only [go_sem, ↓reduceIte, reduceCtorEq, Nat.reduceAdd, Nat.reduceMul, Nat.reduceSub, Nat.reduceLT, Nat.reduceLeDiff, Nat.reduceEqDiff, Nat.reduceBEq, Nat.reduceBneDiff, Int.reduceToNat, Int.reduceEq, hD, hfind, hcv]; (first | (apply hK; clear hK K) | ((iterate 1 (clear hK K)); apply hK; clear hK K) | ((iterate 2 (clear hK K)); apply hK; clear hK K) | ((iterate 3 (clear hK K)); apply hK; clear hK K) | ((iterate 4 (clear hK K)); apply hK; clear hK K) | ((iterate 5 (clear hK K)); apply hK; clear hK K)); refine SW.le (hle _) ?_; clear hle hfind hcv hcells) | (with_reducible refine And.intro (by omega) ?_) | (refine SW.seq_k fun K hK => ?_) | (refine SW.block ?_) | ((first | refine SW.region ?_ | refine SW.regionZ (id := 12) (Checked.mixed Tryz.checked) ((.one 0 [0, 8, 9] (.one 1 [1, 2, 3, 7, 8, 9] (.one 2 [2, 3, 7, 8, 9] (.one 3 [3, 7, 8, 9] (.one 4 [4, 5, 6, 7, 8, 9] (.one 5 [5, 6, 7, 8, 9] (.one 6 [6, 7, 8, 9] (.alt 7 (.alt 8 (.one 9 [9] .done) .nil) .nil)))))))) : OZ) (by kernel_rfl) ?_ | refine SW.regionD (Checked.mixed Tryz.checked) (by kernel_rfl) ?_ | refine SW.cond ?_ | refine SW.skip ?_ | refine SW.exit ?_ | refine SW.ret ?_ | (refine allF_i fun b hb => ?_; replace hD := And.intro hb hD; clear hb; try simp only [fresh_cons, fresh_nil, and_true, ne_eq, neF] at hD) | simp only [appK, appOsK]); try simp only [go_sem, ↓reduceIte, reduceCtorEq, Nat.reduceAdd, Nat.reduceMul, Nat.reduceSub, Nat.reduceLT, Nat.reduceLeDiff, Nat.reduceEqDiff, Nat.reduceBEq, Nat.reduceBneDiff, Int.reduceToNat, Int.reduceEq, hD, h1i, ie, i0, w1, x1, x2, n1, n2, b1, b2]) | (refine And.intro (by omega) ?_) | (refine ifI (fun hc => ?_) (fun hc => ?_) <;> first | (exfalso; omega) | skip) | (first | (apply hK; clear hK K) | ((iterate 1 (clear hK K)); apply hK; clear hK K) | ((iterate 2 (clear hK K)); apply hK; clear hK K) | ((iterate 3 (clear hK K)); apply hK; clear hK K) | ((iterate 4 (clear hK K)); apply hK; clear hK K) | ((iterate 5 (clear hK K)); apply hK; clear hK K)) | (refine And.intro ?_ ?_)
    · rw [q_b (.inl (by omega))] at st
      rw [← st] at hB
      refine Rnd.sub (s.size - (j + 1)) (by omega) ((hI _ _).2 ⟨j + 1, _, _, rfl, by omega, hB, rfl⟩) (by repeat' (first | exact rfl | exact trivial | exact int_eq (by omega) | exact int_eq (by (rw [i64_wrap] <;> omega)) | constructor))
    · rw [q_b (.inr (by omega))] at st
      rw [← st] at hB
      refine Rnd.sub (s.size - (j + 1)) (by omega) ((hI _ _).2 ⟨j + 1, _, _, rfl, by omega, hB, rfl⟩) (by repeat' (first | exact rfl | exact trivial | exact int_eq (by omega) | exact int_eq (by (rw [i64_wrap] <;> omega)) | constructor))
    · rw [q_n (by omega)] at st
      rw [← st] at hB
      refine Rnd.sub (s.size - (j + 1)) (by omega) ((hI _ _).2 ⟨j + 1, _, _, rfl, by omega, hB, rfl⟩) (by repeat' (first | exact rfl | exact trivial | exact int_eq (by omega) | exact int_eq (by (rw [i64_wrap] <;> omega)) | constructor))
    · rw [q_hex (by omega), ← hcl, ← hch] at st
      rw [← st] at hB
      refine Rnd.sub (s.size - (j + 1)) (by omega) ((hI _ _).2 ⟨j + 1, _, _, rfl, by omega, hB, rfl⟩) (by repeat' (first | exact rfl | exact trivial | exact int_eq (by omega) | exact int_eq (by (rw [i64_wrap] <;> omega)) | constructor))
    · rw [q_hex (by omega), ← hcl, ← hch] at st
      rw [← st] at hB
      refine Rnd.sub (s.size - (j + 1)) (by omega) ((hI _ _).2 ⟨j + 1, _, _, rfl, by omega, hB, rfl⟩) (by repeat' (first | exact rfl | exact trivial | exact int_eq (by omega) | exact int_eq (by (rw [i64_wrap] <;> omega)) | constructor))
    · rw [q_plain (by omega)] at st
      rw [← st] at hB
      refine Rnd.sub (s.size - (j + 1)) (by omega) ((hI _ _).2 ⟨j + 1, _, _, rfl, by omega, hB, rfl⟩) (by repeat' (first | exact rfl | exact trivial | exact int_eq (by omega) | exact int_eq (by (rw [i64_wrap] <;> omega)) | constructor))
  · have h1i : ¬ ((j : Nat) : Int) < ((s.size : Nat) : Int) := by omega
    have e := accL_end (l := s.data.toList) (j := j) (by omega)
    repeat' first | ((with_reducible refine appK_byts (l2 := [34]) hB ?_ ?_ ?_ ?_ ?_ ?_ ?_ ?_ ?_); (iterate 8 (first | rfl | exact hD | exact hD.1 | exact hD.2.1 | exact hD.2.2.1 | exact Nat.succ_pos _ | (simp only [List.length_cons, List.length_nil]; omega))); intro b' blk' h' h'' n3 hn3 hfind hcells hcv hB' hle; clear hB; have hB := hB'; clear hB'; (try simp only [go_sem, ↓reduceIte, reduceCtorEq, Nat.reduceAdd, Nat.reduceMul, Nat.reduceSub, Nat.reduceLT, Nat.reduceLeDiff, Nat.reduceEqDiff, Nat.reduceBEq, Nat.reduceBneDiff, Int.reduceToNat, Int.reduceEq, hD] at hcv); simp only [go_sem, ↓reduceIte, reduceCtorEq, Nat.reduceAdd, Nat.reduceMul, Nat.reduceSub, Nat.reduceLT, Nat.reduceLeDiff, Nat.reduceEqDiff, Nat.reduceBEq, Nat.reduceBneDiff, Int.reduceToNat, Int.reduceEq, hD, hfind, hcv]; (first | (apply hK; clear hK K) | ((iterate 1 (clear hK K)); apply hK; clear hK K) | ((iterate 2 (clear hK K)); apply hK; clear hK K) | ((iterate 3 (clear hK K)); apply hK; clear hK K) | ((iterate 4 (clear hK K)); apply hK; clear hK K) | ((iterate 5 (clear hK K)); apply hK; clear hK K)); refine SW.le (hle _) ?_; clear hle hfind hcv hcells) | (with_reducible refine And.intro (by omega) ?_) | (refine SW.seq_k fun K hK => ?_) | (refine SW.block ?_) | ((first | refine SW.region ?_ | refine SW.regionZ (id := 12) (Checked.mixed Tryz.checked) ((.one 0 [0, 8, 9] (.one 1 [1, 2, 3, 7, 8, 9] (.one 2 [2, 3, 7, 8, 9] (.one 3 [3, 7, 8, 9] (.one 4 [4, 5, 6, 7, 8, 9] (.one 5 [5, 6, 7, 8, 9] (.one 6 [6, 7, 8, 9] (.alt 7 (.alt 8 (.one 9 [9] .done) .nil) .nil)))))))) : OZ) (by kernel_rfl) ?_ | refine SW.regionD (Checked.mixed Tryz.checked) (by kernel_rfl) ?_ | refine SW.cond ?_ | refine SW.skip ?_ | refine SW.exit ?_ | refine SW.ret ?_ | (refine allF_i fun b hb => ?_; replace hD := And.intro hb hD; clear hb; try simp only [fresh_cons, fresh_nil, and_true, ne_eq, neF] at hD) | simp only [appK, appOsK]); try simp only [go_sem, ↓reduceIte, reduceCtorEq, Nat.reduceAdd, Nat.reduceMul, Nat.reduceSub, Nat.reduceLT, Nat.reduceLeDiff, Nat.reduceEqDiff, Nat.reduceBEq, Nat.reduceBneDiff, Int.reduceToNat, Int.reduceEq, hD, h1i]) | (refine And.intro (by omega) ?_) | (refine ifI (fun hc => ?_) (fun hc => ?_) <;> first | (exfalso; omega) | skip) | (first | (apply hK; clear hK K) | ((iterate 1 (clear hK K)); apply hK; clear hK K) | ((iterate 2 (clear hK K)); apply hK; clear hK K) | ((iterate 3 (clear hK K)); apply hK; clear hK K) | ((iterate 4 (clear hK K)); apply hK; clear hK K) | ((iterate 5 (clear hK K)); apply hK; clear hK K)) | (refine And.intro ?_ ?_)
    refine ret_pure ?_; simp only [resL_tmp, resL_nil, tupOf, go_sem, ↓reduceIte, reduceCtorEq, Nat.reduceAdd, Nat.reduceMul, Nat.reduceSub, Nat.reduceLT, Nat.reduceLeDiff, Nat.reduceEqDiff, Nat.reduceBEq, Nat.reduceBneDiff, Int.reduceToNat, Int.reduceEq, hD]
    rw [e]
    rfl
end Go.Proofs.YtajbifibhgppfaaGreatDoor
/- Contract: Digits of the reference. -/
set_option linter.unusedSimpArgs false
set_option linter.unusedVariables false
set_option linter.unusedSectionVars false
namespace Go.Ab
open Go
/-- A number's decimal digits. -/
def dec (u : Nat) : ByteArray := ⟨(Lib.decDigits u).toArray⟩
theorem dec_size (u : Nat) : (dec u).size = Lib.nDigits u := by
  show (Lib.decDigits u).toArray.size = _
  rw [List.size_toArray, Lib.decDigits_length]
theorem dec_one : ∀ u : Fin 10, (⟨#[48, 49, 50, 51, 52, 53, 54, 55, 56, 57]⟩ : ByteArray).extract u.val (u.val + 1) = ⟨#[UInt8.ofNat (48 + u.val)]⟩ := by decide +kernel
theorem barr_data {a b : ByteArray} (h : a.data.toList = b.data.toList) : a = b := by
  cases a; cases b
  simp only at h
  rw [Array.toList_inj.1 h]
theorem dec_app {u : Nat} (h : ¬ u < 10) : dec (u / 10) ++ dec (u % 10) = dec u := by
  refine barr_data ?_
  rw [ByteArray.data_append, Array.toList_append]
  show Lib.decDigits (u / 10) ++ Lib.decDigits (u % 10) = Lib.decDigits u
  rw [Lib.decDigits.eq_def u, dif_neg h, Lib.decDigits.eq_def (u % 10), dif_pos (by omega)]
end Go.Ab
namespace Go.Proofs.YtajbifibhgppfaaGreatDoor
open Go Go.Ab
variable [Gl] [Tabs]

set_option maxRecDepth 20000 in
theorem digits_n (u : Nat) : u ≤ 9223372036854775807 → PCall Tryz.prog 71 [I64 u] (Str (dec u)) := by
  induction u using Nat.strongRecOn with
  | _ u ih =>
    intro hu
    have c1 : ¬ (u : Int) = -9223372036854775808 := by omega
    have c2 : ¬ (u : Int) < 0 := by omega
    by_cases h : u < 10
    · have c3 : (u : Int) < 10 := by omega
      have e1 : IntKind.i64.wrap ((u : Int) + 1) = ((u + 1 : Nat) : Int) := by rw [i64_wrap (by omega) (by omega)]; omega
      have e2 : ((u + 1 : Nat) : Int).toNat = u + 1 := Int.toNat_natCast _
      have e3 : dec u = ⟨#[UInt8.ofNat (48 + u)]⟩ := by unfold dec; rw [Lib.decDigits_one h]
      have e4 := dec_one ⟨u, h⟩
      simp only at e4
      rw [e3, ← e4]
      clear e3 e4
      refine Call.enter' (N := 24) (rs := [.tmp 2]) Tryz.func71 rfl rfl rfl (by decide) rfl ?_; simp only [argT]; have hD : (0 : Nat) = 0 := rfl
      repeat' first | (with_reducible refine And.intro (by omega) ?_) | (refine SW.seq_k fun K hK => ?_) | (refine SW.block ?_) | ((first | refine SW.region ?_ | refine SW.regionD (Checked.mixed Tryz.checked) (by kernel_rfl) ?_ | refine SW.cond ?_ | refine SW.skip ?_ | refine SW.exit ?_ | refine SW.ret ?_ | (refine allF_i fun b hb => ?_; replace hD := And.intro hb hD; clear hb; try simp only [fresh_cons, fresh_nil, and_true, ne_eq, neF] at hD) | simp only [appK, appOsK]); try simp only [go_sem, ↓reduceIte, reduceCtorEq, Nat.reduceAdd, Nat.reduceMul, Nat.reduceSub, Nat.reduceLT, Nat.reduceLeDiff, Nat.reduceEqDiff, Nat.reduceBEq, Nat.reduceBneDiff, Int.reduceToNat, Int.reduceEq, hD, c1, c2, c3, e1, e2]) | (refine And.intro (by omega) ?_) | (refine ifI (fun hc => ?_) (fun hc => ?_) <;> first | (exfalso; omega) | skip) | (first | (apply hK; clear hK K) | ((iterate 1 (clear hK K)); apply hK; clear hK K) | ((iterate 2 (clear hK K)); apply hK; clear hK K) | ((iterate 3 (clear hK K)); apply hK; clear hK K) | ((iterate 4 (clear hK K)); apply hK; clear hK K) | ((iterate 5 (clear hK K)); apply hK; clear hK K))
      refine ret_pure ?_; simp only [resL_tmp, resL_nil, tupOf, go_sem, ↓reduceIte, reduceCtorEq, Nat.reduceAdd, Nat.reduceMul, Nat.reduceSub, Nat.reduceLT, Nat.reduceLeDiff, Nat.reduceEqDiff, Nat.reduceBEq, Nat.reduceBneDiff, Int.reduceToNat, Int.reduceEq, hD]
    · have c3 : ¬ (u : Int) < 10 := by omega
      have q1 : IntKind.i64.wrap (Int.tdiv (u : Int) 10) = ((u / 10 : Nat) : Int) := by
        rw [show Int.tdiv (u : Int) 10 = ((u / 10 : Nat) : Int) from (Int.ofNat_tdiv u 10).symm]
        exact i64_wrap (by omega) (by omega)
      have r1 : Int.tmod (u : Int) 10 = ((u % 10 : Nat) : Int) := (Int.ofNat_tmod u 10).symm
      have i1 := ih (u / 10) (by omega) (by omega)
      have i2 := ih (u % 10) (by omega) (by omega)
      have s1 := Lib.nDigits_le20 (u / 10) (by omega)
      have s2 := Lib.nDigits_le20 (u % 10) (by omega)
      rw [← dec_size] at s1 s2
      rw [← dec_app h]
      refine Call.enter' (N := 24) (rs := [.tmp 2]) Tryz.func71 rfl rfl rfl (by decide) rfl ?_; simp only [argT]; have hD : (0 : Nat) = 0 := rfl
      repeat' first | (with_reducible refine And.intro (by omega) ?_) | (refine SW.seq_k fun K hK => ?_) | (refine SW.block ?_) | ((first | refine SW.region ?_ | refine SW.regionD (Checked.mixed Tryz.checked) (by kernel_rfl) ?_ | refine SW.cond ?_ | refine SW.skip ?_ | refine SW.exit ?_ | refine SW.ret ?_ | refine Call.of_pure (i1) ?_ | refine ⟨_, i1, ?_⟩ | refine Call.of_pure (i2) ?_ | refine ⟨_, i2, ?_⟩ | (refine allF_i fun b hb => ?_; replace hD := And.intro hb hD; clear hb; try simp only [fresh_cons, fresh_nil, and_true, ne_eq, neF] at hD) | simp only [appK, appOsK]); try simp only [go_sem, ↓reduceIte, reduceCtorEq, Nat.reduceAdd, Nat.reduceMul, Nat.reduceSub, Nat.reduceLT, Nat.reduceLeDiff, Nat.reduceEqDiff, Nat.reduceBEq, Nat.reduceBneDiff, Int.reduceToNat, Int.reduceEq, hD, c1, c2, c3, q1, r1]) | (refine And.intro (by omega) ?_) | (refine ifI (fun hc => ?_) (fun hc => ?_) <;> first | (exfalso; omega) | skip) | (first | (apply hK; clear hK K) | ((iterate 1 (clear hK K)); apply hK; clear hK K) | ((iterate 2 (clear hK K)); apply hK; clear hK K) | ((iterate 3 (clear hK K)); apply hK; clear hK K) | ((iterate 4 (clear hK K)); apply hK; clear hK K) | ((iterate 5 (clear hK K)); apply hK; clear hK K))
      refine ret_pure ?_; simp only [resL_tmp, resL_nil, tupOf, go_sem, ↓reduceIte, reduceCtorEq, Nat.reduceAdd, Nat.reduceMul, Nat.reduceSub, Nat.reduceLT, Nat.reduceLeDiff, Nat.reduceEqDiff, Nat.reduceBEq, Nat.reduceBneDiff, Int.reduceToNat, Int.reduceEq, hD]

theorem itoaS_nat (u : Nat) : itoaS (u : Int) = dec u := by unfold itoaS dec; rw [Lib.itoa_nonneg]
theorem itoaS_neg (u : Nat) (h : 1 ≤ u) : itoaS (-(u : Int)) = ⟨#[45]⟩ ++ dec u := by
  refine barr_data ?_
  rw [ByteArray.data_append, Array.toList_append]
  show Lib.itoa (-(u : Int)) = 45 :: Lib.decDigits u
  rw [Lib.itoa_neg u h]
theorem itoaS_min : itoaS (-9223372036854775808) = ⟨#[45, 57, 50, 50, 51, 51, 55, 50, 48, 51, 54, 56, 53, 52, 55, 55, 53, 56, 48, 56]⟩ := by
  have h := itoaS_neg 9223372036854775808 (by decide)
  have e : Lib.nDigits 9223372036854775808 = 19 := Lib.nDigits_unique 18 _ (by decide) (by decide)
  have e2 : Lib.decDigits 9223372036854775808 = [57, 50, 50, 51, 51, 55, 50, 48, 51, 54, 56, 53, 52, 55, 55, 53, 56, 48, 56] := by
    rw [Lib.decDigits_eq, e]
    decide +kernel
  unfold dec at h
  rw [e2] at h
  exact h

set_option maxRecDepth 20000 in
theorem digits_r (n : Int) (hn : In64 n) : PCall Tryz.prog 71 [I64 n] (Str (itoaS n)) := by
  by_cases h0 : 0 ≤ n
  · have h := digits_n n.toNat (by unfold In64 at hn; omega)
    have e : ((n.toNat : Nat) : Int) = n := by omega
    rw [← itoaS_nat, e] at h
    exact h
  · by_cases hm : n = -9223372036854775808
    · subst hm
      rw [itoaS_min]
      refine Call.enter' (N := 24) (rs := [.tmp 2]) Tryz.func71 rfl rfl rfl (by decide) rfl ?_; simp only [argT]; have hD : (0 : Nat) = 0 := rfl
      repeat' first | (with_reducible refine And.intro (by omega) ?_) | (refine SW.seq_k fun K hK => ?_) | (refine SW.block ?_) | ((first | refine SW.region ?_ | refine SW.regionD (Checked.mixed Tryz.checked) (by kernel_rfl) ?_ | refine SW.cond ?_ | refine SW.skip ?_ | refine SW.exit ?_ | refine SW.ret ?_ | (refine allF_i fun b hb => ?_; replace hD := And.intro hb hD; clear hb; try simp only [fresh_cons, fresh_nil, and_true, ne_eq, neF] at hD) | simp only [appK, appOsK]); try simp only [go_sem, ↓reduceIte, reduceCtorEq, Nat.reduceAdd, Nat.reduceMul, Nat.reduceSub, Nat.reduceLT, Nat.reduceLeDiff, Nat.reduceEqDiff, Nat.reduceBEq, Nat.reduceBneDiff, Int.reduceToNat, Int.reduceEq, hD]) | (refine And.intro (by omega) ?_) | (refine ifI (fun hc => ?_) (fun hc => ?_) <;> first | (exfalso; omega) | skip) | (first | (apply hK; clear hK K) | ((iterate 1 (clear hK K)); apply hK; clear hK K) | ((iterate 2 (clear hK K)); apply hK; clear hK K) | ((iterate 3 (clear hK K)); apply hK; clear hK K) | ((iterate 4 (clear hK K)); apply hK; clear hK K) | ((iterate 5 (clear hK K)); apply hK; clear hK K))
      refine ret_pure ?_; simp only [resL_tmp, resL_nil, tupOf, go_sem, ↓reduceIte, reduceCtorEq, Nat.reduceAdd, Nat.reduceMul, Nat.reduceSub, Nat.reduceLT, Nat.reduceLeDiff, Nat.reduceEqDiff, Nat.reduceBEq, Nat.reduceBneDiff, Int.reduceToNat, Int.reduceEq, hD]
    · have h := digits_n n.natAbs (by unfold In64 at hn; omega)
      have e : n = -((n.natAbs : Nat) : Int) := by omega
      have w : IntKind.i64.wrap (0 - n) = ((n.natAbs : Nat) : Int) := by rw [i64_wrap (by unfold In64 at hn; omega) (by unfold In64 at hn; omega)]; omega
      have sz := Lib.nDigits_le20 n.natAbs (by unfold In64 at hn; omega)
      rw [← dec_size] at sz
      have ei : itoaS n = ⟨#[45]⟩ ++ dec n.natAbs := by
        conv => lhs; rw [e]
        exact itoaS_neg _ (by omega)
      rw [ei]
      have c2 : n < 0 := by omega
      refine Call.enter' (N := 24) (rs := [.tmp 2]) Tryz.func71 rfl rfl rfl (by decide) rfl ?_; simp only [argT]; have hD : (0 : Nat) = 0 := rfl
      repeat' first | (with_reducible refine And.intro (by omega) ?_) | (refine SW.seq_k fun K hK => ?_) | (refine SW.block ?_) | ((first | refine SW.region ?_ | refine SW.regionD (Checked.mixed Tryz.checked) (by kernel_rfl) ?_ | refine SW.cond ?_ | refine SW.skip ?_ | refine SW.exit ?_ | refine SW.ret ?_ | refine Call.of_pure (h) ?_ | refine ⟨_, h, ?_⟩ | (refine allF_i fun b hb => ?_; replace hD := And.intro hb hD; clear hb; try simp only [fresh_cons, fresh_nil, and_true, ne_eq, neF] at hD) | simp only [appK, appOsK]); try simp only [go_sem, ↓reduceIte, reduceCtorEq, Nat.reduceAdd, Nat.reduceMul, Nat.reduceSub, Nat.reduceLT, Nat.reduceLeDiff, Nat.reduceEqDiff, Nat.reduceBEq, Nat.reduceBneDiff, Int.reduceToNat, Int.reduceEq, hD, hm, c2, w]) | (refine And.intro (by omega) ?_) | (refine ifI (fun hc => ?_) (fun hc => ?_) <;> first | (exfalso; omega) | skip) | (first | (apply hK; clear hK K) | ((iterate 1 (clear hK K)); apply hK; clear hK K) | ((iterate 2 (clear hK K)); apply hK; clear hK K) | ((iterate 3 (clear hK K)); apply hK; clear hK K) | ((iterate 4 (clear hK K)); apply hK; clear hK K) | ((iterate 5 (clear hK K)); apply hK; clear hK K))
      refine ret_pure ?_; simp only [resL_tmp, resL_nil, tupOf, go_sem, ↓reduceIte, reduceCtorEq, Nat.reduceAdd, Nat.reduceMul, Nat.reduceSub, Nat.reduceLT, Nat.reduceLeDiff, Nat.reduceEqDiff, Nat.reduceBEq, Nat.reduceBneDiff, Int.reduceToNat, Int.reduceEq, hD]
end Go.Proofs.YtajbifibhgppfaaGreatDoor
/- Contracts: Format of the program and of the reference. -/
set_option linter.unusedSimpArgs false
set_option linter.unusedVariables false
set_option linter.unusedSectionVars false
namespace Go.Ab
open Go Go.Ab.A01
/-- The text of a valid value. -/
def fmtS (k n : Int) (s : ByteArray) : ByteArray := if k = 0 then ⟨#[110, 117, 108, 108]⟩ else if k = 1 then itoaS n else if k = 2 then mkB (quoteL s.data.toList) else ⟨#[63]⟩ ++ itoaS n
/-- Format. -/
def fmtV (k n : Int) (s : ByteArray) : ByteArray × Int := if vok k n s = true then (fmtS k n s, 0) else (⟨#[]⟩, 1)
theorem vok_kind {k n : Int} {s : ByteArray} (h : vok k n s = true) : k = 0 ∨ k = 1 ∨ (k = 2 ∧ s.size ≤ 200) ∨ k = 3 := by
  unfold vok at h
  split at h
  · exact .inl (by assumption)
  · split at h
    · exact .inr (.inl (by assumption))
    · split at h
      · refine .inr (.inr (.inl ⟨by assumption, ?_⟩))
        simp only [Bool.and_eq_true, decide_eq_true_eq] at h
        exact h.2
      · split at h
        · exact .inr (.inr (.inr (by assumption)))
        · cases h
end Go.Ab
namespace Go.Proofs.YtajbifibhgppfaaGreatDoor
open Go Go.Ab Go.Ab.A01
variable [Gl] [Tabs]

theorem itoaS_size (n : Int) (h : In64 n) : (itoaS n).size ≤ 21 := by
  show (Lib.itoa n).toArray.size ≤ 21
  rw [List.size_toArray]
  rcases Int.lt_or_le n 0 with h0 | h0
  · have e : n = -((n.natAbs : Nat) : Int) := by omega
    rw [e, Lib.itoa_neg _ (by omega), List.length_cons, Lib.decDigits_length]
    have := Lib.nDigits_le20 n.natAbs (by unfold In64 at h; omega)
    omega
  · have e : n = ((n.natAbs : Nat) : Int) := by omega
    rw [e, Lib.itoa_nonneg, Lib.decDigits_length]
    have := Lib.nDigits_le20 n.natAbs (by unfold In64 at h; omega)
    omega

set_option maxRecDepth 20000 in
theorem format_p (k n : Int) (s : ByteArray) (hn : In64 n) : PCall Tryz.prog 26 [VS k n s] (.tup [Str (fmtV k n s).1, I64 (fmtV k n s).2]) := by
  have v := valid_p k n s
  have f1 := fmtInt_c n hn
  have s1 := itoaS_size n hn
  cases hv : vok k n s with
  | false =>
    rw [hv] at v
    have e : fmtV k n s = (⟨#[]⟩, 1) := by rw [fmtV, if_neg (by rw [hv]; simp)]
    rw [e]
    refine Call.enter' (N := 25) (rs := [.tmp 2, .tmp 3]) Tryz.func26 rfl rfl rfl (by decide) rfl ?_; simp only [argT]; have hD : (0 : Nat) = 0 := rfl
    repeat' first | (with_reducible refine And.intro (by omega) ?_) | (refine SW.seq_k fun K hK => ?_) | (refine SW.block ?_) | ((first | refine SW.region ?_ | refine SW.regionD (Checked.mixed Tryz.checked) (by kernel_rfl) ?_ | refine SW.cond ?_ | refine SW.skip ?_ | refine SW.exit ?_ | refine SW.ret ?_ | refine Call.of_pure (v) ?_ | refine ⟨_, v, ?_⟩ | (refine allF_i fun b hb => ?_; replace hD := And.intro hb hD; clear hb; try simp only [fresh_cons, fresh_nil, and_true, ne_eq, neF] at hD) | simp only [appK, appOsK]); try simp only [go_sem, ↓reduceIte, reduceCtorEq, Nat.reduceAdd, Nat.reduceMul, Nat.reduceSub, Nat.reduceLT, Nat.reduceLeDiff, Nat.reduceEqDiff, Nat.reduceBEq, Nat.reduceBneDiff, Int.reduceToNat, Int.reduceEq, hD]) | (refine And.intro (by omega) ?_) | (refine ifI (fun hc => ?_) (fun hc => ?_) <;> first | (exfalso; omega) | skip) | (first | (apply hK; clear hK K) | ((iterate 1 (clear hK K)); apply hK; clear hK K) | ((iterate 2 (clear hK K)); apply hK; clear hK K) | ((iterate 3 (clear hK K)); apply hK; clear hK K) | ((iterate 4 (clear hK K)); apply hK; clear hK K) | ((iterate 5 (clear hK K)); apply hK; clear hK K))
    refine ret_pure ?_; simp only [resL_tmp, resL_nil, tupOf, go_sem, ↓reduceIte, reduceCtorEq, Nat.reduceAdd, Nat.reduceMul, Nat.reduceSub, Nat.reduceLT, Nat.reduceLeDiff, Nat.reduceEqDiff, Nat.reduceBEq, Nat.reduceBneDiff, Int.reduceToNat, Int.reduceEq, hD]
  | true =>
    rw [hv] at v
    have e : fmtV k n s = (fmtS k n s, 0) := by rw [fmtV, if_pos hv]
    rw [e]
    clear e
    unfold fmtS
    rcases vok_kind hv with rfl | rfl | ⟨rfl, hs⟩ | rfl
    · rw [if_pos rfl]
      refine Call.enter' (N := 25) (rs := [.tmp 2, .tmp 3]) Tryz.func26 rfl rfl rfl (by decide) rfl ?_; simp only [argT]; have hD : (0 : Nat) = 0 := rfl
      repeat' first | (with_reducible refine And.intro (by omega) ?_) | (refine SW.seq_k fun K hK => ?_) | (refine SW.block ?_) | ((first | refine SW.region ?_ | refine SW.regionD (Checked.mixed Tryz.checked) (by kernel_rfl) ?_ | refine SW.cond ?_ | refine SW.skip ?_ | refine SW.exit ?_ | refine SW.ret ?_ | refine Call.of_pure (v) ?_ | refine ⟨_, v, ?_⟩ | refine Call.of_pure (f1) ?_ | refine ⟨_, f1, ?_⟩ | (refine allF_i fun b hb => ?_; replace hD := And.intro hb hD; clear hb; try simp only [fresh_cons, fresh_nil, and_true, ne_eq, neF] at hD) | simp only [appK, appOsK]); try simp only [go_sem, ↓reduceIte, reduceCtorEq, Nat.reduceAdd, Nat.reduceMul, Nat.reduceSub, Nat.reduceLT, Nat.reduceLeDiff, Nat.reduceEqDiff, Nat.reduceBEq, Nat.reduceBneDiff, Int.reduceToNat, Int.reduceEq, hD]) | (refine And.intro (by omega) ?_) | (refine ifI (fun hc => ?_) (fun hc => ?_) <;> first | (exfalso; omega) | skip) | (first | (apply hK; clear hK K) | ((iterate 1 (clear hK K)); apply hK; clear hK K) | ((iterate 2 (clear hK K)); apply hK; clear hK K) | ((iterate 3 (clear hK K)); apply hK; clear hK K) | ((iterate 4 (clear hK K)); apply hK; clear hK K) | ((iterate 5 (clear hK K)); apply hK; clear hK K))
      refine ret_pure ?_; simp only [resL_tmp, resL_nil, tupOf, go_sem, ↓reduceIte, reduceCtorEq, Nat.reduceAdd, Nat.reduceMul, Nat.reduceSub, Nat.reduceLT, Nat.reduceLeDiff, Nat.reduceEqDiff, Nat.reduceBEq, Nat.reduceBneDiff, Int.reduceToNat, Int.reduceEq, hD]
    · rw [if_neg (by decide), if_pos rfl]
      refine Call.enter' (N := 25) (rs := [.tmp 2, .tmp 3]) Tryz.func26 rfl rfl rfl (by decide) rfl ?_; simp only [argT]; have hD : (0 : Nat) = 0 := rfl
      repeat' first | (with_reducible refine And.intro (by omega) ?_) | (refine SW.seq_k fun K hK => ?_) | (refine SW.block ?_) | ((first | refine SW.region ?_ | refine SW.regionD (Checked.mixed Tryz.checked) (by kernel_rfl) ?_ | refine SW.cond ?_ | refine SW.skip ?_ | refine SW.exit ?_ | refine SW.ret ?_ | refine Call.of_pure (v) ?_ | refine ⟨_, v, ?_⟩ | refine Call.of_pure (f1) ?_ | refine ⟨_, f1, ?_⟩ | (refine allF_i fun b hb => ?_; replace hD := And.intro hb hD; clear hb; try simp only [fresh_cons, fresh_nil, and_true, ne_eq, neF] at hD) | simp only [appK, appOsK]); try simp only [go_sem, ↓reduceIte, reduceCtorEq, Nat.reduceAdd, Nat.reduceMul, Nat.reduceSub, Nat.reduceLT, Nat.reduceLeDiff, Nat.reduceEqDiff, Nat.reduceBEq, Nat.reduceBneDiff, Int.reduceToNat, Int.reduceEq, hD]) | (refine And.intro (by omega) ?_) | (refine ifI (fun hc => ?_) (fun hc => ?_) <;> first | (exfalso; omega) | skip) | (first | (apply hK; clear hK K) | ((iterate 1 (clear hK K)); apply hK; clear hK K) | ((iterate 2 (clear hK K)); apply hK; clear hK K) | ((iterate 3 (clear hK K)); apply hK; clear hK K) | ((iterate 4 (clear hK K)); apply hK; clear hK K) | ((iterate 5 (clear hK K)); apply hK; clear hK K))
      refine ret_pure ?_; simp only [resL_tmp, resL_nil, tupOf, go_sem, ↓reduceIte, reduceCtorEq, Nat.reduceAdd, Nat.reduceMul, Nat.reduceSub, Nat.reduceLT, Nat.reduceLeDiff, Nat.reduceEqDiff, Nat.reduceBEq, Nat.reduceBneDiff, Int.reduceToNat, Int.reduceEq, hD]
    · rw [if_neg (by decide), if_neg (by decide), if_pos rfl]
      have f2 := quoted_p s (by omega)
      refine Call.enter' (N := 25) (rs := [.tmp 2, .tmp 3]) Tryz.func26 rfl rfl rfl (by decide) rfl ?_; simp only [argT]; have hD : (0 : Nat) = 0 := rfl
      repeat' first | (with_reducible refine And.intro (by omega) ?_) | (refine SW.seq_k fun K hK => ?_) | (refine SW.block ?_) | ((first | refine SW.region ?_ | refine SW.regionD (Checked.mixed Tryz.checked) (by kernel_rfl) ?_ | refine SW.cond ?_ | refine SW.skip ?_ | refine SW.exit ?_ | refine SW.ret ?_ | refine Call.of_pure (v) ?_ | refine ⟨_, v, ?_⟩ | refine Call.of_pure (f1) ?_ | refine ⟨_, f1, ?_⟩ | refine Call.of_pure (f2) ?_ | refine ⟨_, f2, ?_⟩ | (refine allF_i fun b hb => ?_; replace hD := And.intro hb hD; clear hb; try simp only [fresh_cons, fresh_nil, and_true, ne_eq, neF] at hD) | simp only [appK, appOsK]); try simp only [go_sem, ↓reduceIte, reduceCtorEq, Nat.reduceAdd, Nat.reduceMul, Nat.reduceSub, Nat.reduceLT, Nat.reduceLeDiff, Nat.reduceEqDiff, Nat.reduceBEq, Nat.reduceBneDiff, Int.reduceToNat, Int.reduceEq, hD]) | (refine And.intro (by omega) ?_) | (refine ifI (fun hc => ?_) (fun hc => ?_) <;> first | (exfalso; omega) | skip) | (first | (apply hK; clear hK K) | ((iterate 1 (clear hK K)); apply hK; clear hK K) | ((iterate 2 (clear hK K)); apply hK; clear hK K) | ((iterate 3 (clear hK K)); apply hK; clear hK K) | ((iterate 4 (clear hK K)); apply hK; clear hK K) | ((iterate 5 (clear hK K)); apply hK; clear hK K))
      refine ret_pure ?_; simp only [resL_tmp, resL_nil, tupOf, go_sem, ↓reduceIte, reduceCtorEq, Nat.reduceAdd, Nat.reduceMul, Nat.reduceSub, Nat.reduceLT, Nat.reduceLeDiff, Nat.reduceEqDiff, Nat.reduceBEq, Nat.reduceBneDiff, Int.reduceToNat, Int.reduceEq, hD]
    · rw [if_neg (by decide), if_neg (by decide), if_neg (by decide)]
      refine Call.enter' (N := 25) (rs := [.tmp 2, .tmp 3]) Tryz.func26 rfl rfl rfl (by decide) rfl ?_; simp only [argT]; have hD : (0 : Nat) = 0 := rfl
      repeat' first | (with_reducible refine And.intro (by omega) ?_) | (refine SW.seq_k fun K hK => ?_) | (refine SW.block ?_) | ((first | refine SW.region ?_ | refine SW.regionD (Checked.mixed Tryz.checked) (by kernel_rfl) ?_ | refine SW.cond ?_ | refine SW.skip ?_ | refine SW.exit ?_ | refine SW.ret ?_ | refine Call.of_pure (v) ?_ | refine ⟨_, v, ?_⟩ | refine Call.of_pure (f1) ?_ | refine ⟨_, f1, ?_⟩ | (refine allF_i fun b hb => ?_; replace hD := And.intro hb hD; clear hb; try simp only [fresh_cons, fresh_nil, and_true, ne_eq, neF] at hD) | simp only [appK, appOsK]); try simp only [go_sem, ↓reduceIte, reduceCtorEq, Nat.reduceAdd, Nat.reduceMul, Nat.reduceSub, Nat.reduceLT, Nat.reduceLeDiff, Nat.reduceEqDiff, Nat.reduceBEq, Nat.reduceBneDiff, Int.reduceToNat, Int.reduceEq, hD]) | (refine And.intro (by omega) ?_) | (refine ifI (fun hc => ?_) (fun hc => ?_) <;> first | (exfalso; omega) | skip) | (first | (apply hK; clear hK K) | ((iterate 1 (clear hK K)); apply hK; clear hK K) | ((iterate 2 (clear hK K)); apply hK; clear hK K) | ((iterate 3 (clear hK K)); apply hK; clear hK K) | ((iterate 4 (clear hK K)); apply hK; clear hK K) | ((iterate 5 (clear hK K)); apply hK; clear hK K))
      refine ret_pure ?_; simp only [resL_tmp, resL_nil, tupOf, go_sem, ↓reduceIte, reduceCtorEq, Nat.reduceAdd, Nat.reduceMul, Nat.reduceSub, Nat.reduceLT, Nat.reduceLeDiff, Nat.reduceEqDiff, Nat.reduceBEq, Nat.reduceBneDiff, Int.reduceToNat, Int.reduceEq, hD]

set_option maxRecDepth 20000 in
theorem format_r (k n : Int) (s : ByteArray) (hn : In64 n) : PCall Tryz.prog 62 [VS k n s] (.tup [Str (fmtV k n s).1, I64 (fmtV k n s).2]) := by
  have v := valid_r k n s
  have f1 := digits_r n hn
  have s1 := itoaS_size n hn
  cases hv : vok k n s with
  | false =>
    rw [hv] at v
    have e : fmtV k n s = (⟨#[]⟩, 1) := by rw [fmtV, if_neg (by rw [hv]; simp)]
    rw [e]
    refine Call.enter' (N := 25) (rs := [.tmp 2, .tmp 3]) Tryz.func62 rfl rfl rfl (by decide) rfl ?_; simp only [argT]; have hD : (0 : Nat) = 0 := rfl
    repeat' first | (with_reducible refine And.intro (by omega) ?_) | (refine SW.seq_k fun K hK => ?_) | (refine SW.block ?_) | ((first | refine SW.region ?_ | refine SW.regionD (Checked.mixed Tryz.checked) (by kernel_rfl) ?_ | refine SW.cond ?_ | refine SW.skip ?_ | refine SW.exit ?_ | refine SW.ret ?_ | refine Call.of_pure (v) ?_ | refine ⟨_, v, ?_⟩ | (refine allF_i fun b hb => ?_; replace hD := And.intro hb hD; clear hb; try simp only [fresh_cons, fresh_nil, and_true, ne_eq, neF] at hD) | simp only [appK, appOsK]); try simp only [go_sem, ↓reduceIte, reduceCtorEq, Nat.reduceAdd, Nat.reduceMul, Nat.reduceSub, Nat.reduceLT, Nat.reduceLeDiff, Nat.reduceEqDiff, Nat.reduceBEq, Nat.reduceBneDiff, Int.reduceToNat, Int.reduceEq, hD]) | (refine And.intro (by omega) ?_) | (refine ifI (fun hc => ?_) (fun hc => ?_) <;> first | (exfalso; omega) | skip) | (first | (apply hK; clear hK K) | ((iterate 1 (clear hK K)); apply hK; clear hK K) | ((iterate 2 (clear hK K)); apply hK; clear hK K) | ((iterate 3 (clear hK K)); apply hK; clear hK K) | ((iterate 4 (clear hK K)); apply hK; clear hK K) | ((iterate 5 (clear hK K)); apply hK; clear hK K))
    refine ret_pure ?_; simp only [resL_tmp, resL_nil, tupOf, go_sem, ↓reduceIte, reduceCtorEq, Nat.reduceAdd, Nat.reduceMul, Nat.reduceSub, Nat.reduceLT, Nat.reduceLeDiff, Nat.reduceEqDiff, Nat.reduceBEq, Nat.reduceBneDiff, Int.reduceToNat, Int.reduceEq, hD]
  | true =>
    rw [hv] at v
    have e : fmtV k n s = (fmtS k n s, 0) := by rw [fmtV, if_pos hv]
    rw [e]
    clear e
    unfold fmtS
    rcases vok_kind hv with rfl | rfl | ⟨rfl, hs⟩ | rfl
    · rw [if_pos rfl]
      refine Call.enter' (N := 25) (rs := [.tmp 2, .tmp 3]) Tryz.func62 rfl rfl rfl (by decide) rfl ?_; simp only [argT]; have hD : (0 : Nat) = 0 := rfl
      repeat' first | (with_reducible refine And.intro (by omega) ?_) | (refine SW.seq_k fun K hK => ?_) | (refine SW.block ?_) | ((first | refine SW.region ?_ | refine SW.regionD (Checked.mixed Tryz.checked) (by kernel_rfl) ?_ | refine SW.cond ?_ | refine SW.skip ?_ | refine SW.exit ?_ | refine SW.ret ?_ | refine Call.of_pure (v) ?_ | refine ⟨_, v, ?_⟩ | refine Call.of_pure (f1) ?_ | refine ⟨_, f1, ?_⟩ | (refine allF_i fun b hb => ?_; replace hD := And.intro hb hD; clear hb; try simp only [fresh_cons, fresh_nil, and_true, ne_eq, neF] at hD) | simp only [appK, appOsK]); try simp only [go_sem, ↓reduceIte, reduceCtorEq, Nat.reduceAdd, Nat.reduceMul, Nat.reduceSub, Nat.reduceLT, Nat.reduceLeDiff, Nat.reduceEqDiff, Nat.reduceBEq, Nat.reduceBneDiff, Int.reduceToNat, Int.reduceEq, hD]) | (refine And.intro (by omega) ?_) | (refine ifI (fun hc => ?_) (fun hc => ?_) <;> first | (exfalso; omega) | skip) | (first | (apply hK; clear hK K) | ((iterate 1 (clear hK K)); apply hK; clear hK K) | ((iterate 2 (clear hK K)); apply hK; clear hK K) | ((iterate 3 (clear hK K)); apply hK; clear hK K) | ((iterate 4 (clear hK K)); apply hK; clear hK K) | ((iterate 5 (clear hK K)); apply hK; clear hK K))
      refine ret_pure ?_; simp only [resL_tmp, resL_nil, tupOf, go_sem, ↓reduceIte, reduceCtorEq, Nat.reduceAdd, Nat.reduceMul, Nat.reduceSub, Nat.reduceLT, Nat.reduceLeDiff, Nat.reduceEqDiff, Nat.reduceBEq, Nat.reduceBneDiff, Int.reduceToNat, Int.reduceEq, hD]
    · rw [if_neg (by decide), if_pos rfl]
      refine Call.enter' (N := 25) (rs := [.tmp 2, .tmp 3]) Tryz.func62 rfl rfl rfl (by decide) rfl ?_; simp only [argT]; have hD : (0 : Nat) = 0 := rfl
      repeat' first | (with_reducible refine And.intro (by omega) ?_) | (refine SW.seq_k fun K hK => ?_) | (refine SW.block ?_) | ((first | refine SW.region ?_ | refine SW.regionD (Checked.mixed Tryz.checked) (by kernel_rfl) ?_ | refine SW.cond ?_ | refine SW.skip ?_ | refine SW.exit ?_ | refine SW.ret ?_ | refine Call.of_pure (v) ?_ | refine ⟨_, v, ?_⟩ | refine Call.of_pure (f1) ?_ | refine ⟨_, f1, ?_⟩ | (refine allF_i fun b hb => ?_; replace hD := And.intro hb hD; clear hb; try simp only [fresh_cons, fresh_nil, and_true, ne_eq, neF] at hD) | simp only [appK, appOsK]); try simp only [go_sem, ↓reduceIte, reduceCtorEq, Nat.reduceAdd, Nat.reduceMul, Nat.reduceSub, Nat.reduceLT, Nat.reduceLeDiff, Nat.reduceEqDiff, Nat.reduceBEq, Nat.reduceBneDiff, Int.reduceToNat, Int.reduceEq, hD]) | (refine And.intro (by omega) ?_) | (refine ifI (fun hc => ?_) (fun hc => ?_) <;> first | (exfalso; omega) | skip) | (first | (apply hK; clear hK K) | ((iterate 1 (clear hK K)); apply hK; clear hK K) | ((iterate 2 (clear hK K)); apply hK; clear hK K) | ((iterate 3 (clear hK K)); apply hK; clear hK K) | ((iterate 4 (clear hK K)); apply hK; clear hK K) | ((iterate 5 (clear hK K)); apply hK; clear hK K))
      refine ret_pure ?_; simp only [resL_tmp, resL_nil, tupOf, go_sem, ↓reduceIte, reduceCtorEq, Nat.reduceAdd, Nat.reduceMul, Nat.reduceSub, Nat.reduceLT, Nat.reduceLeDiff, Nat.reduceEqDiff, Nat.reduceBEq, Nat.reduceBneDiff, Int.reduceToNat, Int.reduceEq, hD]
    · rw [if_neg (by decide), if_neg (by decide), if_pos rfl]
      have f2 := quote_r s (by omega)
      refine Call.enter' (N := 25) (rs := [.tmp 2, .tmp 3]) Tryz.func62 rfl rfl rfl (by decide) rfl ?_; simp only [argT]; have hD : (0 : Nat) = 0 := rfl
      repeat' first | (with_reducible refine And.intro (by omega) ?_) | (refine SW.seq_k fun K hK => ?_) | (refine SW.block ?_) | ((first | refine SW.region ?_ | refine SW.regionD (Checked.mixed Tryz.checked) (by kernel_rfl) ?_ | refine SW.cond ?_ | refine SW.skip ?_ | refine SW.exit ?_ | refine SW.ret ?_ | refine Call.of_pure (v) ?_ | refine ⟨_, v, ?_⟩ | refine Call.of_pure (f1) ?_ | refine ⟨_, f1, ?_⟩ | refine Call.of_pure (f2) ?_ | refine ⟨_, f2, ?_⟩ | (refine allF_i fun b hb => ?_; replace hD := And.intro hb hD; clear hb; try simp only [fresh_cons, fresh_nil, and_true, ne_eq, neF] at hD) | simp only [appK, appOsK]); try simp only [go_sem, ↓reduceIte, reduceCtorEq, Nat.reduceAdd, Nat.reduceMul, Nat.reduceSub, Nat.reduceLT, Nat.reduceLeDiff, Nat.reduceEqDiff, Nat.reduceBEq, Nat.reduceBneDiff, Int.reduceToNat, Int.reduceEq, hD]) | (refine And.intro (by omega) ?_) | (refine ifI (fun hc => ?_) (fun hc => ?_) <;> first | (exfalso; omega) | skip) | (first | (apply hK; clear hK K) | ((iterate 1 (clear hK K)); apply hK; clear hK K) | ((iterate 2 (clear hK K)); apply hK; clear hK K) | ((iterate 3 (clear hK K)); apply hK; clear hK K) | ((iterate 4 (clear hK K)); apply hK; clear hK K) | ((iterate 5 (clear hK K)); apply hK; clear hK K))
      refine ret_pure ?_; simp only [resL_tmp, resL_nil, tupOf, go_sem, ↓reduceIte, reduceCtorEq, Nat.reduceAdd, Nat.reduceMul, Nat.reduceSub, Nat.reduceLT, Nat.reduceLeDiff, Nat.reduceEqDiff, Nat.reduceBEq, Nat.reduceBneDiff, Int.reduceToNat, Int.reduceEq, hD]
    · rw [if_neg (by decide), if_neg (by decide), if_neg (by decide)]
      refine Call.enter' (N := 25) (rs := [.tmp 2, .tmp 3]) Tryz.func62 rfl rfl rfl (by decide) rfl ?_; simp only [argT]; have hD : (0 : Nat) = 0 := rfl
      repeat' first | (with_reducible refine And.intro (by omega) ?_) | (refine SW.seq_k fun K hK => ?_) | (refine SW.block ?_) | ((first | refine SW.region ?_ | refine SW.regionD (Checked.mixed Tryz.checked) (by kernel_rfl) ?_ | refine SW.cond ?_ | refine SW.skip ?_ | refine SW.exit ?_ | refine SW.ret ?_ | refine Call.of_pure (v) ?_ | refine ⟨_, v, ?_⟩ | refine Call.of_pure (f1) ?_ | refine ⟨_, f1, ?_⟩ | (refine allF_i fun b hb => ?_; replace hD := And.intro hb hD; clear hb; try simp only [fresh_cons, fresh_nil, and_true, ne_eq, neF] at hD) | simp only [appK, appOsK]); try simp only [go_sem, ↓reduceIte, reduceCtorEq, Nat.reduceAdd, Nat.reduceMul, Nat.reduceSub, Nat.reduceLT, Nat.reduceLeDiff, Nat.reduceEqDiff, Nat.reduceBEq, Nat.reduceBneDiff, Int.reduceToNat, Int.reduceEq, hD]) | (refine And.intro (by omega) ?_) | (refine ifI (fun hc => ?_) (fun hc => ?_) <;> first | (exfalso; omega) | skip) | (first | (apply hK; clear hK K) | ((iterate 1 (clear hK K)); apply hK; clear hK K) | ((iterate 2 (clear hK K)); apply hK; clear hK K) | ((iterate 3 (clear hK K)); apply hK; clear hK K) | ((iterate 4 (clear hK K)); apply hK; clear hK K) | ((iterate 5 (clear hK K)); apply hK; clear hK K))
      refine ret_pure ?_; simp only [resL_tmp, resL_nil, tupOf, go_sem, ↓reduceIte, reduceCtorEq, Nat.reduceAdd, Nat.reduceMul, Nat.reduceSub, Nat.reduceLT, Nat.reduceLeDiff, Nat.reduceEqDiff, Nat.reduceBEq, Nat.reduceBneDiff, Int.reduceToNat, Int.reduceEq, hD]
end Go.Proofs.YtajbifibhgppfaaGreatDoor
/- Contract: strconv.ParseUint at base 16 and 8 bits, of two bytes at most. -/
set_option linter.unusedSimpArgs false
set_option linter.unusedVariables false
set_option linter.unusedSectionVars false
namespace Go.Ab
open Go Go.Ab.A01
/-- What the inner ParseUint hands back. -/
def hexR (o : Option Nat) : SV := match o with
  | some n => .tup [U64 n, .sc .nilIface]
  | .none => .tup [U64 0, .sc (.iface 103 (.int .i64 2))]
theorem reps_scs {E : Env} {vs : Array Value} (l : List Value) (h : Reps E vs (l.map SV.sc)) : vs = l.toArray := by
  obtain ⟨h1, h2⟩ := h
  rw [List.length_map] at h1 h2
  apply Array.ext
  · rw [h1]; simp
  · intro i hi hi2
    have hl : i < l.length := by omega
    have h0 := h2 i hl
    have e1 : vs.getD i undef = vs[i] := by simp [Array.getD, hi]
    have e2 : (l.map SV.sc).getD i .any = .sc l[i] := by simp [List.getD_eq_getElem?_getD, hl]
    rw [e1, e2] at h0
    rw [rep_sc h0]
    simp
end Go.Ab
namespace Go.Proofs.YtajbifibhgppfaaGreatDoor
open Go Go.Ab Go.Ab.A01
variable [Gl] [Tabs]

theorem lower_c (c : UInt8) : PCall Tryz.prog 95 [.sc (.int .u8 (c.toNat : Int))] (.sc (.int .u8 ((c.toNat ||| 32 : Nat) : Int))) :=
  PCall.of_calls ⟨_, Tryz.func95, by kernel_rfl, by kernel_rfl⟩ fun w E vs _ _ _ hr => by
    obtain rfl := reps1 hr
    refine (Tryz.internal_strconv_lower (c.toNat : Int) w).mono fun e w' ⟨he, hw⟩ => ⟨_, he, fun _ => ?_, by rw [hw]; exact RowKit.Below.refl _ _⟩
    have h := u8_or_nat c.toNat 32 c.toNat_lt (by decide)
    rw [show ((32 : Nat) : Int) = 32 from rfl] at h
    rw [h]
    exact .sc _

set_option maxHeartbeats 4000000 in
set_option maxRecDepth 20000 in
theorem puint_c (t : ByteArray) (ht : t.size ≤ 2) : PCall Tryz.prog 88 [Str t, I64 16, I64 8] (hexR (hexO t.data.toList)) := by
  have ls : t.data.toList.length = t.size := Array.length_toList
  obtain ⟨R, hR⟩ : ∃ R, R = hexR (hexO t.data.toList) := ⟨_, rfl⟩
  rw [← hR]
  unfold hexO at hR
  cases hE : (t.toList == (⟨#[]⟩ : ByteArray).toList) with
  | true =>
    rw [if_pos (barr_empty.1 hE)] at hR
    refine Call.enter' (N := 172) (rs := [.tmp 6, .tmp 7]) Tryz.func88 rfl rfl rfl (by decide) rfl ?_; simp only [argT]; have hD : (0 : Nat) = 0 := rfl
    repeat' first | (with_reducible refine And.intro (by omega) ?_) | (refine SW.seq_k fun K hK => ?_) | (refine SW.block ?_) | ((first | refine SW.region ?_ | refine SW.regionD (Checked.mixed Tryz.checked) (by kernel_rfl) ?_ | refine SW.cond ?_ | refine SW.skip ?_ | refine SW.exit ?_ | refine SW.ret ?_ | (refine allF_i fun b hb => ?_; replace hD := And.intro hb hD; clear hb; try simp only [fresh_cons, fresh_nil, and_true, ne_eq, neF] at hD) | simp only [appK, appOsK]); try simp only [go_sem, ↓reduceIte, reduceCtorEq, Nat.reduceAdd, Nat.reduceMul, Nat.reduceSub, Nat.reduceLT, Nat.reduceLeDiff, Nat.reduceEqDiff, Nat.reduceBEq, Nat.reduceBneDiff, Int.reduceToNat, Int.reduceEq, hD, hE, Tryz.underlying103]) | (refine And.intro (by omega) ?_) | (refine ifI (fun hc => ?_) (fun hc => ?_) <;> first | (exfalso; omega) | skip) | (first | (apply hK; clear hK K) | ((iterate 1 (clear hK K)); apply hK; clear hK K) | ((iterate 2 (clear hK K)); apply hK; clear hK K) | ((iterate 3 (clear hK K)); apply hK; clear hK K) | ((iterate 4 (clear hK K)); apply hK; clear hK K) | ((iterate 5 (clear hK K)); apply hK; clear hK K))
    refine ret_pure ?_; simp only [resL_tmp, resL_nil, tupOf, go_sem, ↓reduceIte, reduceCtorEq, Nat.reduceAdd, Nat.reduceMul, Nat.reduceSub, Nat.reduceLT, Nat.reduceLeDiff, Nat.reduceEqDiff, Nat.reduceBEq, Nat.reduceBneDiff, Int.reduceToNat, Int.reduceEq, hD]
    rw [hR]
    rfl
  | false =>
    rw [if_neg (fun x => by rw [barr_empty.2 x] at hE; cases hE)] at hR
    refine Call.enter' (N := 172) (rs := [.tmp 6, .tmp 7]) Tryz.func88 rfl rfl rfl (by decide) rfl ?_; simp only [argT]; have hD : (0 : Nat) = 0 := rfl
    repeat' first | (with_reducible refine And.intro (by omega) ?_) | (refine SW.seq_k fun K hK => ?_) | (refine SW.block ?_) | ((first | refine SW.region ?_ | refine SW.regionD (Checked.mixed Tryz.checked) (by kernel_rfl) ?_ | refine SW.cond ?_ | refine SW.skip ?_ | refine SW.exit ?_ | refine SW.ret ?_ | (refine allF_i fun b hb => ?_; replace hD := And.intro hb hD; clear hb; try simp only [fresh_cons, fresh_nil, and_true, ne_eq, neF] at hD) | simp only [appK, appOsK]); try simp only [go_sem, ↓reduceIte, reduceCtorEq, Nat.reduceAdd, Nat.reduceMul, Nat.reduceSub, Nat.reduceLT, Nat.reduceLeDiff, Nat.reduceEqDiff, Nat.reduceBEq, Nat.reduceBneDiff, Int.reduceToNat, Int.reduceEq, hD, hE, Tryz.underlying103]) | (refine And.intro (by omega) ?_) | (refine ifI (fun hc => ?_) (fun hc => ?_) <;> first | (exfalso; omega) | skip) | (first | (apply hK; clear hK K) | ((iterate 1 (clear hK K)); apply hK; clear hK K) | ((iterate 2 (clear hK K)); apply hK; clear hK K) | ((iterate 3 (clear hK K)); apply hK; clear hK K) | ((iterate 4 (clear hK K)); apply hK; clear hK K) | ((iterate 5 (clear hK K)); apply hK; clear hK K))
    obtain ⟨I, hI⟩ : ∃ I : Nat → St → Prop, ∀ k S, I k S ↔ (∃ (i n : Nat), k = t.size - i ∧ i ≤ t.size ∧ hexF 0 (t.data.toList.take i) = some n ∧ S = ⟨[(0, Str t), (1, I64 16), (2, I64 8), (8, SB false), (9, Str t), (10, U64 1152921504606846976), (11, U64 255), (12, SB false), (13, U64 n), (99, strBytes t), (100, I64 t.size), (101, I64 i)], []⟩) := ⟨fun k S => _, fun _ _ => Iff.rfl⟩
    refine SW.loop' I t.size ((hI _ _).2 ⟨0, 0, rfl, Nat.zero_le _, rfl, rfl⟩) (by repeat' (first | exact rfl | exact trivial | exact int_eq (by omega) | exact int_eq (by (rw [i64_wrap] <;> omega)) | constructor)) ?_
    intro k S hIn
    obtain ⟨i, n, rfl, hi, hn, rfl⟩ := (hI _ _).1 hIn
    clear hIn
    unfold strBytes
    have ie : ((i : Nat) : Int).toNat = i := Int.toNat_natCast _
    have i0 : (0 : Int) ≤ ((i : Nat) : Int) := by omega
    have hn2 : n < 16 ^ i := by
      have h := hexF_lt _ 0 n 0 (by decide) hn
      rw [Nat.zero_add, List.length_take] at h
      exact Nat.lt_of_lt_of_le h (Nat.pow_le_pow_right (by decide) (Nat.min_le_left _ _))
    by_cases hlt : i < t.size
    · have h1i : ((i : Nat) : Int) < ((t.size : Nat) : Int) := by omega
      have w1 : IntKind.i64.wrap ((i : Int) + 1) = ((i + 1 : Nat) : Int) := by rw [i64_wrap (by omega) (by omega)]; omega
      obtain ⟨st1, st2⟩ := hexF_step (by rw [ls]; exact hlt) hn
      have hp : (16 : Nat) ^ i ≤ 16 ^ 1 := Nat.pow_le_pow_right (by decide) (by omega)
      rw [Nat.pow_one] at hp
      obtain ⟨c, hc⟩ : ∃ c, c = t.data.toList.getD i 0 := ⟨_, rfl⟩
      rw [← hc] at st1 st2
      have hcc : t.data.toList.getD i 0 = c := hc.symm
      have low := lower_c c
      have c8 := c.toNat_lt
      obtain ⟨lo, hlo⟩ : ∃ lo, lo = c.toNat ||| 32 := ⟨_, rfl⟩
      rw [← hlo] at low
      have lo8 : lo < 256 := by rw [hlo]; exact Nat.or_lt_two_pow (n := 8) (by omega) (by decide)
      have k1 : IntKind.u8.wrap 16 = 16 := by decide
      have k2 : IntKind.u64.wrap 16 = 16 := by decide
      have k3 : IntKind.u64.wrap ((n : Int) * 16) = ((n * 16 : Nat) : Int) := by rw [u64n (by omega) (by omega)]; omega
      by_cases hA : 48 ≤ c.toNat ∧ c.toNat ≤ 57
      · have hd : dv c = some (c.toNat - 48) := by unfold dv; rw [if_pos hA]
        have e1 : IntKind.u8.wrap (((c.toNat : Nat) : Int) - 48) = ((c.toNat - 48 : Nat) : Int) := by rw [u8n (by omega) (by omega)]; omega
        have e2 : IntKind.u64.wrap ((c.toNat - 48 : Nat) : Int) = ((c.toNat - 48 : Nat) : Int) := u64n (by omega) (by omega)
        have e3 : IntKind.u64.wrap (((n * 16 : Nat) : Int) + ((c.toNat - 48 : Nat) : Int)) = ((n * 16 + (c.toNat - 48) : Nat) : Int) := by rw [u64n (by omega) (by omega)]; omega
        repeat' first | (with_reducible refine And.intro (by omega) ?_) | (refine SW.seq_k fun K hK => ?_) | (refine SW.block ?_) | ((first | refine SW.region ?_ | refine SW.regionD (Checked.mixed Tryz.checked) (by kernel_rfl) ?_ | refine SW.cond ?_ | refine SW.skip ?_ | refine SW.exit ?_ | refine SW.ret ?_ | refine Call.of_pure (low) ?_ | refine ⟨_, low, ?_⟩ | (refine allF_i fun b hb => ?_; replace hD := And.intro hb hD; clear hb; try simp only [fresh_cons, fresh_nil, and_true, ne_eq, neF] at hD) | simp only [appK, appOsK]); try simp only [go_sem, ↓reduceIte, reduceCtorEq, Nat.reduceAdd, Nat.reduceMul, Nat.reduceSub, Nat.reduceLT, Nat.reduceLeDiff, Nat.reduceEqDiff, Nat.reduceBEq, Nat.reduceBneDiff, Int.reduceToNat, Int.reduceEq, hD, h1i, ie, i0, hcc, w1, k1, k2, k3, e1, e2, e3, Tryz.underlying103]) | (refine And.intro (by omega) ?_) | (refine ifI (fun hc => ?_) (fun hc => ?_) <;> first | (exfalso; omega) | skip) | (first | (apply hK; clear hK K) | ((iterate 1 (clear hK K)); apply hK; clear hK K) | ((iterate 2 (clear hK K)); apply hK; clear hK K) | ((iterate 3 (clear hK K)); apply hK; clear hK K) | ((iterate 4 (clear hK K)); apply hK; clear hK K) | ((iterate 5 (clear hK K)); apply hK; clear hK K))
        all_goals refine Rnd.sub (t.size - (i + 1)) (by omega) ((hI _ _).2 ⟨i + 1, _, rfl, by omega, st1 _ hd, rfl⟩) (by repeat' (first | exact rfl | exact trivial | exact int_eq (by omega) | exact int_eq (by (rw [i64_wrap] <;> omega)) | constructor))
      · by_cases hB : 97 ≤ lo ∧ lo ≤ 102
        · have hd : dv c = some (lo - 87) := by unfold dv; rw [if_neg hA, if_pos (by rw [← hlo]; exact hB), ← hlo]
          have e1 : IntKind.u8.wrap ((lo : Int) - 97) = ((lo - 97 : Nat) : Int) := by rw [u8n (by omega) (by omega)]; omega
          have e1b : IntKind.u8.wrap (((lo - 97 : Nat) : Int) + 10) = ((lo - 87 : Nat) : Int) := by rw [u8n (by omega) (by omega)]; omega
          have e2 : IntKind.u64.wrap ((lo - 87 : Nat) : Int) = ((lo - 87 : Nat) : Int) := u64n (by omega) (by omega)
          have e3 : IntKind.u64.wrap (((n * 16 : Nat) : Int) + ((lo - 87 : Nat) : Int)) = ((n * 16 + (lo - 87) : Nat) : Int) := by rw [u64n (by omega) (by omega)]; omega
          repeat' first | (with_reducible refine And.intro (by omega) ?_) | (refine SW.seq_k fun K hK => ?_) | (refine SW.block ?_) | ((first | refine SW.region ?_ | refine SW.regionD (Checked.mixed Tryz.checked) (by kernel_rfl) ?_ | refine SW.cond ?_ | refine SW.skip ?_ | refine SW.exit ?_ | refine SW.ret ?_ | refine Call.of_pure (low) ?_ | refine ⟨_, low, ?_⟩ | (refine allF_i fun b hb => ?_; replace hD := And.intro hb hD; clear hb; try simp only [fresh_cons, fresh_nil, and_true, ne_eq, neF] at hD) | simp only [appK, appOsK]); try simp only [go_sem, ↓reduceIte, reduceCtorEq, Nat.reduceAdd, Nat.reduceMul, Nat.reduceSub, Nat.reduceLT, Nat.reduceLeDiff, Nat.reduceEqDiff, Nat.reduceBEq, Nat.reduceBneDiff, Int.reduceToNat, Int.reduceEq, hD, h1i, ie, i0, hcc, w1, k1, k2, k3, e1, e1b, e2, e3, Tryz.underlying103]) | (refine And.intro (by omega) ?_) | (refine ifI (fun hc => ?_) (fun hc => ?_) <;> first | (exfalso; omega) | skip) | (first | (apply hK; clear hK K) | ((iterate 1 (clear hK K)); apply hK; clear hK K) | ((iterate 2 (clear hK K)); apply hK; clear hK K) | ((iterate 3 (clear hK K)); apply hK; clear hK K) | ((iterate 4 (clear hK K)); apply hK; clear hK K) | ((iterate 5 (clear hK K)); apply hK; clear hK K))
          all_goals refine Rnd.sub (t.size - (i + 1)) (by omega) ((hI _ _).2 ⟨i + 1, _, rfl, by omega, st1 _ hd, rfl⟩) (by repeat' (first | exact rfl | exact trivial | exact int_eq (by omega) | exact int_eq (by (rw [i64_wrap] <;> omega)) | constructor))
        · have hd : dv c = none := by unfold dv; rw [if_neg hA, if_neg (by rw [← hlo]; exact hB)]
          rw [st2 hd] at hR
          have e1 : 97 ≤ lo → IntKind.u8.wrap ((lo : Int) - 97) = ((lo - 97 : Nat) : Int) := fun h => by rw [u8n (by omega) (by omega)]; omega
          have e1b : lo ≤ 122 → IntKind.u8.wrap (((lo - 97 : Nat) : Int) + 10) = ((lo - 97 + 10 : Nat) : Int) := fun h => by rw [u8n (by omega) (by omega)]; omega
          by_cases hC : 97 ≤ lo ∧ lo ≤ 122
          · replace e1 := e1 hC.1
            replace e1b := e1b hC.2
            repeat' first | (with_reducible refine And.intro (by omega) ?_) | (refine SW.seq_k fun K hK => ?_) | (refine SW.block ?_) | ((first | refine SW.region ?_ | refine SW.regionD (Checked.mixed Tryz.checked) (by kernel_rfl) ?_ | refine SW.cond ?_ | refine SW.skip ?_ | refine SW.exit ?_ | refine SW.ret ?_ | refine Call.of_pure (low) ?_ | refine ⟨_, low, ?_⟩ | (refine allF_i fun b hb => ?_; replace hD := And.intro hb hD; clear hb; try simp only [fresh_cons, fresh_nil, and_true, ne_eq, neF] at hD) | simp only [appK, appOsK]); try simp only [go_sem, ↓reduceIte, reduceCtorEq, Nat.reduceAdd, Nat.reduceMul, Nat.reduceSub, Nat.reduceLT, Nat.reduceLeDiff, Nat.reduceEqDiff, Nat.reduceBEq, Nat.reduceBneDiff, Int.reduceToNat, Int.reduceEq, hD, h1i, ie, i0, hcc, w1, k1, k2, k3, e1, e1b, Tryz.underlying103]) | (refine And.intro (by omega) ?_) | (refine ifI (fun hc => ?_) (fun hc => ?_) <;> first | (exfalso; omega) | skip) | (first | (apply hK; clear hK K) | ((iterate 1 (clear hK K)); apply hK; clear hK K) | ((iterate 2 (clear hK K)); apply hK; clear hK K) | ((iterate 3 (clear hK K)); apply hK; clear hK K) | ((iterate 4 (clear hK K)); apply hK; clear hK K) | ((iterate 5 (clear hK K)); apply hK; clear hK K))
            all_goals
              refine ret_pure ?_; simp only [resL_tmp, resL_nil, tupOf, go_sem, ↓reduceIte, reduceCtorEq, Nat.reduceAdd, Nat.reduceMul, Nat.reduceSub, Nat.reduceLT, Nat.reduceLeDiff, Nat.reduceEqDiff, Nat.reduceBEq, Nat.reduceBneDiff, Int.reduceToNat, Int.reduceEq, hD]
              rw [hR]
              rfl
          · repeat' first | (with_reducible refine And.intro (by omega) ?_) | (refine SW.seq_k fun K hK => ?_) | (refine SW.block ?_) | ((first | refine SW.region ?_ | refine SW.regionD (Checked.mixed Tryz.checked) (by kernel_rfl) ?_ | refine SW.cond ?_ | refine SW.skip ?_ | refine SW.exit ?_ | refine SW.ret ?_ | refine Call.of_pure (low) ?_ | refine ⟨_, low, ?_⟩ | (refine allF_i fun b hb => ?_; replace hD := And.intro hb hD; clear hb; try simp only [fresh_cons, fresh_nil, and_true, ne_eq, neF] at hD) | simp only [appK, appOsK]); try simp only [go_sem, ↓reduceIte, reduceCtorEq, Nat.reduceAdd, Nat.reduceMul, Nat.reduceSub, Nat.reduceLT, Nat.reduceLeDiff, Nat.reduceEqDiff, Nat.reduceBEq, Nat.reduceBneDiff, Int.reduceToNat, Int.reduceEq, hD, h1i, ie, i0, hcc, w1, k1, k2, k3, Tryz.underlying103]) | (refine And.intro (by omega) ?_) | (refine ifI (fun hc => ?_) (fun hc => ?_) <;> first | (exfalso; omega) | skip) | (first | (apply hK; clear hK K) | ((iterate 1 (clear hK K)); apply hK; clear hK K) | ((iterate 2 (clear hK K)); apply hK; clear hK K) | ((iterate 3 (clear hK K)); apply hK; clear hK K) | ((iterate 4 (clear hK K)); apply hK; clear hK K) | ((iterate 5 (clear hK K)); apply hK; clear hK K))
            all_goals
              refine ret_pure ?_; simp only [resL_tmp, resL_nil, tupOf, go_sem, ↓reduceIte, reduceCtorEq, Nat.reduceAdd, Nat.reduceMul, Nat.reduceSub, Nat.reduceLT, Nat.reduceLeDiff, Nat.reduceEqDiff, Nat.reduceBEq, Nat.reduceBneDiff, Int.reduceToNat, Int.reduceEq, hD]
              rw [hR]
              rfl
    · have h1i : ¬ ((i : Nat) : Int) < ((t.size : Nat) : Int) := by omega
      rw [List.take_of_length_le (by omega)] at hn
      rw [hn] at hR
      repeat' first | (with_reducible refine And.intro (by omega) ?_) | (refine SW.seq_k fun K hK => ?_) | (refine SW.block ?_) | ((first | refine SW.region ?_ | refine SW.regionD (Checked.mixed Tryz.checked) (by kernel_rfl) ?_ | refine SW.cond ?_ | refine SW.skip ?_ | refine SW.exit ?_ | refine SW.ret ?_ | (refine allF_i fun b hb => ?_; replace hD := And.intro hb hD; clear hb; try simp only [fresh_cons, fresh_nil, and_true, ne_eq, neF] at hD) | simp only [appK, appOsK]); try simp only [go_sem, ↓reduceIte, reduceCtorEq, Nat.reduceAdd, Nat.reduceMul, Nat.reduceSub, Nat.reduceLT, Nat.reduceLeDiff, Nat.reduceEqDiff, Nat.reduceBEq, Nat.reduceBneDiff, Int.reduceToNat, Int.reduceEq, hD, h1i]) | (refine And.intro (by omega) ?_) | (refine ifI (fun hc => ?_) (fun hc => ?_) <;> first | (exfalso; omega) | skip) | (first | (apply hK; clear hK K) | ((iterate 1 (clear hK K)); apply hK; clear hK K) | ((iterate 2 (clear hK K)); apply hK; clear hK K) | ((iterate 3 (clear hK K)); apply hK; clear hK K) | ((iterate 4 (clear hK K)); apply hK; clear hK K) | ((iterate 5 (clear hK K)); apply hK; clear hK K))
      refine ret_pure ?_; simp only [resL_tmp, resL_nil, tupOf, go_sem, ↓reduceIte, reduceCtorEq, Nat.reduceAdd, Nat.reduceMul, Nat.reduceSub, Nat.reduceLT, Nat.reduceLeDiff, Nat.reduceEqDiff, Nat.reduceBEq, Nat.reduceBneDiff, Int.reduceToNat, Int.reduceEq, hD]
      rw [hR]
      rfl

theorem toError_c (t : ByteArray) (ht : t.size ≤ 2) : ECall Tryz.prog 82 [Str ⟨#[80, 97, 114, 115, 101, 85, 105, 110, 116]⟩, Str t, I64 16, I64 8, .sc (.iface 103 (.int .i64 2))] (fun r => ∃ a b, r = .sc (.iface a b)) :=
  ECall.of_calls ⟨_, Tryz.func82, by kernel_rfl, by kernel_rfl⟩ fun w E vs h3 h4 h5 hr => by
    obtain rfl := reps_scs [.string ⟨#[80, 97, 114, 115, 101, 85, 105, 110, 116]⟩, .string t, .int .i64 16, .int .i64 8, .iface 103 (.int .i64 2)] hr
    obtain ⟨a4, b4, e4⟩ := Tabs.gs
    have v4 := var_of e4 h5 h3
    exact (Tryz.strconv_toError_syntax _ t 16 8 _ w (by omega) v4 (.inr ⟨a4, b4, rfl⟩)).mono fun e w' ⟨N, he, _, _, bel⟩ => ⟨_, _, he, ⟨_, _, rfl⟩, fun _ => .sc _, bel⟩

/-- The number that ParseUint hands back. -/
def puN (t : ByteArray) : Nat := (hexO t.data.toList).getD 0

set_option maxRecDepth 20000 in
theorem parseUint_c (t : ByteArray) (ht : t.size ≤ 2) : ECall Tryz.prog 80 [Str t, I64 16, I64 8] (fun r => ∃ e, r = .tup [U64 (puN t), .sc e]) := by
  have pc := puint_c t ht
  have te := toError_c t ht
  unfold puN
  cases hx : hexO t.data.toList with
  | some n =>
    rw [hx] at pc
    unfold hexR at pc
    simp only at pc
    refine Call.enter' (N := 26) (rs := [.tmp 6, .tmp 7]) Tryz.func80 rfl rfl rfl (by decide) rfl ?_; simp only [argT]; have hD : (0 : Nat) = 0 := rfl
    repeat' first | (with_reducible refine And.intro (by omega) ?_) | (refine SW.seq_k fun K hK => ?_) | (refine SW.block ?_) | ((first | refine SW.region ?_ | refine SW.regionD (Checked.mixed Tryz.checked) (by kernel_rfl) ?_ | refine SW.cond ?_ | refine SW.skip ?_ | refine SW.exit ?_ | refine SW.ret ?_ | refine Call.of_pure (pc) ?_ | refine ⟨_, pc, ?_⟩ | (refine allF_i fun b hb => ?_; replace hD := And.intro hb hD; clear hb; try simp only [fresh_cons, fresh_nil, and_true, ne_eq, neF] at hD) | simp only [appK, appOsK]); try simp only [go_sem, ↓reduceIte, reduceCtorEq, Nat.reduceAdd, Nat.reduceMul, Nat.reduceSub, Nat.reduceLT, Nat.reduceLeDiff, Nat.reduceEqDiff, Nat.reduceBEq, Nat.reduceBneDiff, Int.reduceToNat, Int.reduceEq, hD]) | (refine And.intro (by omega) ?_) | (refine ifI (fun hc => ?_) (fun hc => ?_) <;> first | (exfalso; omega) | skip) | (first | (apply hK; clear hK K) | ((iterate 1 (clear hK K)); apply hK; clear hK K) | ((iterate 2 (clear hK K)); apply hK; clear hK K) | ((iterate 3 (clear hK K)); apply hK; clear hK K) | ((iterate 4 (clear hK K)); apply hK; clear hK K) | ((iterate 5 (clear hK K)); apply hK; clear hK K))
    refine retQ_ret ?_
    simp only [resL_tmp, resL_nil, tupOf, go_sem, ↓reduceIte, reduceCtorEq, Nat.reduceAdd, Nat.reduceMul, Nat.reduceSub, Nat.reduceLT, Nat.reduceLeDiff, Nat.reduceEqDiff, Nat.reduceBEq, Nat.reduceBneDiff, Int.reduceToNat, Int.reduceEq, hD]
    exact ⟨_, rfl⟩
  | none =>
    rw [hx] at pc
    unfold hexR at pc
    simp only at pc
    refine Call.enter' (N := 26) (rs := [.tmp 6, .tmp 7]) Tryz.func80 rfl rfl rfl (by decide) rfl ?_; simp only [argT]; have hD : (0 : Nat) = 0 := rfl
    repeat' first | (with_reducible refine And.intro (by omega) ?_) | (refine SW.seq_k fun K hK => ?_) | (refine SW.block ?_) | ((first | refine SW.region ?_ | refine SW.regionD (Checked.mixed Tryz.checked) (by kernel_rfl) ?_ | refine SW.cond ?_ | refine SW.skip ?_ | refine SW.exit ?_ | refine SW.ret ?_ | refine Call.of_pure (pc) ?_ | refine ⟨_, pc, ?_⟩ | (refine allF_i fun b hb => ?_; replace hD := And.intro hb hD; clear hb; try simp only [fresh_cons, fresh_nil, and_true, ne_eq, neF] at hD) | simp only [appK, appOsK]); try simp only [go_sem, ↓reduceIte, reduceCtorEq, Nat.reduceAdd, Nat.reduceMul, Nat.reduceSub, Nat.reduceLT, Nat.reduceLeDiff, Nat.reduceEqDiff, Nat.reduceBEq, Nat.reduceBneDiff, Int.reduceToNat, Int.reduceEq, hD]) | (refine And.intro (by omega) ?_) | (refine ifI (fun hc => ?_) (fun hc => ?_) <;> first | (exfalso; omega) | skip) | (first | (apply hK; clear hK K) | ((iterate 1 (clear hK K)); apply hK; clear hK K) | ((iterate 2 (clear hK K)); apply hK; clear hK K) | ((iterate 3 (clear hK K)); apply hK; clear hK K) | ((iterate 4 (clear hK K)); apply hK; clear hK K) | ((iterate 5 (clear hK K)); apply hK; clear hK K))
    refine ECall.use te ?_
    rintro r ⟨a, b, rfl⟩
    repeat' first | (with_reducible refine And.intro (by omega) ?_) | (refine SW.seq_k fun K hK => ?_) | (refine SW.block ?_) | ((first | refine SW.region ?_ | refine SW.regionD (Checked.mixed Tryz.checked) (by kernel_rfl) ?_ | refine SW.cond ?_ | refine SW.skip ?_ | refine SW.exit ?_ | refine SW.ret ?_ | (refine allF_i fun b hb => ?_; replace hD := And.intro hb hD; clear hb; try simp only [fresh_cons, fresh_nil, and_true, ne_eq, neF] at hD) | simp only [appK, appOsK]); try simp only [go_sem, ↓reduceIte, reduceCtorEq, Nat.reduceAdd, Nat.reduceMul, Nat.reduceSub, Nat.reduceLT, Nat.reduceLeDiff, Nat.reduceEqDiff, Nat.reduceBEq, Nat.reduceBneDiff, Int.reduceToNat, Int.reduceEq, hD]) | (refine And.intro (by omega) ?_) | (refine ifI (fun hc => ?_) (fun hc => ?_) <;> first | (exfalso; omega) | skip) | (first | (apply hK; clear hK K) | ((iterate 1 (clear hK K)); apply hK; clear hK K) | ((iterate 2 (clear hK K)); apply hK; clear hK K) | ((iterate 3 (clear hK K)); apply hK; clear hK K) | ((iterate 4 (clear hK K)); apply hK; clear hK K) | ((iterate 5 (clear hK K)); apply hK; clear hK K))
    refine retQ_ret ?_
    simp only [resL_tmp, resL_nil, tupOf, go_sem, ↓reduceIte, reduceCtorEq, Nat.reduceAdd, Nat.reduceMul, Nat.reduceSub, Nat.reduceLT, Nat.reduceLeDiff, Nat.reduceEqDiff, Nat.reduceBEq, Nat.reduceBneDiff, Int.reduceToNat, Int.reduceEq, hD]
    exact ⟨_, rfl⟩
end Go.Proofs.YtajbifibhgppfaaGreatDoor
/- Contract: unquoted of the program. -/
set_option linter.unusedSimpArgs false
set_option linter.unusedVariables false
set_option linter.unusedSectionVars false
namespace Go.Proofs.YtajbifibhgppfaaGreatDoor
open Go Go.Ab Go.Ab.A01
variable [Gl] [Tabs]

/-- The byte that stands behind a backslash and an x, as the program reads it. -/
def hexP (s : ByteArray) (l : List UInt8) (i : Nat) : UInt8 := UInt8.ofNat (puN (s.extract (min i s.size) (min (i + 2) s.size)))

set_option maxHeartbeats 4000000 in
set_option maxRecDepth 20000 in
theorem unquoted_p (s : ByteArray) (hs : s.size ≤ 1000000) : PCall Tryz.prog 68 [Str s] (Str (mkB (unqP (hexP s) s.data.toList s.size 1))) := by
  have ls : s.data.toList.length = s.size := Array.length_toList
  obtain ⟨R, hR⟩ : ∃ R, R = unqP (hexP s) s.data.toList s.size 1 := ⟨_, rfl⟩
  rw [← hR]
  refine Call.enter' (N := 63) (rs := [.tmp 2]) Tryz.func68 rfl rfl rfl (by decide) rfl ?_; simp only [argT]; have hD : (0 : Nat) = 0 := rfl
  repeat' first | (with_reducible refine And.intro (by omega) ?_) | (refine SW.seq_k fun K hK => ?_) | ((first | refine SW.region ?_ | refine SW.regionD (Checked.mixed Tryz.checked) (by kernel_rfl) ?_ | refine SW.cond ?_ | refine SW.skip ?_ | refine SW.exit ?_ | refine SW.ret ?_ | (refine allF_i fun b hb => ?_; replace hD := And.intro hb hD; clear hb; try simp only [fresh_cons, fresh_nil, and_true, ne_eq, neF] at hD) | simp only [appK, appOsK]); try simp only [go_sem, ↓reduceIte, reduceCtorEq, Nat.reduceAdd, Nat.reduceMul, Nat.reduceSub, Nat.reduceLT, Nat.reduceLeDiff, Nat.reduceEqDiff, Nat.reduceBEq, Nat.reduceBneDiff, Int.reduceToNat, Int.reduceEq, hD]) | (refine And.intro (by omega) ?_) | (refine ifI (fun hc => ?_) (fun hc => ?_) <;> first | (exfalso; omega) | skip) | (first | (apply hK; clear hK K) | ((iterate 1 (clear hK K)); apply hK; clear hK K) | ((iterate 2 (clear hK K)); apply hK; clear hK K) | ((iterate 3 (clear hK K)); apply hK; clear hK K) | ((iterate 4 (clear hK K)); apply hK; clear hK K) | ((iterate 5 (clear hK K)); apply hK; clear hK K))
  refine SW.block ?_
  obtain ⟨I, hI⟩ : ∃ I : Nat → St → Prop, ∀ k S, I k S ↔ (∃ (i f : Nat) (l : List UInt8) (x : SV) (h : Heap), k = f ∧ 1 ≤ i ∧ s.size ≤ i + f ∧ i ≤ s.size + 4 ∧ l.length ≤ i ∧ R = l ++ unqP (hexP s) s.data.toList f i ∧ Acc 1 x h [] l.length (byts l) ∧ S = ⟨[(0, Str s), (3, x), (4, I64 i)], h⟩) := ⟨fun k S => _, fun _ _ => Iff.rfl⟩
  refine SW.loop' I s.size ((hI _ _).2 ⟨1, s.size, [], _, _, rfl, Nat.le_refl _, by omega, by omega, Nat.zero_le _, hR, .nil _ _, rfl⟩) (by repeat' (first | exact rfl | exact trivial | exact int_eq (by omega) | exact int_eq (by (rw [i64_wrap] <;> omega)) | constructor)) ?_
  intro f S hIn
  obtain ⟨i, f', l, x, h, rfl, hi1, hif, hi4, hl, hC, hB, rfl⟩ := (hI _ _).1 hIn
  clear hIn
  clear hR
  have ie : ((i : Nat) : Int).toNat = i := Int.toNat_natCast _
  have i0 : (0 : Int) ≤ ((i : Nat) : Int) := by omega
  have ws : IntKind.i64.wrap ((s.size : Int) - 1) = (s.size : Int) - 1 := i64_wrap (by omega) (by omega)
  have w1 : IntKind.i64.wrap ((i : Int) + 1) = ((i + 1 : Nat) : Int) := by rw [i64_wrap (by omega) (by omega)]; omega
  by_cases h1 : i + 1 < s.size
  · have h1i : ((i : Nat) : Int) < ((s.size : Nat) : Int) - 1 := by omega
    obtain ⟨f, rfl⟩ : ∃ g, f = g + 1 := ⟨f - 1, by omega⟩
    unfold unqP at hC
    rw [if_pos (by rw [ls]; exact h1)] at hC
    obtain ⟨c, hc⟩ : ∃ c, c = s.data.toList.getD i 0 := ⟨_, rfl⟩
    rw [← hc] at hC
    replace hc := hc.symm
    have c8 := c.toNat_lt
    by_cases hb : c.toNat = 92
    · rw [if_pos ⟨UInt8.toNat_inj.1 hb, by rw [ls]; exact h1⟩] at hC
      have hbt : decide ((c.toNat : Int) = 92) = true := decide_eq_true (by omega)
      have h2i : ((i + 1 : Nat) : Int) < ((s.size : Nat) : Int) := by omega
      have ie2 : ((i + 1 : Nat) : Int).toNat = i + 1 := Int.toNat_natCast _
      obtain ⟨d, hd⟩ : ∃ d, d = s.data.toList.getD (i + 1) 0 := ⟨_, rfl⟩
      rw [← hd] at hC
      replace hd := hd.symm
      have d8 := d.toNat_lt
      by_cases hn : d.toNat = 110
      · rw [if_pos (UInt8.toNat_inj.1 hn)] at hC
        have hnt : decide ((d.toNat : Int) = 110) = true := decide_eq_true (by omega)
        have w2 : IntKind.i64.wrap (((i + 1 : Nat) : Int) + 1) = ((i + 2 : Nat) : Int) := by rw [i64_wrap (by omega) (by omega)]; omega
        repeat' first | ((with_reducible refine appK_byts (l2 := [10]) hB ?_ ?_ ?_ ?_ ?_ ?_ ?_ ?_ ?_); (iterate 8 (first | rfl | exact hD | exact hD.1 | exact hD.2.1 | exact hD.2.2.1 | exact Nat.succ_pos _ | (simp only [List.length_cons, List.length_nil]; omega))); intro b' blk' h' h'' n3 hn3 hfind hcells hcv hB' hle; clear hB; have hB := hB'; clear hB'; (try simp only [go_sem, ↓reduceIte, reduceCtorEq, Nat.reduceAdd, Nat.reduceMul, Nat.reduceSub, Nat.reduceLT, Nat.reduceLeDiff, Nat.reduceEqDiff, Nat.reduceBEq, Nat.reduceBneDiff, Int.reduceToNat, Int.reduceEq, hD] at hcv); simp only [go_sem, ↓reduceIte, reduceCtorEq, Nat.reduceAdd, Nat.reduceMul, Nat.reduceSub, Nat.reduceLT, Nat.reduceLeDiff, Nat.reduceEqDiff, Nat.reduceBEq, Nat.reduceBneDiff, Int.reduceToNat, Int.reduceEq, hD, hfind, hcv]; (first | (apply hK; clear hK K) | ((iterate 1 (clear hK K)); apply hK; clear hK K) | ((iterate 2 (clear hK K)); apply hK; clear hK K) | ((iterate 3 (clear hK K)); apply hK; clear hK K) | ((iterate 4 (clear hK K)); apply hK; clear hK K) | ((iterate 5 (clear hK K)); apply hK; clear hK K)); refine SW.le (hle _) ?_; clear hle hfind hcv hcells) | (with_reducible refine And.intro (by omega) ?_) | (refine SW.seq_k fun K hK => ?_) | (refine SW.block ?_) | ((first | refine SW.region ?_ | refine SW.regionD (Checked.mixed Tryz.checked) (by kernel_rfl) ?_ | refine SW.cond ?_ | refine SW.skip ?_ | refine SW.exit ?_ | refine SW.ret ?_ | (refine allF_i fun b hb => ?_; replace hD := And.intro hb hD; clear hb; try simp only [fresh_cons, fresh_nil, and_true, ne_eq, neF] at hD) | simp only [appK, appOsK]); try simp only [go_sem, ↓reduceIte, reduceCtorEq, Nat.reduceAdd, Nat.reduceMul, Nat.reduceSub, Nat.reduceLT, Nat.reduceLeDiff, Nat.reduceEqDiff, Nat.reduceBEq, Nat.reduceBneDiff, Int.reduceToNat, Int.reduceEq, hD, h1i, ie, i0, ws, w1, hc, hbt, h2i, ie2, hd, hnt, w2]) | (refine And.intro (by omega) ?_) | (refine ifI (fun hc => ?_) (fun hc => ?_) <;> first | (exfalso; omega) | skip) | (first | (apply hK; clear hK K) | ((iterate 1 (clear hK K)); apply hK; clear hK K) | ((iterate 2 (clear hK K)); apply hK; clear hK K) | ((iterate 3 (clear hK K)); apply hK; clear hK K) | ((iterate 4 (clear hK K)); apply hK; clear hK K) | ((iterate 5 (clear hK K)); apply hK; clear hK K)) | (refine And.intro ?_ ?_)
        refine Rnd.sub f (by omega) ((hI _ _).2 ⟨i + 2, f, l ++ [10], _, _, rfl, by omega, by omega, by omega, by rw [List.length_append]; simp only [List.length_cons, List.length_nil]; omega, by rw [hC, List.append_assoc]; rfl, hB, rfl⟩) (by repeat' (first | exact rfl | exact trivial | exact int_eq (by omega) | exact int_eq (by (rw [i64_wrap] <;> omega)) | constructor))
      · rw [if_neg (fun e => hn (by rw [e]; rfl))] at hC
        have hnt : decide ((d.toNat : Int) = 110) = false := decide_eq_false (by omega)
        by_cases hx : d.toNat = 120
        · rw [if_pos (UInt8.toNat_inj.1 hx)] at hC
          have hxt : decide ((d.toNat : Int) = 120) = true := decide_eq_true (by omega)
          have w2 : IntKind.i64.wrap (((i + 1 : Nat) : Int) + 1) = ((i + 2 : Nat) : Int) := by rw [i64_wrap (by omega) (by omega)]; omega
          have w3 : IntKind.i64.wrap (((i + 1 : Nat) : Int) + 3) = ((i + 4 : Nat) : Int) := by rw [i64_wrap (by omega) (by omega)]; omega
          have w4 : IntKind.i64.wrap (((i + 1 : Nat) : Int) + 2) = ((i + 3 : Nat) : Int) := by rw [i64_wrap (by omega) (by omega)]; omega
          have w5 : IntKind.i64.wrap (((i + 3 : Nat) : Int) + 1) = ((i + 4 : Nat) : Int) := by rw [i64_wrap (by omega) (by omega)]; omega
          have m1 : (if (s.size : Int) < ((i + 2 : Nat) : Int) then (s.size : Int) else ((i + 2 : Nat) : Int)).toNat = min (i + 2) s.size := by split <;> omega
          have m2 : (if (s.size : Int) < ((i + 4 : Nat) : Int) then (s.size : Int) else ((i + 4 : Nat) : Int)).toNat = min (i + 4) s.size := by split <;> omega
          have pu := parseUint_c (s.extract (min (i + 2) s.size) (min (i + 4) s.size)) (by rw [ByteArray.size_extract]; omega)
          obtain ⟨e, he⟩ : ∃ e, e = hexP s s.data.toList (i + 2) := ⟨_, rfl⟩
          have ub : IntKind.u8.wrap ((puN (s.extract (min (i + 2) s.size) (min (i + 4) s.size)) : Nat) : Int) = (e.toNat : Int) := by
            rw [he]
            unfold hexP
            rw [show i + 2 + 2 = i + 4 from rfl, UInt8.toNat_ofNat', IntKind.wrap_u8']
            omega
          rw [← he] at hC
          repeat' first | (with_reducible refine And.intro (by omega) ?_) | (refine SW.seq_k fun K hK => ?_) | (refine SW.block ?_) | ((first | refine SW.region ?_ | refine SW.regionD (Checked.mixed Tryz.checked) (by kernel_rfl) ?_ | refine SW.cond ?_ | refine SW.skip ?_ | refine SW.exit ?_ | refine SW.ret ?_ | (refine allF_i fun b hb => ?_; replace hD := And.intro hb hD; clear hb; try simp only [fresh_cons, fresh_nil, and_true, ne_eq, neF] at hD) | simp only [appK, appOsK]); try simp only [go_sem, ↓reduceIte, reduceCtorEq, Nat.reduceAdd, Nat.reduceMul, Nat.reduceSub, Nat.reduceLT, Nat.reduceLeDiff, Nat.reduceEqDiff, Nat.reduceBEq, Nat.reduceBneDiff, Int.reduceToNat, Int.reduceEq, hD, h1i, ie, i0, ws, w1, hc, hbt, h2i, ie2, hd, hnt, hxt, w2, w3, w4, w5]) | (refine And.intro (by omega) ?_) | (refine ifI (fun hc => ?_) (fun hc => ?_) <;> first | (exfalso; omega) | skip) | (first | (apply hK; clear hK K) | ((iterate 1 (clear hK K)); apply hK; clear hK K) | ((iterate 2 (clear hK K)); apply hK; clear hK K) | ((iterate 3 (clear hK K)); apply hK; clear hK K) | ((iterate 4 (clear hK K)); apply hK; clear hK K) | ((iterate 5 (clear hK K)); apply hK; clear hK K)) | (refine And.intro ?_ ?_)
          rw [m1, m2]
          refine ECall.use pu ?_
          rintro r ⟨er, rfl⟩
          simp only [go_sem, ↓reduceIte, reduceCtorEq, Nat.reduceAdd, Nat.reduceMul, Nat.reduceSub, Nat.reduceLT, Nat.reduceLeDiff, Nat.reduceEqDiff, Nat.reduceBEq, Nat.reduceBneDiff, Int.reduceToNat, Int.reduceEq, hD]
          repeat' first | ((with_reducible refine appK_byts (l2 := [e]) hB ?_ ?_ ?_ ?_ ?_ ?_ ?_ ?_ ?_); (iterate 8 (first | rfl | exact hD | exact hD.1 | exact hD.2.1 | exact hD.2.2.1 | exact Nat.succ_pos _ | (simp only [List.length_cons, List.length_nil]; omega))); intro b' blk' h' h'' n3 hn3 hfind hcells hcv hB' hle; clear hB; have hB := hB'; clear hB'; (try simp only [go_sem, ↓reduceIte, reduceCtorEq, Nat.reduceAdd, Nat.reduceMul, Nat.reduceSub, Nat.reduceLT, Nat.reduceLeDiff, Nat.reduceEqDiff, Nat.reduceBEq, Nat.reduceBneDiff, Int.reduceToNat, Int.reduceEq, hD] at hcv); simp only [go_sem, ↓reduceIte, reduceCtorEq, Nat.reduceAdd, Nat.reduceMul, Nat.reduceSub, Nat.reduceLT, Nat.reduceLeDiff, Nat.reduceEqDiff, Nat.reduceBEq, Nat.reduceBneDiff, Int.reduceToNat, Int.reduceEq, hD, hfind, hcv]; (first | (apply hK; clear hK K) | ((iterate 1 (clear hK K)); apply hK; clear hK K) | ((iterate 2 (clear hK K)); apply hK; clear hK K) | ((iterate 3 (clear hK K)); apply hK; clear hK K) | ((iterate 4 (clear hK K)); apply hK; clear hK K) | ((iterate 5 (clear hK K)); apply hK; clear hK K)); refine SW.le (hle _) ?_; clear hle hfind hcv hcells) | (with_reducible refine And.intro (by omega) ?_) | (refine SW.seq_k fun K hK => ?_) | (refine SW.block ?_) | ((first | refine SW.region ?_ | refine SW.regionD (Checked.mixed Tryz.checked) (by kernel_rfl) ?_ | refine SW.cond ?_ | refine SW.skip ?_ | refine SW.exit ?_ | refine SW.ret ?_ | (refine allF_i fun b hb => ?_; replace hD := And.intro hb hD; clear hb; try simp only [fresh_cons, fresh_nil, and_true, ne_eq, neF] at hD) | simp only [appK, appOsK]); try simp only [go_sem, ↓reduceIte, reduceCtorEq, Nat.reduceAdd, Nat.reduceMul, Nat.reduceSub, Nat.reduceLT, Nat.reduceLeDiff, Nat.reduceEqDiff, Nat.reduceBEq, Nat.reduceBneDiff, Int.reduceToNat, Int.reduceEq, hD, w4, w5, ub]) | (refine And.intro (by omega) ?_) | (refine ifI (fun hc => ?_) (fun hc => ?_) <;> first | (exfalso; omega) | skip) | (first | (apply hK; clear hK K) | ((iterate 1 (clear hK K)); apply hK; clear hK K) | ((iterate 2 (clear hK K)); apply hK; clear hK K) | ((iterate 3 (clear hK K)); apply hK; clear hK K) | ((iterate 4 (clear hK K)); apply hK; clear hK K) | ((iterate 5 (clear hK K)); apply hK; clear hK K)) | (refine And.intro ?_ ?_)
          refine Rnd.sub f (by omega) ((hI _ _).2 ⟨i + 4, f, l ++ [e], _, _, rfl, by omega, by omega, by omega, by rw [List.length_append]; simp only [List.length_cons, List.length_nil]; omega, by rw [hC, List.append_assoc]; rfl, hB, rfl⟩) (by repeat' (first | exact rfl | exact trivial | exact int_eq (by omega) | exact int_eq (by (rw [i64_wrap] <;> omega)) | constructor))
        · rw [if_neg (fun e => hx (by rw [e]; rfl))] at hC
          have hxt : decide ((d.toNat : Int) = 120) = false := decide_eq_false (by omega)
          have w2 : IntKind.i64.wrap (((i + 1 : Nat) : Int) + 1) = ((i + 2 : Nat) : Int) := by rw [i64_wrap (by omega) (by omega)]; omega
          repeat' first | ((with_reducible refine appK_byts (l2 := [d]) hB ?_ ?_ ?_ ?_ ?_ ?_ ?_ ?_ ?_); (iterate 8 (first | rfl | exact hD | exact hD.1 | exact hD.2.1 | exact hD.2.2.1 | exact Nat.succ_pos _ | (simp only [List.length_cons, List.length_nil]; omega))); intro b' blk' h' h'' n3 hn3 hfind hcells hcv hB' hle; clear hB; have hB := hB'; clear hB'; (try simp only [go_sem, ↓reduceIte, reduceCtorEq, Nat.reduceAdd, Nat.reduceMul, Nat.reduceSub, Nat.reduceLT, Nat.reduceLeDiff, Nat.reduceEqDiff, Nat.reduceBEq, Nat.reduceBneDiff, Int.reduceToNat, Int.reduceEq, hD] at hcv); simp only [go_sem, ↓reduceIte, reduceCtorEq, Nat.reduceAdd, Nat.reduceMul, Nat.reduceSub, Nat.reduceLT, Nat.reduceLeDiff, Nat.reduceEqDiff, Nat.reduceBEq, Nat.reduceBneDiff, Int.reduceToNat, Int.reduceEq, hD, hfind, hcv]; (first | (apply hK; clear hK K) | ((iterate 1 (clear hK K)); apply hK; clear hK K) | ((iterate 2 (clear hK K)); apply hK; clear hK K) | ((iterate 3 (clear hK K)); apply hK; clear hK K) | ((iterate 4 (clear hK K)); apply hK; clear hK K) | ((iterate 5 (clear hK K)); apply hK; clear hK K)); refine SW.le (hle _) ?_; clear hle hfind hcv hcells) | (with_reducible refine And.intro (by omega) ?_) | (refine SW.seq_k fun K hK => ?_) | (refine SW.block ?_) | ((first | refine SW.region ?_ | refine SW.regionD (Checked.mixed Tryz.checked) (by kernel_rfl) ?_ | refine SW.cond ?_ | refine SW.skip ?_ | refine SW.exit ?_ | refine SW.ret ?_ | (refine allF_i fun b hb => ?_; replace hD := And.intro hb hD; clear hb; try simp only [fresh_cons, fresh_nil, and_true, ne_eq, neF] at hD) | simp only [appK, appOsK]); try simp only [go_sem, ↓reduceIte, reduceCtorEq, Nat.reduceAdd, Nat.reduceMul, Nat.reduceSub, Nat.reduceLT, Nat.reduceLeDiff, Nat.reduceEqDiff, Nat.reduceBEq, Nat.reduceBneDiff, Int.reduceToNat, Int.reduceEq, hD, h1i, ie, i0, ws, w1, hc, hbt, h2i, ie2, hd, hnt, hxt, w2]) | (refine And.intro (by omega) ?_) | (refine ifI (fun hc => ?_) (fun hc => ?_) <;> first | (exfalso; omega) | skip) | (first | (apply hK; clear hK K) | ((iterate 1 (clear hK K)); apply hK; clear hK K) | ((iterate 2 (clear hK K)); apply hK; clear hK K) | ((iterate 3 (clear hK K)); apply hK; clear hK K) | ((iterate 4 (clear hK K)); apply hK; clear hK K) | ((iterate 5 (clear hK K)); apply hK; clear hK K)) | (refine And.intro ?_ ?_)
          refine Rnd.sub f (by omega) ((hI _ _).2 ⟨i + 2, f, l ++ [d], _, _, rfl, by omega, by omega, by omega, by rw [List.length_append]; simp only [List.length_cons, List.length_nil]; omega, by rw [hC, List.append_assoc]; rfl, hB, rfl⟩) (by repeat' (first | exact rfl | exact trivial | exact int_eq (by omega) | exact int_eq (by (rw [i64_wrap] <;> omega)) | constructor))
    · rw [if_neg (fun e => hb (by rw [e.1]; rfl))] at hC
      have hbt : decide ((c.toNat : Int) = 92) = false := decide_eq_false (by omega)
      repeat' first | ((with_reducible refine appK_byts (l2 := [c]) hB ?_ ?_ ?_ ?_ ?_ ?_ ?_ ?_ ?_); (iterate 8 (first | rfl | exact hD | exact hD.1 | exact hD.2.1 | exact hD.2.2.1 | exact Nat.succ_pos _ | (simp only [List.length_cons, List.length_nil]; omega))); intro b' blk' h' h'' n3 hn3 hfind hcells hcv hB' hle; clear hB; have hB := hB'; clear hB'; (try simp only [go_sem, ↓reduceIte, reduceCtorEq, Nat.reduceAdd, Nat.reduceMul, Nat.reduceSub, Nat.reduceLT, Nat.reduceLeDiff, Nat.reduceEqDiff, Nat.reduceBEq, Nat.reduceBneDiff, Int.reduceToNat, Int.reduceEq, hD] at hcv); simp only [go_sem, ↓reduceIte, reduceCtorEq, Nat.reduceAdd, Nat.reduceMul, Nat.reduceSub, Nat.reduceLT, Nat.reduceLeDiff, Nat.reduceEqDiff, Nat.reduceBEq, Nat.reduceBneDiff, Int.reduceToNat, Int.reduceEq, hD, hfind, hcv]; (first | (apply hK; clear hK K) | ((iterate 1 (clear hK K)); apply hK; clear hK K) | ((iterate 2 (clear hK K)); apply hK; clear hK K) | ((iterate 3 (clear hK K)); apply hK; clear hK K) | ((iterate 4 (clear hK K)); apply hK; clear hK K) | ((iterate 5 (clear hK K)); apply hK; clear hK K)); refine SW.le (hle _) ?_; clear hle hfind hcv hcells) | (with_reducible refine And.intro (by omega) ?_) | (refine SW.seq_k fun K hK => ?_) | (refine SW.block ?_) | ((first | refine SW.region ?_ | refine SW.regionD (Checked.mixed Tryz.checked) (by kernel_rfl) ?_ | refine SW.cond ?_ | refine SW.skip ?_ | refine SW.exit ?_ | refine SW.ret ?_ | (refine allF_i fun b hb => ?_; replace hD := And.intro hb hD; clear hb; try simp only [fresh_cons, fresh_nil, and_true, ne_eq, neF] at hD) | simp only [appK, appOsK]); try simp only [go_sem, ↓reduceIte, reduceCtorEq, Nat.reduceAdd, Nat.reduceMul, Nat.reduceSub, Nat.reduceLT, Nat.reduceLeDiff, Nat.reduceEqDiff, Nat.reduceBEq, Nat.reduceBneDiff, Int.reduceToNat, Int.reduceEq, hD, h1i, ie, i0, ws, w1, hc, hbt]) | (refine And.intro (by omega) ?_) | (refine ifI (fun hc => ?_) (fun hc => ?_) <;> first | (exfalso; omega) | skip) | (first | (apply hK; clear hK K) | ((iterate 1 (clear hK K)); apply hK; clear hK K) | ((iterate 2 (clear hK K)); apply hK; clear hK K) | ((iterate 3 (clear hK K)); apply hK; clear hK K) | ((iterate 4 (clear hK K)); apply hK; clear hK K) | ((iterate 5 (clear hK K)); apply hK; clear hK K)) | (refine And.intro ?_ ?_)
      refine Rnd.sub f (by omega) ((hI _ _).2 ⟨i + 1, f, l ++ [c], _, _, rfl, by omega, by omega, by omega, by rw [List.length_append]; simp only [List.length_cons, List.length_nil]; omega, by rw [hC, List.append_assoc]; rfl, hB, rfl⟩) (by repeat' (first | exact rfl | exact trivial | exact int_eq (by omega) | exact int_eq (by (rw [i64_wrap] <;> omega)) | constructor))
  · have h1i : ¬ ((i : Nat) : Int) < ((s.size : Nat) : Int) - 1 := by omega
    have hR : R = l := by
      cases f with
      | zero => rw [hC]; simp [unqP]
      | succ f =>
        unfold unqP at hC
        rw [if_neg (by rw [ls]; exact h1)] at hC
        rw [hC, List.append_nil]
    subst hR
    rcases hB.byts_cases with ⟨e, rfl, rfl⟩ | ⟨b, hf, rfl, blk, hcells, rfl⟩
    · repeat' first | (with_reducible refine And.intro (by omega) ?_) | (refine SW.seq_k fun K hK => ?_) | (refine SW.block ?_) | ((first | refine SW.region ?_ | refine SW.regionD (Checked.mixed Tryz.checked) (by kernel_rfl) ?_ | refine SW.cond ?_ | refine SW.skip ?_ | refine SW.exit ?_ | refine SW.ret ?_ | (refine allF_i fun b hb => ?_; replace hD := And.intro hb hD; clear hb; try simp only [fresh_cons, fresh_nil, and_true, ne_eq, neF] at hD) | simp only [appK, appOsK]); try simp only [go_sem, ↓reduceIte, reduceCtorEq, Nat.reduceAdd, Nat.reduceMul, Nat.reduceSub, Nat.reduceLT, Nat.reduceLeDiff, Nat.reduceEqDiff, Nat.reduceBEq, Nat.reduceBneDiff, Int.reduceToNat, Int.reduceEq, hD, h1i, ws]) | (refine And.intro (by omega) ?_) | (refine ifI (fun hc => ?_) (fun hc => ?_) <;> first | (exfalso; omega) | skip) | (first | (apply hK; clear hK K) | ((iterate 1 (clear hK K)); apply hK; clear hK K) | ((iterate 2 (clear hK K)); apply hK; clear hK K) | ((iterate 3 (clear hK K)); apply hK; clear hK K) | ((iterate 4 (clear hK K)); apply hK; clear hK K) | ((iterate 5 (clear hK K)); apply hK; clear hK K)) | (refine And.intro ?_ ?_)
      refine ret_pure ?_; simp only [resL_tmp, resL_nil, tupOf, go_sem, ↓reduceIte, reduceCtorEq, Nat.reduceAdd, Nat.reduceMul, Nat.reduceSub, Nat.reduceLT, Nat.reduceLeDiff, Nat.reduceEqDiff, Nat.reduceBEq, Nat.reduceBneDiff, Int.reduceToNat, Int.reduceEq, hD]
      rw [e]
      rfl
    · refine SW.le (St.le_blk (k' := .svs (byts R)) (b := b) (k := blk) (by rw [find_cons, if_pos rfl]) hcells.symm) ?_
      have cv := cvtK_svs R
      simp only [go_sem, ↓reduceIte, reduceCtorEq, Nat.reduceAdd, Nat.reduceMul, Nat.reduceSub, Nat.reduceLT, Nat.reduceLeDiff, Nat.reduceEqDiff, Nat.reduceBEq, Nat.reduceBneDiff, Int.reduceToNat, Int.reduceEq, hD] at cv
      repeat' first | (with_reducible refine And.intro (by omega) ?_) | (refine SW.seq_k fun K hK => ?_) | (refine SW.block ?_) | ((first | refine SW.region ?_ | refine SW.regionD (Checked.mixed Tryz.checked) (by kernel_rfl) ?_ | refine SW.cond ?_ | refine SW.skip ?_ | refine SW.exit ?_ | refine SW.ret ?_ | (refine allF_i fun b hb => ?_; replace hD := And.intro hb hD; clear hb; try simp only [fresh_cons, fresh_nil, and_true, ne_eq, neF] at hD) | simp only [appK, appOsK]); try simp only [go_sem, ↓reduceIte, reduceCtorEq, Nat.reduceAdd, Nat.reduceMul, Nat.reduceSub, Nat.reduceLT, Nat.reduceLeDiff, Nat.reduceEqDiff, Nat.reduceBEq, Nat.reduceBneDiff, Int.reduceToNat, Int.reduceEq, hD, h1i, ws, cv]) | (refine And.intro (by omega) ?_) | (refine ifI (fun hc => ?_) (fun hc => ?_) <;> first | (exfalso; omega) | skip) | (first | (apply hK; clear hK K) | ((iterate 1 (clear hK K)); apply hK; clear hK K) | ((iterate 2 (clear hK K)); apply hK; clear hK K) | ((iterate 3 (clear hK K)); apply hK; clear hK K) | ((iterate 4 (clear hK K)); apply hK; clear hK K) | ((iterate 5 (clear hK K)); apply hK; clear hK K)) | (refine And.intro ?_ ?_)
      refine ret_pure ?_; simp only [resL_tmp, resL_nil, tupOf, go_sem, ↓reduceIte, reduceCtorEq, Nat.reduceAdd, Nat.reduceMul, Nat.reduceSub, Nat.reduceLT, Nat.reduceLeDiff, Nat.reduceEqDiff, Nat.reduceBEq, Nat.reduceBneDiff, Int.reduceToNat, Int.reduceEq, hD]
      rfl
end Go.Proofs.YtajbifibhgppfaaGreatDoor
/- Plain law of values: what Parse answers. -/
set_option linter.unusedSimpArgs false
set_option linter.unusedVariables false
set_option linter.unusedSectionVars false
namespace Go.Proofs.YtajbifibhgppfaaGreatDoor
open Go Go.Ab Go.Ab.A01

theorem extr_list (s : ByteArray) (i j : Nat) : (s.extract i j).data.toList = (s.data.toList.drop i).take (j - i) := by
  rw [ByteArray.data_extract, Array.toList_extract, List.extract_eq_take_drop]
theorem len_list (s : ByteArray) : s.data.toList.length = s.size := Array.length_toList
theorem getD_get (l : List UInt8) {i : Nat} (h : i < l.length) : l.getD i 0 = l[i] := by simp [List.getD_eq_getElem?_getD, h]
theorem take_two {p r : List UInt8} {a b : UInt8} : ((p ++ a :: b :: r).drop p.length).take 2 = [a, b] := by
  rw [List.drop_left]
  rfl

/-- The byte behind a backslash and an x. -/
theorem hexP_of {s : ByteArray} {p r : List UInt8} {c : UInt8} (h : s.data.toList = p ++ 92 :: 120 :: hexd (c.toNat / 16) :: hexd (c.toNat % 16) :: r) : hexP s s.data.toList (p.length + 2) = c := by
  have c8 := c.toNat_lt
  have hl : s.size = p.length + (4 + r.length) := by
    rw [← len_list, h]
    simp only [List.length_append, List.length_cons]
    omega
  have e : (s.extract (min (p.length + 2) s.size) (min (p.length + 2 + 2) s.size)).data.toList = [hexd (c.toNat / 16), hexd (c.toNat % 16)] := by
    rw [extr_list, Nat.min_eq_left (by omega), Nat.min_eq_left (by omega), Nat.add_sub_cancel_left, h]
    have e2 : p ++ 92 :: 120 :: hexd (c.toNat / 16) :: hexd (c.toNat % 16) :: r = (p ++ [92, 120]) ++ hexd (c.toNat / 16) :: hexd (c.toNat % 16) :: r := by simp
    rw [e2]
    have := take_two (p := p ++ [92, 120]) (r := r) (a := hexd (c.toNat / 16)) (b := hexd (c.toNat % 16))
    rw [List.length_append] at this
    exact this
  unfold hexP puN
  rw [e, hex_two (by omega) (by omega)]
  show UInt8.ofNat (c.toNat / 16 * 16 + c.toNat % 16) = c
  have : c.toNat / 16 * 16 + c.toNat % 16 = c.toNat := by omega
  rw [this]
  simp

/-- The program's candidate. -/
def guessV (s : ByteArray) : Int × Int × ByteArray :=
  if s = ⟨#[110, 117, 108, 108]⟩ ∨ s = ⟨#[]⟩ then (0, 0, ⟨#[]⟩) else if s.data.toList.getD 0 0 = 34 then (2, 0, mkB (unqP (hexP s) s.data.toList s.size 1))
  else if s.data.toList.getD 0 0 = 63 then (3, pintV (s.extract 1 s.size), ⟨#[]⟩) else (1, pintV s, ⟨#[]⟩)

theorem emp_eq {t : ByteArray} (h : emp t = true) : t = ⟨#[]⟩ := barr_eq.1 h
theorem mkB_list (t : ByteArray) : mkB t.data.toList = t := ba_ext (by simp [mkB])
theorem quoteL_len (l : List UInt8) : (quoteL l).length ≤ 2 + 4 * l.length := by
  unfold quoteL
  have := flat_le l
  simp only [List.length_cons, List.length_append, List.length_nil]
  omega

/-- **The candidate of a value's text is the value.** -/
theorem guess_fmt {k n : Int} {t : ByteArray} (hv : vok k n t = true) (hn : In64 n) : guessV (fmtS k n t) = (k, n, t) := by
  rcases vok_kind hv with rfl | rfl | ⟨rfl, hs⟩ | rfl
  · unfold vok at hv
    rw [if_pos rfl, Bool.and_eq_true, decide_eq_true_eq] at hv
    rw [hv.1, emp_eq hv.2]
    rfl
  · unfold vok at hv
    rw [if_neg (by decide), if_pos rfl] at hv
    rw [emp_eq hv]
    have e : fmtS 1 n ⟨#[]⟩ = itoaS n := rfl
    rw [e]
    obtain ⟨c, r, h, hc⟩ := itoa_head n
    have hl : (itoaS n).data.toList = c :: r := h
    unfold guessV
    rw [if_neg, hl, List.getD_cons_zero, if_neg (fun x => by rw [x] at hc; revert hc; decide), if_neg (fun x => by rw [x] at hc; revert hc; decide), pintV_itoa n hn.1 hn.2]
    rintro (x | x)
    · rw [x] at hl
      have : (110 : UInt8) = c := by injection hl
      rw [← this] at hc
      revert hc; decide
    · rw [x] at hl
      cases hl
  · unfold vok at hv
    rw [if_neg (by decide), if_neg (by decide), if_pos rfl, Bool.and_eq_true, decide_eq_true_eq] at hv
    rw [hv.1]
    have e : fmtS 2 0 t = mkB (quoteL t.data.toList) := rfl
    rw [e]
    have hl : (mkB (quoteL t.data.toList)).data.toList = quoteL t.data.toList := by simp [mkB]
    have hq : quoteL t.data.toList = [34] ++ (t.data.toList.flatMap quote1 ++ [34]) := rfl
    have hu := unqP_quote (h := hexP (mkB (quoteL t.data.toList))) (s := quoteL t.data.toList) (fun p c r x => by
      have := hexP_of (s := mkB (quoteL t.data.toList)) (p := p) (r := r) (c := c) (by rw [hl]; exact x)
      rw [hl] at this
      exact this) t.data.toList [34] (mkB (quoteL t.data.toList)).size hq (by rw [← len_list, hl]; omega)
    unfold guessV
    rw [hl, if_neg, if_pos (show (quoteL t.data.toList).getD 0 0 = 34 from rfl)]
    · have hu2 : unqP (hexP (mkB (quoteL t.data.toList))) (quoteL t.data.toList) (mkB (quoteL t.data.toList)).size 1 = t.data.toList := hu
      rw [hu2, mkB_list]
    · rintro (x | x)
      · rw [x] at hl
        have : (110 : UInt8) = 34 := by injection hl
        revert this; decide
      · rw [x] at hl
        cases hl
  · unfold vok at hv
    rw [if_neg (by decide), if_neg (by decide), if_neg (by decide), if_pos rfl, Bool.and_eq_true, decide_eq_true_eq] at hv
    rw [emp_eq hv.2]
    have e : fmtS 3 n ⟨#[]⟩ = ⟨#[63]⟩ ++ itoaS n := rfl
    rw [e]
    have hl : ((⟨#[63]⟩ : ByteArray) ++ itoaS n).data.toList = 63 :: (itoaS n).data.toList := by
      rw [ByteArray.data_append, Array.toList_append]
      rfl
    have he : ((⟨#[63]⟩ : ByteArray) ++ itoaS n).extract 1 ((⟨#[63]⟩ : ByteArray) ++ itoaS n).size = itoaS n := by
      refine ba_ext ?_
      rw [extr_list, hl, List.drop_succ_cons, List.drop_zero, List.take_of_length_le]
      rw [← len_list, hl, List.length_cons]
      omega
    unfold guessV
    rw [if_neg, hl, List.getD_cons_zero, if_neg (by decide), if_pos rfl, he, pintV_itoa n hn.1 hn.2]
    rintro (x | x)
    · rw [x] at hl
      have : (110 : UInt8) = 63 := by injection hl
      revert this; decide
    · rw [x] at hl
      cases hl

theorem pintV_in (s : ByteArray) : In64 (pintV s) := by
  unfold pintV In64
  split
  · rename_i v h
    have := Lib.parseIntB_bounds h
    simp only [Nat.reduceSub] at this
    have e : ((2 ^ 63 : Nat) : Int) = 9223372036854775808 := by decide
    omega
  · unfold Lib.intSat
    split <;> decide
  · decide
theorem guess_in (s : ByteArray) : In64 (guessV s).2.1 := by
  unfold guessV
  split
  · exact ⟨by decide, by decide⟩
  · split
    · exact ⟨show (-9223372036854775808 : Int) ≤ 0 by decide, show (0 : Int) ≤ 9223372036854775807 by decide⟩
    · split
      · exact pintV_in _
      · exact pintV_in _

/-- A value's text. -/
def Good (s : ByteArray) (v : Int × Int × ByteArray) : Prop := vok v.1 v.2.1 v.2.2 = true ∧ In64 v.2.1 ∧ fmtS v.1 v.2.1 v.2.2 = s
theorem good_guess {s : ByteArray} {v : Int × Int × ByteArray} (h : Good s v) : guessV s = v := by
  obtain ⟨k, n, t⟩ := v
  rw [← h.2.2]
  exact guess_fmt h.1 h.2.1
/-- Parse. -/
def parseV (s : ByteArray) : (Int × Int × ByteArray) × Int := if vok (guessV s).1 (guessV s).2.1 (guessV s).2.2 = true ∧ fmtS (guessV s).1 (guessV s).2.1 (guessV s).2.2 = s then (guessV s, 0) else ((0, 0, ⟨#[]⟩), 2)
theorem parse_good {s : ByteArray} {v : Int × Int × ByteArray} (h : Good s v) : parseV s = (v, 0) := by
  unfold parseV
  rw [good_guess h, if_pos ⟨h.1, h.2.2⟩]
theorem parse_bad {s : ByteArray} (h : ∀ v, ¬ Good s v) : parseV s = ((0, 0, ⟨#[]⟩), 2) := by
  unfold parseV
  rw [if_neg (fun x => h (guessV s) ⟨x.1, guess_in s, x.2⟩)]
theorem parse_cases (s : ByteArray) : (∃ v, Good s v ∧ parseV s = (v, 0)) ∨ ((∀ v, ¬ Good s v) ∧ parseV s = ((0, 0, ⟨#[]⟩), 2)) := by
  by_cases h : Good s (guessV s)
  · exact .inl ⟨_, h, parse_good h⟩
  · have : ∀ v, ¬ Good s v := fun v hv => h (by rw [good_guess hv]; exact hv)
    exact .inr ⟨this, parse_bad this⟩
end Go.Proofs.YtajbifibhgppfaaGreatDoor
/- Plain law of tokens: what a text begins with. -/
set_option linter.unusedSimpArgs false
set_option linter.unusedVariables false
set_option linter.unusedSectionVars false
namespace Go.Ab.A05
open Go Go.Ab Go.Ab.A01

def isL (c : UInt8) : Bool := (decide (97 ≤ c.toNat) && decide (c.toNat ≤ 122)) || ((decide (65 ≤ c.toNat) && decide (c.toNat ≤ 90)) || decide (c.toNat = 95))
def isD (c : UInt8) : Bool := decide (48 ≤ c.toNat) && decide (c.toNat ≤ 57)
def isW (c : UInt8) : Bool := isL c || isD c
def nullL : List UInt8 := [110, 117, 108, 108]
/-- Is a text a name? -/
def nameB (l : List UInt8) : Bool := match l with
  | [] => false
  | c :: _ => decide (l.length ≤ 24) && !decide (l = nullL) && isL c && l.all isW
/-- The symbols, longer ones before their beginnings. -/
def syms : List (List UInt8) := [[45, 62, 62], [45, 62], [126, 62], [60, 61], [33, 61], [40], [41], [123], [125], [91], [93], [44], [58], [59], [46], [61], [60], [42], [47], [124]]
def symB (l : List UInt8) : Bool := syms.contains l
/-- How many bytes at the beginning satisfy a condition. -/
def runN (p : UInt8 → Bool) (l : List UInt8) : Nat := (l.takeWhile p).length
/-- Up to the first quote that is not behind a backslash. -/
def qG : Bool → Nat → List UInt8 → Nat
  | _, _, [] => 0
  | true, n, _ :: r => qG false (n + 1) r
  | false, n, c :: r => if c = 92 then qG true (n + 1) r else if c = 34 then n + 1 else qG false (n + 1) r
def qF (n : Nat) (l : List UInt8) : Nat := qG false n l
theorem qF_cons (n : Nat) (c : UInt8) (r : List UInt8) : qF n (c :: r) = if c = 92 then qG true (n + 1) r else if c = 34 then n + 1 else qF (n + 1) r := rfl
theorem qG_cons (n : Nat) (c : UInt8) (r : List UInt8) : qG true n (c :: r) = qF (n + 1) r := rfl
def symN (l : List UInt8) : Nat := match syms.find? (fun x => x.isPrefixOf l) with
  | some x => x.length
  | none => 0
/-- How long the token at the beginning is. -/
def firstN (l : List UInt8) : Nat := match l with
  | [] => 0
  | c :: r => if isL c = true then runN isW l else if isD c = true then runN isD l
    else if (c = 45 ∨ c = 63) ∧ isD (r.getD 0 0) = true then 1 + runN isD r else if c = 34 then qF 1 r else symN l

/-- The longest symbol at the beginning, as the reference finds it. -/
def symR (l : List UInt8) : Nat := if 3 ≤ l.length ∧ symB (l.take 3) = true then 3 else if 2 ≤ l.length ∧ symB (l.take 2) = true then 2 else if 1 ≤ l.length ∧ symB (l.take 1) = true then 1 else 0

theorem pre_iff (x l : List UInt8) : x.isPrefixOf l = true ↔ x.length ≤ l.length ∧ l.take x.length = x := by
  rw [List.isPrefixOf_iff_prefix]
  constructor
  · rintro ⟨r, rfl⟩
    exact ⟨by rw [List.length_append]; omega, List.take_left⟩
  · rintro ⟨_, h⟩
    exact ⟨l.drop x.length, by conv => lhs; rw [← h]
                               rw [h]
                               conv => rhs; rw [← List.take_append_drop x.length l, h]⟩
theorem find_group {S : List (List UInt8)} {k : Nat} (hS : ∀ x ∈ S, x.length = k) (l : List UInt8) :
    (k ≤ l.length ∧ l.take k ∈ S ∧ S.find? (fun x => x.isPrefixOf l) = some (l.take k)) ∨ (¬ (k ≤ l.length ∧ l.take k ∈ S) ∧ S.find? (fun x => x.isPrefixOf l) = none) := by
  cases h : S.find? (fun x => x.isPrefixOf l) with
  | none =>
    refine .inr ⟨fun ⟨h1, h2⟩ => ?_, rfl⟩
    have := List.find?_eq_none.1 h _ h2
    refine this ?_
    rw [pre_iff, hS _ h2]
    exact ⟨h1, rfl⟩
  | some x =>
    have hx := List.mem_of_find?_eq_some h
    have hp := List.find?_some h
    rw [pre_iff, hS x hx] at hp
    rw [hp.2]
    exact .inl ⟨hp.1, hx, rfl⟩
theorem syms_split : syms = [[45, 62, 62]] ++ ([[45, 62], [126, 62], [60, 61], [33, 61]] ++ [[40], [41], [123], [125], [91], [93], [44], [58], [59], [46], [61], [60], [42], [47], [124]]) := rfl
theorem symB_iff (l : List UInt8) : symB l = true ↔ l ∈ syms := by
  unfold symB
  rw [List.contains_iff_mem]
theorem sym_len {k : Nat} {l : List UInt8} (hl : l.length = k) : (l ∈ syms ↔ l ∈ syms.filter (fun x => x.length == k)) := by
  rw [List.mem_filter, beq_iff_eq]
  exact ⟨fun h => ⟨h, hl⟩, fun h => h.1⟩
/-- **Both find the same symbol.** -/
theorem symN_R (l : List UInt8) : symN l = symR l := by
  have g3 := find_group (S := [[45, 62, 62]]) (k := 3) (by decide) l
  have g2 := find_group (S := [[45, 62], [126, 62], [60, 61], [33, 61]]) (k := 2) (by decide) l
  have g1 := find_group (S := [[40], [41], [123], [125], [91], [93], [44], [58], [59], [46], [61], [60], [42], [47], [124]]) (k := 1) (by decide) l
  have m : ∀ k, k ≤ l.length → (symB (l.take k) = true ↔ l.take k ∈ syms.filter (fun x => x.length == k)) := fun k hk => by
    rw [symB_iff]
    exact sym_len (by rw [List.length_take]; omega)
  unfold symN symR
  rw [syms_split, List.find?_append, List.find?_append]
  rcases g3 with ⟨a1, a2, a3⟩ | ⟨a1, a3⟩
  · rw [a3, if_pos ⟨a1, (m 3 a1).2 a2⟩]
    simp only [Option.some_or]
    rw [List.length_take]
    omega
  · rw [a3, if_neg (fun h => a1 ⟨h.1, (m 3 h.1).1 h.2⟩)]
    simp only [Option.none_or]
    rcases g2 with ⟨b1, b2, b3⟩ | ⟨b1, b3⟩
    · rw [b3, if_pos ⟨b1, (m 2 b1).2 b2⟩]
      simp only [Option.some_or]
      rw [List.length_take]
      omega
    · rw [b3, if_neg (fun h => b1 ⟨h.1, (m 2 h.1).1 h.2⟩)]
      simp only [Option.none_or]
      rcases g1 with ⟨c1, c2, c3⟩ | ⟨c1, c3⟩
      · rw [c3, if_pos ⟨c1, (m 1 c1).2 c2⟩]
        simp only
        rw [List.length_take]
        omega
      · rw [c3, if_neg (fun h => c1 ⟨h.1, (m 1 h.1).1 h.2⟩)]

/-- A text in quotes ends at its first quote that is not behind a backslash. -/
theorem qF_quote : ∀ (t : List UInt8) (n : Nat) (r : List UInt8), qF n (t.flatMap quote1 ++ 34 :: r) = n + (t.flatMap quote1).length + 1
  | [], n, r => by
    show qF n (34 :: r) = _
    rw [qF_cons, if_neg (by decide), if_pos rfl]
    rfl
  | c :: t, n, r => by
    rw [List.flatMap_cons, List.append_assoc, List.length_append]
    have ih := fun n => qF_quote t n r
    generalize t.flatMap quote1 ++ 34 :: r = w at *
    generalize (t.flatMap quote1).length = m at *
    by_cases h1 : c = 34 ∨ c = 92
    · have e : quote1 c = [92, c] := by unfold quote1; rw [if_pos h1]
      rw [e]
      show qF n (92 :: c :: w) = _
      rw [qF_cons, if_pos rfl, qG_cons, ih]
      simp only [List.length_cons, List.length_nil]
      omega
    · by_cases h2 : c = 10
      · have e : quote1 c = [92, 110] := by unfold quote1; rw [if_neg h1, if_pos h2]
        rw [e]
        show qF n (92 :: 110 :: w) = _
        rw [qF_cons, if_pos rfl, qG_cons, ih]
        simp only [List.length_cons, List.length_nil]
        omega
      · have hd : ∀ k, k < 16 → hexd k ≠ 92 ∧ hexd k ≠ 34 := by decide +kernel
        have c8 := c.toNat_lt
        by_cases h3 : c.toNat < 32 ∨ 126 < c.toNat
        · have e : quote1 c = [92, 120, hexd (c.toNat / 16), hexd (c.toNat % 16)] := by unfold quote1; rw [if_neg h1, if_neg h2, if_pos h3]
          rw [e]
          obtain ⟨a1, a2⟩ := hd (c.toNat / 16) (by omega)
          obtain ⟨b1, b2⟩ := hd (c.toNat % 16) (by omega)
          show qF n (92 :: 120 :: hexd (c.toNat / 16) :: hexd (c.toNat % 16) :: w) = _
          rw [qF_cons, if_pos rfl, qG_cons, qF_cons, if_neg a1, if_neg a2, qF_cons, if_neg b1, if_neg b2, ih]
          simp only [List.length_cons, List.length_nil]
          omega
        · have e : quote1 c = [c] := by unfold quote1; rw [if_neg h1, if_neg h2, if_neg h3]
          rw [e]
          show qF n (c :: w) = _
          rw [qF_cons, if_neg (fun x => h1 (.inr x)), if_neg (fun x => h1 (.inl x)), ih]
          simp only [List.length_cons, List.length_nil]
          omega
theorem qF_le : ∀ (k n : Nat) (l : List UInt8), l.length ≤ k → qF n l ≤ n + l.length ∧ (qF n l ≠ 0 → n + 1 ≤ qF n l ∧ l.getD (qF n l - n - 1) 0 = 34)
  | 0, n, l, h => by
    have : l = [] := List.eq_nil_of_length_eq_zero (by omega)
    subst this
    exact ⟨Nat.zero_le _, fun x => absurd rfl x⟩
  | k + 1, n, [], h => ⟨Nat.zero_le _, fun x => absurd rfl x⟩
  | k + 1, n, c :: r, h => by
    rw [List.length_cons] at h
    rw [qF_cons]
    by_cases h1 : c = 92
    · rw [if_pos h1]
      cases r with
      | nil => exact ⟨Nat.zero_le _, fun x => absurd rfl x⟩
      | cons d r' =>
        rw [qG_cons, show n + 1 + 1 = n + 2 from rfl]
        rw [List.length_cons] at h
        obtain ⟨a, b⟩ := qF_le k (n + 2) r' (by omega)
        refine ⟨by simp only [List.length_cons]; omega, fun x => ?_⟩
        obtain ⟨b1, b2⟩ := b x
        refine ⟨by omega, ?_⟩
        have e : qF (n + 2) r' - n - 1 = (qF (n + 2) r' - (n + 2) - 1) + 1 + 1 := by omega
        rw [e, List.getD_cons_succ, List.getD_cons_succ]
        exact b2
    · rw [if_neg h1]
      by_cases h2 : c = 34
      · rw [if_pos h2]
        refine ⟨by simp only [List.length_cons]; omega, fun _ => ⟨Nat.le_refl _, ?_⟩⟩
        have e : n + 1 - n - 1 = 0 := by omega
        rw [e, List.getD_cons_zero]
        exact h2
      · rw [if_neg h2]
        obtain ⟨a, b⟩ := qF_le k (n + 1) r (by omega)
        refine ⟨by simp only [List.length_cons]; omega, fun x => ?_⟩
        obtain ⟨b1, b2⟩ := b x
        refine ⟨by omega, ?_⟩
        have e : qF (n + 1) r - n - 1 = (qF (n + 1) r - (n + 1) - 1) + 1 := by omega
        rw [e, List.getD_cons_succ]
        exact b2
end Go.Ab.A05
/- Plain law of tokens: the tokens of a text and their positions. -/
set_option linter.unusedSimpArgs false
set_option linter.unusedVariables false
set_option linter.unusedSectionVars false
namespace Go.Ab.A05
open Go Go.Ab Go.Ab.A01 Go.Proofs.YtajbifibhgppfaaGreatDoor

/-- A token's kind and value. -/
def tokenS (l : List UInt8) : Option (Int × (Int × Int × ByteArray)) := if nameB l = true then some (1, 0, 0, ⟨#[]⟩) else if symB l = true then some (3, 0, 0, ⟨#[]⟩)
  else if (parseV (mkB l)).2 = 0 then some (2, (parseV (mkB l)).1) else .none
/-- A token: kind, text, value, line, column. -/
structure Tok where
  kind : Int
  text : ByteArray
  val : Int × Int × ByteArray
  line : Int
  col : Int
deriving Inhabited
/-- The line and the column behind a beginning. -/
def lineS (l : List UInt8) : Nat := 1 + l.count 10
def tailS (l : List UInt8) : Nat := runN (fun c => decide (c ≠ 10)) l.reverse
def white (c : UInt8) : Bool := decide (c = 32) || (decide (c = 9) || decide (c = 10))
def lineN (l : List UInt8) : Nat := runN (fun c => decide (c ≠ 10)) l

/-- The tokens of a text from a place on. -/
def lexF : Nat → List UInt8 → Nat → List Tok → List Tok × Nat × Nat × Int
  | 0, _, _, acc => (acc, 0, 0, 0)
  | f + 1, s, i, acc => if s.length ≤ i then (acc, 0, 0, 0)
    else if white (s.getD i 0) = true then lexF f s (i + 1) acc
    else if s.getD i 0 = 35 then lexF f s (i + lineN (s.drop i)) acc
    else match tokenS ((s.drop i).take (firstN (s.drop i))) with
      | .none => ([], lineS (s.take i), 1 + tailS (s.take i), 2)
      | some (k, v) => lexF f s (i + firstN (s.drop i)) (acc ++ [⟨k, mkB ((s.drop i).take (firstN (s.drop i))), v, lineS (s.take i), ((1 + tailS (s.take i) : Nat) : Int)⟩])
/-- The tokens of a text. -/
def tokensS (s : ByteArray) : List Tok × Nat × Nat × Int := if 65536 < s.size then ([], 0, 0, 3) else lexF s.size s.data.toList 0 []

theorem tokenS_nil : tokenS [] = .none := by
  unfold tokenS
  rw [if_neg (by decide), if_neg (by decide), if_neg]
  have e : parseV (mkB []) = ((0, 0, ⟨#[]⟩), 2) := by decide +kernel
  rw [e]
  decide
theorem runN_le (p : UInt8 → Bool) (l : List UInt8) : runN p l ≤ l.length := by
  unfold runN
  have h := congrArg List.length (List.takeWhile_append_dropWhile (p := p) (l := l))
  rw [List.length_append] at h
  omega
theorem runN_take (p : UInt8 → Bool) (l : List UInt8) : l.take (runN p l) = l.takeWhile p := by
  unfold runN
  conv => lhs; rw [← List.takeWhile_append_dropWhile (p := p) (l := l)]
  rw [List.takeWhile_append_dropWhile]
  conv => lhs; arg 2; rw [← List.takeWhile_append_dropWhile (p := p) (l := l)]
  exact List.take_left
theorem symN_le (l : List UInt8) : symN l ≤ l.length := by
  rw [symN_R]
  unfold symR
  split
  · omega
  · split
    · omega
    · split <;> omega
theorem firstN_le (l : List UInt8) : firstN l ≤ l.length := by
  unfold firstN
  cases l with
  | nil => exact Nat.le_refl _
  | cons c r =>
    simp only
    split
    · exact runN_le _ _
    · split
      · exact runN_le _ _
      · split
        · have := runN_le isD r
          simp only [List.length_cons]
          omega
        · split
          · have := (qF_le r.length 1 r (Nat.le_refl _)).1
            simp only [List.length_cons]
            omega
          · exact symN_le _
/-- A line and a column, byte by byte. -/
theorem line_snoc (l : List UInt8) (c : UInt8) : lineS (l ++ [c]) = if c = 10 then lineS l + 1 else lineS l := by
  unfold lineS
  rw [List.count_append, List.count_singleton]
  by_cases h : c = 10
  · rw [if_pos h, if_pos (by simpa using h)]
    omega
  · rw [if_neg h, if_neg (by simpa using h)]
    omega
theorem tail_snoc (l : List UInt8) (c : UInt8) : tailS (l ++ [c]) = if c = 10 then 0 else tailS l + 1 := by
  unfold tailS runN
  rw [List.reverse_append]
  show (List.takeWhile _ (c :: l.reverse)).length = _
  rw [List.takeWhile_cons]
  by_cases h : c = 10
  · rw [if_pos h, if_neg (by simpa using h)]
    rfl
  · rw [if_neg h, if_pos (by simpa using h)]
    rfl
theorem line_app (l k : List UInt8) : lineS (l ++ k) = lineS l + k.count 10 := by
  unfold lineS
  rw [List.count_append]
  omega
theorem tail_app : ∀ (k l : List UInt8), tailS (l ++ k) = if k.count 10 = 0 then tailS l + k.length else tailS k := by
  intro k
  have key : ∀ (n : Nat) (k : List UInt8), k.length = n → ∀ l, tailS (l ++ k) = if k.count 10 = 0 then tailS l + k.length else tailS k := by
    intro n
    induction n with
    | zero =>
      intro k hk l
      have : k = [] := List.eq_nil_of_length_eq_zero hk
      subst this
      rw [List.append_nil, if_pos (by rfl)]
      rfl
    | succ n ih =>
      intro k hk l
      obtain ⟨k', c, rfl⟩ : ∃ k' c, k = k' ++ [c] := by
        refine ⟨k.dropLast, k.getLast (fun e => by rw [e] at hk; cases hk), ?_⟩
        rw [List.dropLast_concat_getLast]
      have hk' : k'.length = n := by rw [List.length_append] at hk; simpa using hk
      rw [← List.append_assoc, tail_snoc, tail_snoc, ih k' hk' l, List.count_append, List.length_append, List.count_singleton]
      by_cases h : c = 10
      · have e1 : (if (c == 10) = true then 1 else 0) = 1 := if_pos (by simpa using h)
        rw [e1, if_pos h, if_pos h, if_neg (by omega)]
      · have e1 : (if (c == 10) = true then 1 else 0) = 0 := if_neg (by simpa using h)
        rw [e1, if_neg h, if_neg h]
        by_cases h0 : k'.count 10 = 0
        · rw [if_pos h0, if_pos (by omega)]
          simp only [List.length_cons, List.length_nil]
          omega
        · rw [if_neg h0, if_neg (by omega)]
  exact fun l => key k.length k rfl l
end Go.Ab.A05
/- Plain law of tokens: white space, tokens without line ends. -/
set_option linter.unusedSimpArgs false
set_option linter.unusedVariables false
set_option linter.unusedSectionVars false
namespace Go.Ab.A05
open Go Go.Ab Go.Ab.A01 Go.Proofs.YtajbifibhgppfaaGreatDoor

/-- White space and comments at the beginning. -/
def blankF : Nat → List UInt8 → Nat
  | 0, _ => 0
  | f + 1, l => match l with
    | [] => 0
    | c :: r => if white c = true then 1 + blankF f r else if c = 35 then (if lineN l = l.length then l.length else lineN l + blankF f (l.drop (lineN l))) else 0
def blankN (l : List UInt8) : Nat := blankF l.length l

theorem lineN_pos {c : UInt8} {r : List UInt8} (h : c ≠ 10) : 1 ≤ lineN (c :: r) := by
  unfold lineN runN
  rw [List.takeWhile_cons, if_pos (by simpa using h), List.length_cons]
  omega
/-- More fuel changes nothing. -/
theorem lexF_fuel : ∀ (f : Nat) (s : List UInt8) (i : Nat) (acc : List Tok) (g : Nat), s.length ≤ i + f → s.length ≤ i + g → lexF f s i acc = lexF g s i acc
  | 0, s, i, acc, g, hf, hg => by
    cases g with
    | zero => rfl
    | succ g => rw [lexF, lexF, if_pos (by omega)]
  | f + 1, s, i, acc, g, hf, hg => by
    cases g with
    | zero => rw [lexF, lexF, if_pos (by omega)]
    | succ g =>
      rw [lexF, lexF]
      by_cases h : s.length ≤ i
      · rw [if_pos h, if_pos h]
      · rw [if_neg h, if_neg h]
        by_cases hw : white (s.getD i 0) = true
        · rw [if_pos hw, if_pos hw]
          exact lexF_fuel f s (i + 1) acc g (by omega) (by omega)
        · rw [if_neg hw, if_neg hw]
          by_cases h35 : s.getD i 0 = 35
          · rw [if_pos h35, if_pos h35]
            have hp : 1 ≤ lineN (s.drop i) := by
              rw [List.drop_eq_getElem_cons (by omega)]
              refine lineN_pos ?_
              have g : s.getD i 0 = s[i] := by simp [List.getD_eq_getElem?_getD, show i < s.length by omega]
              rw [← g, h35]
              decide
            exact lexF_fuel f s _ acc g (by omega) (by omega)
          · rw [if_neg h35, if_neg h35]
            cases ht : tokenS ((s.drop i).take (firstN (s.drop i))) with
            | none => rfl
            | some kv =>
              obtain ⟨k, v⟩ := kv
              simp only
              have hp : 1 ≤ firstN (s.drop i) := by
                rcases Nat.eq_zero_or_pos (firstN (s.drop i)) with h0 | h0
                · rw [h0, List.take_zero, tokenS_nil] at ht
                  cases ht
                · exact h0
              exact lexF_fuel f s _ _ g (by omega) (by omega)
theorem drop_cons {s : List UInt8} {i : Nat} (h : i < s.length) : s.drop i = s.getD i 0 :: s.drop (i + 1) := by
  rw [List.drop_eq_getElem_cons h]
  simp [List.getD_eq_getElem?_getD, h]
theorem blankF_le : ∀ (f : Nat) (l : List UInt8), blankF f l ≤ l.length
  | 0, l => Nat.zero_le _
  | f + 1, [] => Nat.zero_le _
  | f + 1, c :: r => by
    have hl := runN_le (fun c => decide (c ≠ 10)) (c :: r)
    have e : runN (fun c => decide (c ≠ 10)) (c :: r) = lineN (c :: r) := rfl
    rw [e] at hl
    rw [blankF]
    split
    · have := blankF_le f r
      rw [List.length_cons]
      omega
    · split
      · split
        · exact Nat.le_refl _
        · have := blankF_le f ((c :: r).drop (lineN (c :: r)))
          rw [List.length_drop] at this
          omega
      · exact Nat.zero_le _
/-- White space is passed over. -/
theorem lexF_blank : ∀ (f : Nat) (s : List UInt8) (i : Nat) (acc : List Tok) (g : Nat), s.length ≤ i + f → s.length ≤ i + g → lexF g s i acc = lexF g s (i + blankF f (s.drop i)) acc
  | 0, s, i, acc, g, hf, hg => rfl
  | f + 1, s, i, acc, g, hf, hg => by
    by_cases h : s.length ≤ i
    · rw [List.drop_of_length_le h]
      rfl
    · rw [drop_cons (by omega), blankF]
      cases g with
      | zero => omega
      | succ g =>
        by_cases hw : white (s.getD i 0) = true
        · rw [if_pos hw]
          conv => lhs; rw [lexF, if_neg h, if_pos hw]
          rw [lexF_blank f s (i + 1) acc g (by omega) (by omega), show i + (1 + blankF f (s.drop (i + 1))) = i + 1 + blankF f (s.drop (i + 1)) by omega]
          exact lexF_fuel g s _ acc (g + 1) (by omega) (by omega)
        · rw [if_neg hw]
          by_cases h35 : s.getD i 0 = 35
          · rw [if_pos h35, ← drop_cons (by omega)]
            have hp : 1 ≤ lineN (s.drop i) := by
              rw [drop_cons (by omega)]
              exact lineN_pos (by rw [h35]; decide)
            have hl := runN_le (fun c => decide (c ≠ 10)) (s.drop i)
            have e : runN (fun c => decide (c ≠ 10)) (s.drop i) = lineN (s.drop i) := rfl
            rw [e, List.length_drop] at hl
            conv => lhs; rw [lexF, if_neg h, if_neg hw, if_pos h35]
            by_cases hall : lineN (s.drop i) = (s.drop i).length
            · rw [if_pos hall, ← hall]
              exact lexF_fuel g s _ acc (g + 1) (by omega) (by omega)
            · rw [if_neg hall, List.drop_drop, lexF_blank f s (i + lineN (s.drop i)) acc g (by omega) (by omega), Nat.add_assoc]
              exact lexF_fuel g s _ acc (g + 1) (by omega) (by omega)
          · rw [if_neg h35]
            rfl
end Go.Ab.A05
/- Contracts: guess, Parse of the program. -/
set_option linter.unusedSimpArgs false
set_option linter.unusedVariables false
set_option linter.unusedSectionVars false
namespace Go.Proofs.YtajbifibhgppfaaGreatDoor
open Go Go.Ab Go.Ab.A01
variable [Gl] [Tabs]

abbrev VT (v : Int × Int × ByteArray) : SV := VS v.1 v.2.1 v.2.2

set_option maxRecDepth 20000 in
theorem guess_p (s : ByteArray) (hs : s.size ≤ 1000000) : PCall Tryz.prog 55 [Str s] (VT (guessV s)) := by
  have ls : s.data.toList.length = s.size := Array.length_toList
  obtain ⟨R, hR⟩ : ∃ R, R = guessV s := ⟨_, rfl⟩
  rw [← hR]
  unfold guessV at hR
  by_cases h1 : s = ⟨#[110, 117, 108, 108]⟩
  · rw [if_pos (.inl h1)] at hR
    subst hR
    have e1 : (s.toList == (⟨#[110, 117, 108, 108]⟩ : ByteArray).toList) = true := barr_eq.2 h1
    refine Call.enter' (N := 38) (rs := [.cell 2 33]) Tryz.func55 rfl rfl rfl (by decide) rfl ?_; simp only [argT]; have hD : (0 : Nat) = 0 := rfl
    repeat' first | (with_reducible refine And.intro (by omega) ?_) | (refine SW.seq_k fun K hK => ?_) | (refine SW.block ?_) | ((first | refine SW.region ?_ | refine SW.regionD (Checked.mixed Tryz.checked) (by kernel_rfl) ?_ | refine SW.cond ?_ | refine SW.skip ?_ | refine SW.exit ?_ | refine SW.ret ?_ | (refine allF_i fun b hb => ?_; replace hD := And.intro hb hD; clear hb; try simp only [fresh_cons, fresh_nil, and_true, ne_eq, neF] at hD) | simp only [appK, appOsK]); try simp only [go_sem, ↓reduceIte, reduceCtorEq, Nat.reduceAdd, Nat.reduceMul, Nat.reduceSub, Nat.reduceLT, Nat.reduceLeDiff, Nat.reduceEqDiff, Nat.reduceBEq, Nat.reduceBneDiff, Int.reduceToNat, Int.reduceEq, hD, e1]) | (refine And.intro (by omega) ?_) | (refine ifI (fun hc => ?_) (fun hc => ?_) <;> first | (exfalso; omega) | skip) | (first | (apply hK; clear hK K) | ((iterate 1 (clear hK K)); apply hK; clear hK K) | ((iterate 2 (clear hK K)); apply hK; clear hK K) | ((iterate 3 (clear hK K)); apply hK; clear hK K) | ((iterate 4 (clear hK K)); apply hK; clear hK K) | ((iterate 5 (clear hK K)); apply hK; clear hK K))
    apply ret_cell (i := 2) (n := 3); exact rfl; (simp only [go_sem, ↓reduceIte, reduceCtorEq, Nat.reduceAdd, Nat.reduceMul, Nat.reduceSub, Nat.reduceLT, Nat.reduceLeDiff, Nat.reduceEqDiff, Nat.reduceBEq, Nat.reduceBneDiff, Int.reduceToNat, Int.reduceEq, hD]; try rfl); (first | exact Nat.le_refl _ | decide); simp only [resL_tmp, resL_cellE, resC_ok, resL_nil, tupOf, getN, go_sem, ↓reduceIte, reduceCtorEq, Nat.reduceAdd, Nat.reduceMul, Nat.reduceSub, Nat.reduceLT, Nat.reduceLeDiff, Nat.reduceEqDiff, Nat.reduceBEq, Nat.reduceBneDiff, Int.reduceToNat, Int.reduceEq, hD]
  · have e1 : (s.toList == (⟨#[110, 117, 108, 108]⟩ : ByteArray).toList) = false := by rw [Bool.eq_false_iff]; exact fun x => h1 (barr_eq.1 x)
    by_cases h2 : s = ⟨#[]⟩
    · rw [if_pos (.inr h2)] at hR
      subst hR
      have e2 : (s.toList == (⟨#[]⟩ : ByteArray).toList) = true := barr_eq.2 h2
      refine Call.enter' (N := 38) (rs := [.cell 2 33]) Tryz.func55 rfl rfl rfl (by decide) rfl ?_; simp only [argT]; have hD : (0 : Nat) = 0 := rfl
      repeat' first | (with_reducible refine And.intro (by omega) ?_) | (refine SW.seq_k fun K hK => ?_) | (refine SW.block ?_) | ((first | refine SW.region ?_ | refine SW.regionD (Checked.mixed Tryz.checked) (by kernel_rfl) ?_ | refine SW.cond ?_ | refine SW.skip ?_ | refine SW.exit ?_ | refine SW.ret ?_ | (refine allF_i fun b hb => ?_; replace hD := And.intro hb hD; clear hb; try simp only [fresh_cons, fresh_nil, and_true, ne_eq, neF] at hD) | simp only [appK, appOsK]); try simp only [go_sem, ↓reduceIte, reduceCtorEq, Nat.reduceAdd, Nat.reduceMul, Nat.reduceSub, Nat.reduceLT, Nat.reduceLeDiff, Nat.reduceEqDiff, Nat.reduceBEq, Nat.reduceBneDiff, Int.reduceToNat, Int.reduceEq, hD, e1, e2]) | (refine And.intro (by omega) ?_) | (refine ifI (fun hc => ?_) (fun hc => ?_) <;> first | (exfalso; omega) | skip) | (first | (apply hK; clear hK K) | ((iterate 1 (clear hK K)); apply hK; clear hK K) | ((iterate 2 (clear hK K)); apply hK; clear hK K) | ((iterate 3 (clear hK K)); apply hK; clear hK K) | ((iterate 4 (clear hK K)); apply hK; clear hK K) | ((iterate 5 (clear hK K)); apply hK; clear hK K))
      apply ret_cell (i := 2) (n := 3); exact rfl; (simp only [go_sem, ↓reduceIte, reduceCtorEq, Nat.reduceAdd, Nat.reduceMul, Nat.reduceSub, Nat.reduceLT, Nat.reduceLeDiff, Nat.reduceEqDiff, Nat.reduceBEq, Nat.reduceBneDiff, Int.reduceToNat, Int.reduceEq, hD]; try rfl); (first | exact Nat.le_refl _ | decide); simp only [resL_tmp, resL_cellE, resC_ok, resL_nil, tupOf, getN, go_sem, ↓reduceIte, reduceCtorEq, Nat.reduceAdd, Nat.reduceMul, Nat.reduceSub, Nat.reduceLT, Nat.reduceLeDiff, Nat.reduceEqDiff, Nat.reduceBEq, Nat.reduceBneDiff, Int.reduceToNat, Int.reduceEq, hD]
    · rw [if_neg (fun x => x.elim h1 h2)] at hR
      have e2 : (s.toList == (⟨#[]⟩ : ByteArray).toList) = false := by rw [Bool.eq_false_iff]; exact fun x => h2 (barr_eq.1 x)
      have h0 : 0 < s.size := by
        rcases Nat.eq_zero_or_pos s.size with h | h
        · exfalso
          refine h2 (ba_ext ?_)
          have : s.data.toList = [] := List.eq_nil_of_length_eq_zero (by rw [ls]; exact h)
          rw [this]
        · exact h
      have h0i : (0 : Int) < ((s.size : Nat) : Int) := by omega
      obtain ⟨c, hc⟩ : ∃ c, c = s.data.toList.getD 0 0 := ⟨_, rfl⟩
      rw [← hc] at hR
      replace hc := hc.symm
      by_cases h3 : c = 34
      · rw [if_pos h3] at hR
        subst hR
        subst h3
        have u := unquoted_p s hs
        refine Call.enter' (N := 38) (rs := [.cell 2 33]) Tryz.func55 rfl rfl rfl (by decide) rfl ?_; simp only [argT]; have hD : (0 : Nat) = 0 := rfl
        repeat' first | (with_reducible refine And.intro (by omega) ?_) | (refine SW.seq_k fun K hK => ?_) | (refine SW.block ?_) | ((first | refine SW.region ?_ | refine SW.regionD (Checked.mixed Tryz.checked) (by kernel_rfl) ?_ | refine SW.cond ?_ | refine SW.skip ?_ | refine SW.exit ?_ | refine SW.ret ?_ | refine Call.of_pure (u) ?_ | refine ⟨_, u, ?_⟩ | (refine allF_i fun b hb => ?_; replace hD := And.intro hb hD; clear hb; try simp only [fresh_cons, fresh_nil, and_true, ne_eq, neF] at hD) | simp only [appK, appOsK]); try simp only [go_sem, ↓reduceIte, reduceCtorEq, Nat.reduceAdd, Nat.reduceMul, Nat.reduceSub, Nat.reduceLT, Nat.reduceLeDiff, Nat.reduceEqDiff, Nat.reduceBEq, Nat.reduceBneDiff, Int.reduceToNat, Int.reduceEq, hD, e1, e2, h0i, hc]) | (refine And.intro (by omega) ?_) | (refine ifI (fun hc => ?_) (fun hc => ?_) <;> first | (exfalso; omega) | skip) | (first | (apply hK; clear hK K) | ((iterate 1 (clear hK K)); apply hK; clear hK K) | ((iterate 2 (clear hK K)); apply hK; clear hK K) | ((iterate 3 (clear hK K)); apply hK; clear hK K) | ((iterate 4 (clear hK K)); apply hK; clear hK K) | ((iterate 5 (clear hK K)); apply hK; clear hK K))
        apply ret_cell (i := 2) (n := 3); exact rfl; (simp only [go_sem, ↓reduceIte, reduceCtorEq, Nat.reduceAdd, Nat.reduceMul, Nat.reduceSub, Nat.reduceLT, Nat.reduceLeDiff, Nat.reduceEqDiff, Nat.reduceBEq, Nat.reduceBneDiff, Int.reduceToNat, Int.reduceEq, hD]; try rfl); (first | exact Nat.le_refl _ | decide); simp only [resL_tmp, resL_cellE, resC_ok, resL_nil, tupOf, getN, go_sem, ↓reduceIte, reduceCtorEq, Nat.reduceAdd, Nat.reduceMul, Nat.reduceSub, Nat.reduceLT, Nat.reduceLeDiff, Nat.reduceEqDiff, Nat.reduceBEq, Nat.reduceBneDiff, Int.reduceToNat, Int.reduceEq, hD]
      · rw [if_neg h3] at hR
        have h3t : decide ((c.toNat : Int) = 34) = false := decide_eq_false (fun x => h3 (UInt8.toNat_inj.1 (show c.toNat = 34 by omega)))
        by_cases h4 : c = 63
        · rw [if_pos h4] at hR
          subst hR
          subst h4
          have pc := parseInt_c (s.extract 1 s.size) (by rw [ByteArray.size_extract]; omega)
          refine Call.enter' (N := 38) (rs := [.cell 2 33]) Tryz.func55 rfl rfl rfl (by decide) rfl ?_; simp only [argT]; have hD : (0 : Nat) = 0 := rfl
          repeat' first | (with_reducible refine And.intro (by omega) ?_) | (refine SW.seq_k fun K hK => ?_) | (refine SW.block ?_) | ((first | refine SW.region ?_ | refine SW.regionD (Checked.mixed Tryz.checked) (by kernel_rfl) ?_ | refine SW.cond ?_ | refine SW.skip ?_ | refine SW.exit ?_ | refine SW.ret ?_ | (refine allF_i fun b hb => ?_; replace hD := And.intro hb hD; clear hb; try simp only [fresh_cons, fresh_nil, and_true, ne_eq, neF] at hD) | simp only [appK, appOsK]); try simp only [go_sem, ↓reduceIte, reduceCtorEq, Nat.reduceAdd, Nat.reduceMul, Nat.reduceSub, Nat.reduceLT, Nat.reduceLeDiff, Nat.reduceEqDiff, Nat.reduceBEq, Nat.reduceBneDiff, Int.reduceToNat, Int.reduceEq, hD, e1, e2, h0i, hc]) | (refine And.intro (by omega) ?_) | (refine ifI (fun hc => ?_) (fun hc => ?_) <;> first | (exfalso; omega) | skip) | (first | (apply hK; clear hK K) | ((iterate 1 (clear hK K)); apply hK; clear hK K) | ((iterate 2 (clear hK K)); apply hK; clear hK K) | ((iterate 3 (clear hK K)); apply hK; clear hK K) | ((iterate 4 (clear hK K)); apply hK; clear hK K) | ((iterate 5 (clear hK K)); apply hK; clear hK K))
          refine ECall.use pc ?_
          rintro r ⟨er, rfl⟩
          simp only [go_sem, ↓reduceIte, reduceCtorEq, Nat.reduceAdd, Nat.reduceMul, Nat.reduceSub, Nat.reduceLT, Nat.reduceLeDiff, Nat.reduceEqDiff, Nat.reduceBEq, Nat.reduceBneDiff, Int.reduceToNat, Int.reduceEq, hD]
          repeat' first | (with_reducible refine And.intro (by omega) ?_) | (refine SW.seq_k fun K hK => ?_) | (refine SW.block ?_) | ((first | refine SW.region ?_ | refine SW.regionD (Checked.mixed Tryz.checked) (by kernel_rfl) ?_ | refine SW.cond ?_ | refine SW.skip ?_ | refine SW.exit ?_ | refine SW.ret ?_ | (refine allF_i fun b hb => ?_; replace hD := And.intro hb hD; clear hb; try simp only [fresh_cons, fresh_nil, and_true, ne_eq, neF] at hD) | simp only [appK, appOsK]); try simp only [go_sem, ↓reduceIte, reduceCtorEq, Nat.reduceAdd, Nat.reduceMul, Nat.reduceSub, Nat.reduceLT, Nat.reduceLeDiff, Nat.reduceEqDiff, Nat.reduceBEq, Nat.reduceBneDiff, Int.reduceToNat, Int.reduceEq, hD]) | (refine And.intro (by omega) ?_) | (refine ifI (fun hc => ?_) (fun hc => ?_) <;> first | (exfalso; omega) | skip) | (first | (apply hK; clear hK K) | ((iterate 1 (clear hK K)); apply hK; clear hK K) | ((iterate 2 (clear hK K)); apply hK; clear hK K) | ((iterate 3 (clear hK K)); apply hK; clear hK K) | ((iterate 4 (clear hK K)); apply hK; clear hK K) | ((iterate 5 (clear hK K)); apply hK; clear hK K))
          apply ret_cell (i := 2) (n := 3); exact rfl; (simp only [go_sem, ↓reduceIte, reduceCtorEq, Nat.reduceAdd, Nat.reduceMul, Nat.reduceSub, Nat.reduceLT, Nat.reduceLeDiff, Nat.reduceEqDiff, Nat.reduceBEq, Nat.reduceBneDiff, Int.reduceToNat, Int.reduceEq, hD]; try rfl); (first | exact Nat.le_refl _ | decide); simp only [resL_tmp, resL_cellE, resC_ok, resL_nil, tupOf, getN, go_sem, ↓reduceIte, reduceCtorEq, Nat.reduceAdd, Nat.reduceMul, Nat.reduceSub, Nat.reduceLT, Nat.reduceLeDiff, Nat.reduceEqDiff, Nat.reduceBEq, Nat.reduceBneDiff, Int.reduceToNat, Int.reduceEq, hD]
        · rw [if_neg h4] at hR
          subst hR
          have h4t : decide ((c.toNat : Int) = 63) = false := decide_eq_false (fun x => h4 (UInt8.toNat_inj.1 (show c.toNat = 63 by omega)))
          have pc := parseInt_c s (by omega)
          have ip := int_p (pintV s)
          refine Call.enter' (N := 38) (rs := [.cell 2 33]) Tryz.func55 rfl rfl rfl (by decide) rfl ?_; simp only [argT]; have hD : (0 : Nat) = 0 := rfl
          repeat' first | (with_reducible refine And.intro (by omega) ?_) | (refine SW.seq_k fun K hK => ?_) | (refine SW.block ?_) | ((first | refine SW.region ?_ | refine SW.regionD (Checked.mixed Tryz.checked) (by kernel_rfl) ?_ | refine SW.cond ?_ | refine SW.skip ?_ | refine SW.exit ?_ | refine SW.ret ?_ | (refine allF_i fun b hb => ?_; replace hD := And.intro hb hD; clear hb; try simp only [fresh_cons, fresh_nil, and_true, ne_eq, neF] at hD) | simp only [appK, appOsK]); try simp only [go_sem, ↓reduceIte, reduceCtorEq, Nat.reduceAdd, Nat.reduceMul, Nat.reduceSub, Nat.reduceLT, Nat.reduceLeDiff, Nat.reduceEqDiff, Nat.reduceBEq, Nat.reduceBneDiff, Int.reduceToNat, Int.reduceEq, hD, e1, e2, h0i, hc, h3t, h4t]) | (refine And.intro (by omega) ?_) | (refine ifI (fun hc => ?_) (fun hc => ?_) <;> first | (exfalso; omega) | skip) | (first | (apply hK; clear hK K) | ((iterate 1 (clear hK K)); apply hK; clear hK K) | ((iterate 2 (clear hK K)); apply hK; clear hK K) | ((iterate 3 (clear hK K)); apply hK; clear hK K) | ((iterate 4 (clear hK K)); apply hK; clear hK K) | ((iterate 5 (clear hK K)); apply hK; clear hK K))
          refine ECall.use pc ?_
          rintro r ⟨er, rfl⟩
          simp only [go_sem, ↓reduceIte, reduceCtorEq, Nat.reduceAdd, Nat.reduceMul, Nat.reduceSub, Nat.reduceLT, Nat.reduceLeDiff, Nat.reduceEqDiff, Nat.reduceBEq, Nat.reduceBneDiff, Int.reduceToNat, Int.reduceEq, hD]
          repeat' first | (with_reducible refine And.intro (by omega) ?_) | (refine SW.seq_k fun K hK => ?_) | (refine SW.block ?_) | ((first | refine SW.region ?_ | refine SW.regionD (Checked.mixed Tryz.checked) (by kernel_rfl) ?_ | refine SW.cond ?_ | refine SW.skip ?_ | refine SW.exit ?_ | refine SW.ret ?_ | refine Call.of_pure (ip) ?_ | refine ⟨_, ip, ?_⟩ | (refine allF_i fun b hb => ?_; replace hD := And.intro hb hD; clear hb; try simp only [fresh_cons, fresh_nil, and_true, ne_eq, neF] at hD) | simp only [appK, appOsK]); try simp only [go_sem, ↓reduceIte, reduceCtorEq, Nat.reduceAdd, Nat.reduceMul, Nat.reduceSub, Nat.reduceLT, Nat.reduceLeDiff, Nat.reduceEqDiff, Nat.reduceBEq, Nat.reduceBneDiff, Int.reduceToNat, Int.reduceEq, hD]) | (refine And.intro (by omega) ?_) | (refine ifI (fun hc => ?_) (fun hc => ?_) <;> first | (exfalso; omega) | skip) | (first | (apply hK; clear hK K) | ((iterate 1 (clear hK K)); apply hK; clear hK K) | ((iterate 2 (clear hK K)); apply hK; clear hK K) | ((iterate 3 (clear hK K)); apply hK; clear hK K) | ((iterate 4 (clear hK K)); apply hK; clear hK K) | ((iterate 5 (clear hK K)); apply hK; clear hK K))
          apply ret_cell (i := 2) (n := 3); exact rfl; (simp only [go_sem, ↓reduceIte, reduceCtorEq, Nat.reduceAdd, Nat.reduceMul, Nat.reduceSub, Nat.reduceLT, Nat.reduceLeDiff, Nat.reduceEqDiff, Nat.reduceBEq, Nat.reduceBneDiff, Int.reduceToNat, Int.reduceEq, hD]; try rfl); (first | exact Nat.le_refl _ | decide); simp only [resL_tmp, resL_cellE, resC_ok, resL_nil, tupOf, getN, go_sem, ↓reduceIte, reduceCtorEq, Nat.reduceAdd, Nat.reduceMul, Nat.reduceSub, Nat.reduceLT, Nat.reduceLeDiff, Nat.reduceEqDiff, Nat.reduceBEq, Nat.reduceBneDiff, Int.reduceToNat, Int.reduceEq, hD]

set_option maxRecDepth 20000 in
theorem parse_p (s : ByteArray) (hs : s.size ≤ 1000000) : PCall Tryz.prog 37 [Str s] (.tup [VT (parseV s).1, I64 (parseV s).2]) := by
  have g := guess_p s hs
  have hin := guess_in s
  unfold parseV
  generalize guessV s = v at *
  obtain ⟨k, n, t⟩ := v
  have f := format_p k n t hin
  cases hv : vok k n t with
  | false =>
    have e : fmtV k n t = (⟨#[]⟩, 1) := by rw [fmtV, if_neg (by rw [hv]; simp)]
    rw [e] at f
    rw [if_neg (by simp)]
    refine Call.enter' (N := 23) (rs := [.cell 2 33, .tmp 3]) Tryz.func37 rfl rfl rfl (by decide) rfl ?_; simp only [argT]; have hD : (0 : Nat) = 0 := rfl
    repeat' first | (with_reducible refine And.intro (by omega) ?_) | (refine SW.seq_k fun K hK => ?_) | (refine SW.block ?_) | ((first | refine SW.region ?_ | refine SW.regionD (Checked.mixed Tryz.checked) (by kernel_rfl) ?_ | refine SW.cond ?_ | refine SW.skip ?_ | refine SW.exit ?_ | refine SW.ret ?_ | refine Call.of_pure (g) ?_ | refine ⟨_, g, ?_⟩ | refine Call.of_pure (f) ?_ | refine ⟨_, f, ?_⟩ | (refine allF_i fun b hb => ?_; replace hD := And.intro hb hD; clear hb; try simp only [fresh_cons, fresh_nil, and_true, ne_eq, neF] at hD) | simp only [appK, appOsK]); try simp only [go_sem, ↓reduceIte, reduceCtorEq, Nat.reduceAdd, Nat.reduceMul, Nat.reduceSub, Nat.reduceLT, Nat.reduceLeDiff, Nat.reduceEqDiff, Nat.reduceBEq, Nat.reduceBneDiff, Int.reduceToNat, Int.reduceEq, hD]) | (refine And.intro (by omega) ?_) | (refine ifI (fun hc => ?_) (fun hc => ?_) <;> first | (exfalso; omega) | skip) | (first | (apply hK; clear hK K) | ((iterate 1 (clear hK K)); apply hK; clear hK K) | ((iterate 2 (clear hK K)); apply hK; clear hK K) | ((iterate 3 (clear hK K)); apply hK; clear hK K) | ((iterate 4 (clear hK K)); apply hK; clear hK K) | ((iterate 5 (clear hK K)); apply hK; clear hK K))
    apply ret_cell (i := 2) (n := 3); exact rfl; (simp only [go_sem, ↓reduceIte, reduceCtorEq, Nat.reduceAdd, Nat.reduceMul, Nat.reduceSub, Nat.reduceLT, Nat.reduceLeDiff, Nat.reduceEqDiff, Nat.reduceBEq, Nat.reduceBneDiff, Int.reduceToNat, Int.reduceEq, hD]; try rfl); (first | exact Nat.le_refl _ | decide); simp only [resL_tmp, resL_cellE, resC_ok, resL_nil, tupOf, getN, go_sem, ↓reduceIte, reduceCtorEq, Nat.reduceAdd, Nat.reduceMul, Nat.reduceSub, Nat.reduceLT, Nat.reduceLeDiff, Nat.reduceEqDiff, Nat.reduceBEq, Nat.reduceBneDiff, Int.reduceToNat, Int.reduceEq, hD]
  | true =>
    have e : fmtV k n t = (fmtS k n t, 0) := by rw [fmtV, if_pos hv]
    rw [e] at f
    simp only at f
    by_cases h : fmtS k n t = s
    · rw [if_pos ⟨rfl, h⟩]
      have ee : ((fmtS k n t).toList == s.toList) = true := barr_eq.2 h
      refine Call.enter' (N := 23) (rs := [.cell 2 33, .tmp 3]) Tryz.func37 rfl rfl rfl (by decide) rfl ?_; simp only [argT]; have hD : (0 : Nat) = 0 := rfl
      repeat' first | (with_reducible refine And.intro (by omega) ?_) | (refine SW.seq_k fun K hK => ?_) | (refine SW.block ?_) | ((first | refine SW.region ?_ | refine SW.regionD (Checked.mixed Tryz.checked) (by kernel_rfl) ?_ | refine SW.cond ?_ | refine SW.skip ?_ | refine SW.exit ?_ | refine SW.ret ?_ | refine Call.of_pure (g) ?_ | refine ⟨_, g, ?_⟩ | refine Call.of_pure (f) ?_ | refine ⟨_, f, ?_⟩ | (refine allF_i fun b hb => ?_; replace hD := And.intro hb hD; clear hb; try simp only [fresh_cons, fresh_nil, and_true, ne_eq, neF] at hD) | simp only [appK, appOsK]); try simp only [go_sem, ↓reduceIte, reduceCtorEq, Nat.reduceAdd, Nat.reduceMul, Nat.reduceSub, Nat.reduceLT, Nat.reduceLeDiff, Nat.reduceEqDiff, Nat.reduceBEq, Nat.reduceBneDiff, Int.reduceToNat, Int.reduceEq, hD, ee]) | (refine And.intro (by omega) ?_) | (refine ifI (fun hc => ?_) (fun hc => ?_) <;> first | (exfalso; omega) | skip) | (first | (apply hK; clear hK K) | ((iterate 1 (clear hK K)); apply hK; clear hK K) | ((iterate 2 (clear hK K)); apply hK; clear hK K) | ((iterate 3 (clear hK K)); apply hK; clear hK K) | ((iterate 4 (clear hK K)); apply hK; clear hK K) | ((iterate 5 (clear hK K)); apply hK; clear hK K))
      apply ret_cell (i := 2) (n := 3); exact rfl; (simp only [go_sem, ↓reduceIte, reduceCtorEq, Nat.reduceAdd, Nat.reduceMul, Nat.reduceSub, Nat.reduceLT, Nat.reduceLeDiff, Nat.reduceEqDiff, Nat.reduceBEq, Nat.reduceBneDiff, Int.reduceToNat, Int.reduceEq, hD]; try rfl); (first | exact Nat.le_refl _ | decide); simp only [resL_tmp, resL_cellE, resC_ok, resL_nil, tupOf, getN, go_sem, ↓reduceIte, reduceCtorEq, Nat.reduceAdd, Nat.reduceMul, Nat.reduceSub, Nat.reduceLT, Nat.reduceLeDiff, Nat.reduceEqDiff, Nat.reduceBEq, Nat.reduceBneDiff, Int.reduceToNat, Int.reduceEq, hD]
    · rw [if_neg (fun x => h x.2)]
      have ee : ((fmtS k n t).toList == s.toList) = false := by rw [Bool.eq_false_iff]; exact fun x => h (barr_eq.1 x)
      refine Call.enter' (N := 23) (rs := [.cell 2 33, .tmp 3]) Tryz.func37 rfl rfl rfl (by decide) rfl ?_; simp only [argT]; have hD : (0 : Nat) = 0 := rfl
      repeat' first | (with_reducible refine And.intro (by omega) ?_) | (refine SW.seq_k fun K hK => ?_) | (refine SW.block ?_) | ((first | refine SW.region ?_ | refine SW.regionD (Checked.mixed Tryz.checked) (by kernel_rfl) ?_ | refine SW.cond ?_ | refine SW.skip ?_ | refine SW.exit ?_ | refine SW.ret ?_ | refine Call.of_pure (g) ?_ | refine ⟨_, g, ?_⟩ | refine Call.of_pure (f) ?_ | refine ⟨_, f, ?_⟩ | (refine allF_i fun b hb => ?_; replace hD := And.intro hb hD; clear hb; try simp only [fresh_cons, fresh_nil, and_true, ne_eq, neF] at hD) | simp only [appK, appOsK]); try simp only [go_sem, ↓reduceIte, reduceCtorEq, Nat.reduceAdd, Nat.reduceMul, Nat.reduceSub, Nat.reduceLT, Nat.reduceLeDiff, Nat.reduceEqDiff, Nat.reduceBEq, Nat.reduceBneDiff, Int.reduceToNat, Int.reduceEq, hD, ee]) | (refine And.intro (by omega) ?_) | (refine ifI (fun hc => ?_) (fun hc => ?_) <;> first | (exfalso; omega) | skip) | (first | (apply hK; clear hK K) | ((iterate 1 (clear hK K)); apply hK; clear hK K) | ((iterate 2 (clear hK K)); apply hK; clear hK K) | ((iterate 3 (clear hK K)); apply hK; clear hK K) | ((iterate 4 (clear hK K)); apply hK; clear hK K) | ((iterate 5 (clear hK K)); apply hK; clear hK K))
      apply ret_cell (i := 2) (n := 3); exact rfl; (simp only [go_sem, ↓reduceIte, reduceCtorEq, Nat.reduceAdd, Nat.reduceMul, Nat.reduceSub, Nat.reduceLT, Nat.reduceLeDiff, Nat.reduceEqDiff, Nat.reduceBEq, Nat.reduceBneDiff, Int.reduceToNat, Int.reduceEq, hD]; try rfl); (first | exact Nat.le_refl _ | decide); simp only [resL_tmp, resL_cellE, resC_ok, resL_nil, tupOf, getN, go_sem, ↓reduceIte, reduceCtorEq, Nat.reduceAdd, Nat.reduceMul, Nat.reduceSub, Nat.reduceLT, Nat.reduceLeDiff, Nat.reduceEqDiff, Nat.reduceBEq, Nat.reduceBneDiff, Int.reduceToNat, Int.reduceEq, hD]
end Go.Proofs.YtajbifibhgppfaaGreatDoor
/- Contracts: hex, Unquote, integer of the reference. -/
set_option linter.unusedSimpArgs false
set_option linter.unusedVariables false
set_option linter.unusedSectionVars false
namespace Go.Ab.A01
open Go
/-- A hexadecimal digit's value, or -1. -/
def hexI (c : UInt8) : Int := if 48 ≤ c.toNat ∧ c.toNat ≤ 57 then ((c.toNat - 48 : Nat) : Int) else if 97 ≤ c.toNat ∧ c.toNat ≤ 102 then ((c.toNat - 87 : Nat) : Int) else -1
theorem hexI_hexd : ∀ u : Fin 16, hexI (hexd u.val) = (u.val : Int) := by decide +kernel
theorem hexI_le (c : UInt8) : -1 ≤ hexI c ∧ hexI c ≤ 15 := by
  unfold hexI
  split
  · omega
  · split <;> omega
/-- The byte behind a backslash and an x, as the reference reads it. -/
def hexQ (l : List UInt8) (i : Nat) : UInt8 := UInt8.ofNat ((16 * hexI (l.getD i 0) + hexI (l.getD (i + 1) 0)) % 256).toNat
theorem hexQ_of {s p r : List UInt8} {c : UInt8} (h : s = p ++ 92 :: 120 :: hexd (c.toNat / 16) :: hexd (c.toNat % 16) :: r) : hexQ s (p.length + 2) = c := by
  have c8 := c.toNat_lt
  unfold hexQ
  have g2 := getD_mid p (92 :: 120 :: hexd (c.toNat / 16) :: hexd (c.toNat % 16) :: r) 2
  have g3 := getD_mid p (92 :: 120 :: hexd (c.toNat / 16) :: hexd (c.toNat % 16) :: r) 3
  rw [← h] at g2 g3
  rw [g2, show p.length + 2 + 1 = p.length + 3 from rfl, g3]
  simp only [List.getD_cons_zero, List.getD_cons_succ]
  have h1 := hexI_hexd ⟨c.toNat / 16, by omega⟩
  have h2 := hexI_hexd ⟨c.toNat % 16, by omega⟩
  simp only at h1 h2
  rw [h1, h2]
  have e : ((16 * ((c.toNat / 16 : Nat) : Int) + ((c.toNat % 16 : Nat) : Int)) % 256).toNat = c.toNat := by omega
  rw [e]
  simp
end Go.Ab.A01
namespace Go.Proofs.YtajbifibhgppfaaGreatDoor
open Go Go.Ab Go.Ab.A01
variable [Gl] [Tabs]

theorem hex_r (c : UInt8) : PCall Tryz.prog 72 [.sc (.int .u8 (c.toNat : Int))] (I64 (hexI c)) := by
  have c8 := c.toNat_lt
  unfold hexI
  by_cases h1 : 48 ≤ c.toNat ∧ c.toNat ≤ 57
  · rw [if_pos h1]
    have e1 : IntKind.u8.wrap ((c.toNat : Int) - 48) = ((c.toNat - 48 : Nat) : Int) := by rw [u8n (by omega) (by omega)]; omega
    have e2 : IntKind.i64.wrap ((c.toNat - 48 : Nat) : Int) = ((c.toNat - 48 : Nat) : Int) := i64_wrap (by omega) (by omega)
    refine Call.enter' (N := 22) (rs := [.tmp 2]) Tryz.func72 rfl rfl rfl (by decide) rfl ?_; simp only [argT]; have hD : (0 : Nat) = 0 := rfl
    repeat' first | (with_reducible refine And.intro (by omega) ?_) | (refine SW.seq_k fun K hK => ?_) | (refine SW.block ?_) | ((first | refine SW.region ?_ | refine SW.regionD (Checked.mixed Tryz.checked) (by kernel_rfl) ?_ | refine SW.cond ?_ | refine SW.skip ?_ | refine SW.exit ?_ | refine SW.ret ?_ | (refine allF_i fun b hb => ?_; replace hD := And.intro hb hD; clear hb; try simp only [fresh_cons, fresh_nil, and_true, ne_eq, neF] at hD) | simp only [appK, appOsK]); try simp only [go_sem, ↓reduceIte, reduceCtorEq, Nat.reduceAdd, Nat.reduceMul, Nat.reduceSub, Nat.reduceLT, Nat.reduceLeDiff, Nat.reduceEqDiff, Nat.reduceBEq, Nat.reduceBneDiff, Int.reduceToNat, Int.reduceEq, hD, e1, e2]) | (refine And.intro (by omega) ?_) | (refine ifI (fun hc => ?_) (fun hc => ?_) <;> first | (exfalso; omega) | skip) | (first | (apply hK; clear hK K) | ((iterate 1 (clear hK K)); apply hK; clear hK K) | ((iterate 2 (clear hK K)); apply hK; clear hK K) | ((iterate 3 (clear hK K)); apply hK; clear hK K) | ((iterate 4 (clear hK K)); apply hK; clear hK K) | ((iterate 5 (clear hK K)); apply hK; clear hK K))
    refine ret_pure ?_; simp only [resL_tmp, resL_nil, tupOf, go_sem, ↓reduceIte, reduceCtorEq, Nat.reduceAdd, Nat.reduceMul, Nat.reduceSub, Nat.reduceLT, Nat.reduceLeDiff, Nat.reduceEqDiff, Nat.reduceBEq, Nat.reduceBneDiff, Int.reduceToNat, Int.reduceEq, hD]
  · rw [if_neg h1]
    by_cases h2 : 97 ≤ c.toNat ∧ c.toNat ≤ 102
    · rw [if_pos h2]
      have e1 : IntKind.u8.wrap ((c.toNat : Int) - 97) = ((c.toNat - 97 : Nat) : Int) := by rw [u8n (by omega) (by omega)]; omega
      have e2 : IntKind.i64.wrap ((c.toNat - 97 : Nat) : Int) = ((c.toNat - 97 : Nat) : Int) := i64_wrap (by omega) (by omega)
      have e3 : IntKind.i64.wrap (((c.toNat - 97 : Nat) : Int) + 10) = ((c.toNat - 87 : Nat) : Int) := by rw [i64_wrap (by omega) (by omega)]; omega
      refine Call.enter' (N := 22) (rs := [.tmp 2]) Tryz.func72 rfl rfl rfl (by decide) rfl ?_; simp only [argT]; have hD : (0 : Nat) = 0 := rfl
      repeat' first | (with_reducible refine And.intro (by omega) ?_) | (refine SW.seq_k fun K hK => ?_) | (refine SW.block ?_) | ((first | refine SW.region ?_ | refine SW.regionD (Checked.mixed Tryz.checked) (by kernel_rfl) ?_ | refine SW.cond ?_ | refine SW.skip ?_ | refine SW.exit ?_ | refine SW.ret ?_ | (refine allF_i fun b hb => ?_; replace hD := And.intro hb hD; clear hb; try simp only [fresh_cons, fresh_nil, and_true, ne_eq, neF] at hD) | simp only [appK, appOsK]); try simp only [go_sem, ↓reduceIte, reduceCtorEq, Nat.reduceAdd, Nat.reduceMul, Nat.reduceSub, Nat.reduceLT, Nat.reduceLeDiff, Nat.reduceEqDiff, Nat.reduceBEq, Nat.reduceBneDiff, Int.reduceToNat, Int.reduceEq, hD, e1, e2, e3]) | (refine And.intro (by omega) ?_) | (refine ifI (fun hc => ?_) (fun hc => ?_) <;> first | (exfalso; omega) | skip) | (first | (apply hK; clear hK K) | ((iterate 1 (clear hK K)); apply hK; clear hK K) | ((iterate 2 (clear hK K)); apply hK; clear hK K) | ((iterate 3 (clear hK K)); apply hK; clear hK K) | ((iterate 4 (clear hK K)); apply hK; clear hK K) | ((iterate 5 (clear hK K)); apply hK; clear hK K))
      all_goals refine ret_pure ?_; simp only [resL_tmp, resL_nil, tupOf, go_sem, ↓reduceIte, reduceCtorEq, Nat.reduceAdd, Nat.reduceMul, Nat.reduceSub, Nat.reduceLT, Nat.reduceLeDiff, Nat.reduceEqDiff, Nat.reduceBEq, Nat.reduceBneDiff, Int.reduceToNat, Int.reduceEq, hD]
    · rw [if_neg h2]
      refine Call.enter' (N := 22) (rs := [.tmp 2]) Tryz.func72 rfl rfl rfl (by decide) rfl ?_; simp only [argT]; have hD : (0 : Nat) = 0 := rfl
      repeat' first | (with_reducible refine And.intro (by omega) ?_) | (refine SW.seq_k fun K hK => ?_) | (refine SW.block ?_) | ((first | refine SW.region ?_ | refine SW.regionD (Checked.mixed Tryz.checked) (by kernel_rfl) ?_ | refine SW.cond ?_ | refine SW.skip ?_ | refine SW.exit ?_ | refine SW.ret ?_ | (refine allF_i fun b hb => ?_; replace hD := And.intro hb hD; clear hb; try simp only [fresh_cons, fresh_nil, and_true, ne_eq, neF] at hD) | simp only [appK, appOsK]); try simp only [go_sem, ↓reduceIte, reduceCtorEq, Nat.reduceAdd, Nat.reduceMul, Nat.reduceSub, Nat.reduceLT, Nat.reduceLeDiff, Nat.reduceEqDiff, Nat.reduceBEq, Nat.reduceBneDiff, Int.reduceToNat, Int.reduceEq, hD]) | (refine And.intro (by omega) ?_) | (refine ifI (fun hc => ?_) (fun hc => ?_) <;> first | (exfalso; omega) | skip) | (first | (apply hK; clear hK K) | ((iterate 1 (clear hK K)); apply hK; clear hK K) | ((iterate 2 (clear hK K)); apply hK; clear hK K) | ((iterate 3 (clear hK K)); apply hK; clear hK K) | ((iterate 4 (clear hK K)); apply hK; clear hK K) | ((iterate 5 (clear hK K)); apply hK; clear hK K))
      all_goals refine ret_pure ?_; simp only [resL_tmp, resL_nil, tupOf, go_sem, ↓reduceIte, reduceCtorEq, Nat.reduceAdd, Nat.reduceMul, Nat.reduceSub, Nat.reduceLT, Nat.reduceLeDiff, Nat.reduceEqDiff, Nat.reduceBEq, Nat.reduceBneDiff, Int.reduceToNat, Int.reduceEq, hD]

set_option maxHeartbeats 4000000 in
set_option maxRecDepth 20000 in
theorem unquote_r (s : ByteArray) (hs : s.size ≤ 1000000) : PCall Tryz.prog 61 [Str s] (Str (mkB (unqR hexQ s.data.toList s.size 1))) := by
  have ls : s.data.toList.length = s.size := Array.length_toList
  obtain ⟨R, hR⟩ : ∃ R, R = unqR hexQ s.data.toList s.size 1 := ⟨_, rfl⟩
  rw [← hR]
  refine Call.enter' (N := 80) (rs := [.tmp 2]) Tryz.func61 rfl rfl rfl (by decide) rfl ?_; simp only [argT]; have hD : (0 : Nat) = 0 := rfl
  repeat' first | (with_reducible refine And.intro (by omega) ?_) | (refine SW.seq_k fun K hK => ?_) | ((first | refine SW.region ?_ | refine SW.regionD (Checked.mixed Tryz.checked) (by kernel_rfl) ?_ | refine SW.cond ?_ | refine SW.skip ?_ | refine SW.exit ?_ | refine SW.ret ?_ | (refine allF_i fun b hb => ?_; replace hD := And.intro hb hD; clear hb; try simp only [fresh_cons, fresh_nil, and_true, ne_eq, neF] at hD) | simp only [appK, appOsK]); try simp only [go_sem, ↓reduceIte, reduceCtorEq, Nat.reduceAdd, Nat.reduceMul, Nat.reduceSub, Nat.reduceLT, Nat.reduceLeDiff, Nat.reduceEqDiff, Nat.reduceBEq, Nat.reduceBneDiff, Int.reduceToNat, Int.reduceEq, hD]) | (refine And.intro (by omega) ?_) | (refine ifI (fun hc => ?_) (fun hc => ?_) <;> first | (exfalso; omega) | skip) | (first | (apply hK; clear hK K) | ((iterate 1 (clear hK K)); apply hK; clear hK K) | ((iterate 2 (clear hK K)); apply hK; clear hK K) | ((iterate 3 (clear hK K)); apply hK; clear hK K) | ((iterate 4 (clear hK K)); apply hK; clear hK K) | ((iterate 5 (clear hK K)); apply hK; clear hK K))
  refine SW.block ?_
  obtain ⟨I, hI⟩ : ∃ I : Nat → St → Prop, ∀ k S, I k S ↔ (∃ (i f : Nat) (l : List UInt8) (x : SV) (h : Heap), k = f ∧ 1 ≤ i ∧ s.size ≤ i + f ∧ i ≤ s.size + 4 ∧ l.length ≤ i ∧ R = l ++ unqR hexQ s.data.toList f i ∧ Acc 1 x h [] l.length (byts l) ∧ S = ⟨[(0, Str s), (3, x), (4, I64 i)], h⟩) := ⟨fun k S => _, fun _ _ => Iff.rfl⟩
  refine SW.loop' I s.size ((hI _ _).2 ⟨1, s.size, [], _, _, rfl, Nat.le_refl _, by omega, by omega, Nat.zero_le _, hR, .inr ⟨b, .svs [], trivial, rfl, rfl, rfl, rfl⟩, rfl⟩) (by repeat' (first | exact rfl | exact trivial | exact int_eq (by omega) | exact int_eq (by (rw [i64_wrap] <;> omega)) | constructor)) ?_
  clear hD
  have hD : (0 : Nat) = 0 := rfl
  intro f S hIn
  obtain ⟨i, f', l, x, h, rfl, hi1, hif, hi4, hl, hC, hB, rfl⟩ := (hI _ _).1 hIn
  clear hIn
  clear hR
  have ie : ((i : Nat) : Int).toNat = i := Int.toNat_natCast _
  have i0 : (0 : Int) ≤ ((i : Nat) : Int) := by omega
  have ws : IntKind.i64.wrap ((s.size : Int) - 1) = (s.size : Int) - 1 := i64_wrap (by omega) (by omega)
  have w1 : IntKind.i64.wrap ((i : Int) + 1) = ((i + 1 : Nat) : Int) := by rw [i64_wrap (by omega) (by omega)]; omega
  by_cases h1 : i + 1 < s.size
  · have h1i : ((i : Nat) : Int) < ((s.size : Nat) : Int) - 1 := by omega
    have h1j : ((i : Nat) : Int) < ((s.size : Nat) : Int) := by omega
    obtain ⟨f, rfl⟩ : ∃ g, f = g + 1 := ⟨f - 1, by omega⟩
    unfold unqR at hC
    rw [if_pos (by rw [ls]; exact h1), ls] at hC
    obtain ⟨c, hc⟩ : ∃ c, c = s.data.toList.getD i 0 := ⟨_, rfl⟩
    rw [← hc] at hC
    replace hc := hc.symm
    have c8 := c.toNat_lt
    by_cases hb : c.toNat = 92 ∧ ¬ s.size ≤ i + 2
    · have hc92 : c = 92 := UInt8.toNat_inj.1 hb.1
      rw [if_neg (fun x => x.elim (fun x => x hc92) hb.2)] at hC
      have hbt : decide ((c.toNat : Int) = 92) = true := decide_eq_true (by omega)
      have hbt2 : (c.toNat : Int) = 92 := by omega
      have h2i : ((i + 1 : Nat) : Int) < ((s.size : Nat) : Int) := by omega
      have h2j : ¬ ((s.size : Nat) : Int) - 1 ≤ ((i + 1 : Nat) : Int) := by omega
      have ie2 : ((i + 1 : Nat) : Int).toNat = i + 1 := Int.toNat_natCast _
      obtain ⟨d, hd⟩ : ∃ d, d = s.data.toList.getD (i + 1) 0 := ⟨_, rfl⟩
      rw [← hd] at hC
      replace hd := hd.symm
      have d8 := d.toNat_lt
      have w2 : IntKind.i64.wrap (((i + 1 : Nat) : Int) + 1) = ((i + 2 : Nat) : Int) := by rw [i64_wrap (by omega) (by omega)]; omega
      have w4 : IntKind.i64.wrap (((i + 1 : Nat) : Int) + 2) = ((i + 3 : Nat) : Int) := by rw [i64_wrap (by omega) (by omega)]; omega
      by_cases hn : d.toNat = 110
      · rw [if_pos (UInt8.toNat_inj.1 hn)] at hC
        have hnt : decide ((d.toNat : Int) = 110) = true := decide_eq_true (by omega)
        repeat' first | ((with_reducible refine appK_byts (l2 := [10]) hB ?_ ?_ ?_ ?_ ?_ ?_ ?_ ?_ ?_); (iterate 8 (first | rfl | exact hD | exact hD.1 | exact hD.2.1 | exact hD.2.2.1 | exact Nat.succ_pos _ | (simp only [List.length_cons, List.length_nil]; omega))); intro b' blk' h' h'' n3 hn3 hfind hcells hcv hB' hle; clear hB; have hB := hB'; clear hB'; (try simp only [go_sem, ↓reduceIte, reduceCtorEq, Nat.reduceAdd, Nat.reduceMul, Nat.reduceSub, Nat.reduceLT, Nat.reduceLeDiff, Nat.reduceEqDiff, Nat.reduceBEq, Nat.reduceBneDiff, Int.reduceToNat, Int.reduceEq, hD] at hcv); simp only [go_sem, ↓reduceIte, reduceCtorEq, Nat.reduceAdd, Nat.reduceMul, Nat.reduceSub, Nat.reduceLT, Nat.reduceLeDiff, Nat.reduceEqDiff, Nat.reduceBEq, Nat.reduceBneDiff, Int.reduceToNat, Int.reduceEq, hD, hfind, hcv]; (first | (apply hK; clear hK K) | ((iterate 1 (clear hK K)); apply hK; clear hK K) | ((iterate 2 (clear hK K)); apply hK; clear hK K) | ((iterate 3 (clear hK K)); apply hK; clear hK K) | ((iterate 4 (clear hK K)); apply hK; clear hK K) | ((iterate 5 (clear hK K)); apply hK; clear hK K)); refine SW.le (hle _) ?_; clear hle hfind hcv hcells) | (with_reducible refine And.intro (by omega) ?_) | (refine SW.seq_k fun K hK => ?_) | (refine SW.block ?_) | ((first | refine SW.region ?_ | refine SW.regionZ (id := 12) (Checked.mixed Tryz.checked) ((.one 0 [0, 15, 16] (.one 1 [1, 4, 5, 6, 11, 12, 13, 14, 15, 16] (.one 2 [2, 3, 4, 5, 6, 11, 12, 13, 14, 15, 16] (.one 3 [3, 4, 5, 6, 11, 12, 13, 14, 15, 16] (.one 4 [4, 5, 6, 11, 12, 13, 14, 15, 16] (.one 5 [5, 6, 11, 12, 13, 14, 15, 16] (.one 6 [6, 12, 13, 14, 15, 16] (.one 7 [7, 10, 11, 12, 13, 14, 15, 16] (.one 8 [8, 9, 10, 11, 12, 13, 14, 15, 16] (.one 9 [9, 10, 11, 12, 13, 14, 15, 16] (.one 10 [10, 11, 12, 13, 14, 15, 16] (.one 11 [11, 12, 13, 14, 15, 16] (.one 12 [12, 13, 14, 15, 16] (.one 13 [13, 14, 15, 16] (.alt 14 (.alt 15 (.one 16 [16] .done) .nil) .nil))))))))))))))) : OZ) (by kernel_rfl) ?_ | refine SW.regionD (Checked.mixed Tryz.checked) (by kernel_rfl) ?_ | refine SW.cond ?_ | refine SW.skip ?_ | refine SW.exit ?_ | refine SW.ret ?_ | (refine allF_i fun b hb => ?_; replace hD := And.intro hb hD; clear hb; try simp only [fresh_cons, fresh_nil, and_true, ne_eq, neF] at hD) | simp only [appK, appOsK]); try simp only [go_sem, ↓reduceIte, reduceCtorEq, Nat.reduceAdd, Nat.reduceMul, Nat.reduceSub, Nat.reduceLT, Nat.reduceLeDiff, Nat.reduceEqDiff, Nat.reduceBEq, Nat.reduceBneDiff, Int.reduceToNat, Int.reduceEq, hD, h1i, h1j, ie, i0, ws, w1, hc, hbt, hbt2, h2i, h2j, ie2, hd, hnt, w2]) | (refine And.intro (by omega) ?_) | (refine ifI (fun hc => ?_) (fun hc => ?_) <;> first | (exfalso; omega) | skip) | (first | (apply hK; clear hK K) | ((iterate 1 (clear hK K)); apply hK; clear hK K) | ((iterate 2 (clear hK K)); apply hK; clear hK K) | ((iterate 3 (clear hK K)); apply hK; clear hK K) | ((iterate 4 (clear hK K)); apply hK; clear hK K) | ((iterate 5 (clear hK K)); apply hK; clear hK K)) | (refine And.intro ?_ ?_)
        refine Rnd.sub f (by omega) ((hI _ _).2 ⟨i + 2, f, l ++ [10], _, _, rfl, by omega, by omega, by omega, by rw [List.length_append]; simp only [List.length_cons, List.length_nil]; omega, by rw [hC, List.append_assoc]; rfl, hB, rfl⟩) (by repeat' (first | exact rfl | exact trivial | exact int_eq (by omega) | exact int_eq (by (rw [i64_wrap] <;> omega)) | constructor))
      · rw [if_neg (fun e => hn (by rw [e]; rfl))] at hC
        have hnt : decide ((d.toNat : Int) = 110) = false := decide_eq_false (by omega)
        by_cases hx : d.toNat = 120 ∧ i + 4 < s.size
        · rw [if_pos ⟨UInt8.toNat_inj.1 hx.1, hx.2⟩] at hC
          have hxt : decide ((d.toNat : Int) = 120) = true := decide_eq_true (by omega)
          have hxj : ((i + 3 : Nat) : Int) < ((s.size : Nat) : Int) - 1 := by omega
          have w5 : IntKind.i64.wrap (((i + 3 : Nat) : Int) + 1) = ((i + 4 : Nat) : Int) := by rw [i64_wrap (by omega) (by omega)]; omega
          have ie3 : ((i + 2 : Nat) : Int).toNat = i + 2 := Int.toNat_natCast _
          have ie4 : ((i + 3 : Nat) : Int).toNat = i + 3 := Int.toNat_natCast _
          have b2 : ((i + 2 : Nat) : Int) < ((s.size : Nat) : Int) := by omega
          have b3 : ((i + 3 : Nat) : Int) < ((s.size : Nat) : Int) := by omega
          have p2 : (0 : Int) ≤ ((i + 2 : Nat) : Int) := by omega
          have p3 : (0 : Int) ≤ ((i + 3 : Nat) : Int) := by omega
          have x1 := hex_r (s.data.toList.getD (i + 2) 0)
          have x2 := hex_r (s.data.toList.getD (i + 3) 0)
          have l1 := hexI_le (s.data.toList.getD (i + 2) 0)
          have l2 := hexI_le (s.data.toList.getD (i + 3) 0)
          have he0 : hexQ s.data.toList (i + 2) = UInt8.ofNat ((16 * hexI (s.data.toList.getD (i + 2) 0) + hexI (s.data.toList.getD (i + 3) 0)) % 256).toNat := rfl
          generalize hexI (s.data.toList.getD (i + 2) 0) = A at *
          generalize hexI (s.data.toList.getD (i + 3) 0) = B at *
          obtain ⟨e, he⟩ : ∃ e, e = hexQ s.data.toList (i + 2) := ⟨_, rfl⟩
          rw [← he] at hC
          have m1 : IntKind.i64.wrap (16 * A) = 16 * A := i64_wrap (by omega) (by omega)
          have m2 : IntKind.i64.wrap (16 * A + B) = 16 * A + B := i64_wrap (by omega) (by omega)
          have ub : IntKind.u8.wrap (16 * A + B) = (e.toNat : Int) := by
            rw [he, he0, UInt8.toNat_ofNat', IntKind.wrap_u8']
            omega
          repeat' first | ((with_reducible refine appK_byts (l2 := [e]) hB ?_ ?_ ?_ ?_ ?_ ?_ ?_ ?_ ?_); (iterate 8 (first | rfl | exact hD | exact hD.1 | exact hD.2.1 | exact hD.2.2.1 | exact Nat.succ_pos _ | (simp only [List.length_cons, List.length_nil]; omega))); intro b' blk' h' h'' n3 hn3 hfind hcells hcv hB' hle; clear hB; have hB := hB'; clear hB'; (try simp only [go_sem, ↓reduceIte, reduceCtorEq, Nat.reduceAdd, Nat.reduceMul, Nat.reduceSub, Nat.reduceLT, Nat.reduceLeDiff, Nat.reduceEqDiff, Nat.reduceBEq, Nat.reduceBneDiff, Int.reduceToNat, Int.reduceEq, hD] at hcv); simp only [go_sem, ↓reduceIte, reduceCtorEq, Nat.reduceAdd, Nat.reduceMul, Nat.reduceSub, Nat.reduceLT, Nat.reduceLeDiff, Nat.reduceEqDiff, Nat.reduceBEq, Nat.reduceBneDiff, Int.reduceToNat, Int.reduceEq, hD, hfind, hcv]; (first | (apply hK; clear hK K) | ((iterate 1 (clear hK K)); apply hK; clear hK K) | ((iterate 2 (clear hK K)); apply hK; clear hK K) | ((iterate 3 (clear hK K)); apply hK; clear hK K) | ((iterate 4 (clear hK K)); apply hK; clear hK K) | ((iterate 5 (clear hK K)); apply hK; clear hK K)); refine SW.le (hle _) ?_; clear hle hfind hcv hcells) | (with_reducible refine And.intro (by omega) ?_) | (refine SW.seq_k fun K hK => ?_) | (refine SW.block ?_) | ((first | refine SW.region ?_ | refine SW.regionZ (id := 12) (Checked.mixed Tryz.checked) ((.one 0 [0, 15, 16] (.one 1 [1, 4, 5, 6, 11, 12, 13, 14, 15, 16] (.one 2 [2, 3, 4, 5, 6, 11, 12, 13, 14, 15, 16] (.one 3 [3, 4, 5, 6, 11, 12, 13, 14, 15, 16] (.one 4 [4, 5, 6, 11, 12, 13, 14, 15, 16] (.one 5 [5, 6, 11, 12, 13, 14, 15, 16] (.one 6 [6, 12, 13, 14, 15, 16] (.one 7 [7, 10, 11, 12, 13, 14, 15, 16] (.one 8 [8, 9, 10, 11, 12, 13, 14, 15, 16] (.one 9 [9, 10, 11, 12, 13, 14, 15, 16] (.one 10 [10, 11, 12, 13, 14, 15, 16] (.one 11 [11, 12, 13, 14, 15, 16] (.one 12 [12, 13, 14, 15, 16] (.one 13 [13, 14, 15, 16] (.alt 14 (.alt 15 (.one 16 [16] .done) .nil) .nil))))))))))))))) : OZ) (by kernel_rfl) ?_ | refine SW.regionD (Checked.mixed Tryz.checked) (by kernel_rfl) ?_ | refine SW.cond ?_ | refine SW.skip ?_ | refine SW.exit ?_ | refine SW.ret ?_ | refine Call.of_pure (x1) ?_ | refine ⟨_, x1, ?_⟩ | refine Call.of_pure (x2) ?_ | refine ⟨_, x2, ?_⟩ | (refine allF_i fun b hb => ?_; replace hD := And.intro hb hD; clear hb; try simp only [fresh_cons, fresh_nil, and_true, ne_eq, neF] at hD) | simp only [appK, appOsK]); try simp only [go_sem, ↓reduceIte, reduceCtorEq, Nat.reduceAdd, Nat.reduceMul, Nat.reduceSub, Nat.reduceLT, Nat.reduceLeDiff, Nat.reduceEqDiff, Nat.reduceBEq, Nat.reduceBneDiff, Int.reduceToNat, Int.reduceEq, hD, h1i, h1j, ie, i0, ws, w1, hc, hbt, hbt2, h2i, h2j, ie2, hd, hnt, hxt, hxj, w2, w4, w5, ie3, ie4, b2, b3, p2, p3, m1, m2, ub]) | (refine And.intro (by omega) ?_) | (refine ifI (fun hc => ?_) (fun hc => ?_) <;> first | (exfalso; omega) | skip) | (first | (apply hK; clear hK K) | ((iterate 1 (clear hK K)); apply hK; clear hK K) | ((iterate 2 (clear hK K)); apply hK; clear hK K) | ((iterate 3 (clear hK K)); apply hK; clear hK K) | ((iterate 4 (clear hK K)); apply hK; clear hK K) | ((iterate 5 (clear hK K)); apply hK; clear hK K)) | (refine And.intro ?_ ?_)
          refine Rnd.sub f (by omega) ((hI _ _).2 ⟨i + 4, f, l ++ [e], _, _, rfl, by omega, by omega, by omega, by rw [List.length_append]; simp only [List.length_cons, List.length_nil]; omega, by rw [hC, List.append_assoc]; rfl, hB, rfl⟩) (by repeat' (first | exact rfl | exact trivial | exact int_eq (by omega) | exact int_eq (by (rw [i64_wrap] <;> omega)) | constructor))
        · rw [if_neg (fun e => hx ⟨by rw [e.1]; rfl, e.2⟩)] at hC
          have hxx : ¬ ((d.toNat : Int) = 120 ∧ ((i + 3 : Nat) : Int) < ((s.size : Nat) : Int) - 1) := by omega
          by_cases hx1 : d.toNat = 120
          · have hxt : decide ((d.toNat : Int) = 120) = true := decide_eq_true (by omega)
            have hxj : ¬ ((i + 3 : Nat) : Int) < ((s.size : Nat) : Int) - 1 := by omega
            repeat' first | ((with_reducible refine appK_byts (l2 := [d]) hB ?_ ?_ ?_ ?_ ?_ ?_ ?_ ?_ ?_); (iterate 8 (first | rfl | exact hD | exact hD.1 | exact hD.2.1 | exact hD.2.2.1 | exact Nat.succ_pos _ | (simp only [List.length_cons, List.length_nil]; omega))); intro b' blk' h' h'' n3 hn3 hfind hcells hcv hB' hle; clear hB; have hB := hB'; clear hB'; (try simp only [go_sem, ↓reduceIte, reduceCtorEq, Nat.reduceAdd, Nat.reduceMul, Nat.reduceSub, Nat.reduceLT, Nat.reduceLeDiff, Nat.reduceEqDiff, Nat.reduceBEq, Nat.reduceBneDiff, Int.reduceToNat, Int.reduceEq, hD] at hcv); simp only [go_sem, ↓reduceIte, reduceCtorEq, Nat.reduceAdd, Nat.reduceMul, Nat.reduceSub, Nat.reduceLT, Nat.reduceLeDiff, Nat.reduceEqDiff, Nat.reduceBEq, Nat.reduceBneDiff, Int.reduceToNat, Int.reduceEq, hD, hfind, hcv]; (first | (apply hK; clear hK K) | ((iterate 1 (clear hK K)); apply hK; clear hK K) | ((iterate 2 (clear hK K)); apply hK; clear hK K) | ((iterate 3 (clear hK K)); apply hK; clear hK K) | ((iterate 4 (clear hK K)); apply hK; clear hK K) | ((iterate 5 (clear hK K)); apply hK; clear hK K)); refine SW.le (hle _) ?_; clear hle hfind hcv hcells) | (with_reducible refine And.intro (by omega) ?_) | (refine SW.seq_k fun K hK => ?_) | (refine SW.block ?_) | ((first | refine SW.region ?_ | refine SW.regionZ (id := 12) (Checked.mixed Tryz.checked) ((.one 0 [0, 15, 16] (.one 1 [1, 4, 5, 6, 11, 12, 13, 14, 15, 16] (.one 2 [2, 3, 4, 5, 6, 11, 12, 13, 14, 15, 16] (.one 3 [3, 4, 5, 6, 11, 12, 13, 14, 15, 16] (.one 4 [4, 5, 6, 11, 12, 13, 14, 15, 16] (.one 5 [5, 6, 11, 12, 13, 14, 15, 16] (.one 6 [6, 12, 13, 14, 15, 16] (.one 7 [7, 10, 11, 12, 13, 14, 15, 16] (.one 8 [8, 9, 10, 11, 12, 13, 14, 15, 16] (.one 9 [9, 10, 11, 12, 13, 14, 15, 16] (.one 10 [10, 11, 12, 13, 14, 15, 16] (.one 11 [11, 12, 13, 14, 15, 16] (.one 12 [12, 13, 14, 15, 16] (.one 13 [13, 14, 15, 16] (.alt 14 (.alt 15 (.one 16 [16] .done) .nil) .nil))))))))))))))) : OZ) (by kernel_rfl) ?_ | refine SW.regionD (Checked.mixed Tryz.checked) (by kernel_rfl) ?_ | refine SW.cond ?_ | refine SW.skip ?_ | refine SW.exit ?_ | refine SW.ret ?_ | (refine allF_i fun b hb => ?_; replace hD := And.intro hb hD; clear hb; try simp only [fresh_cons, fresh_nil, and_true, ne_eq, neF] at hD) | simp only [appK, appOsK]); try simp only [go_sem, ↓reduceIte, reduceCtorEq, Nat.reduceAdd, Nat.reduceMul, Nat.reduceSub, Nat.reduceLT, Nat.reduceLeDiff, Nat.reduceEqDiff, Nat.reduceBEq, Nat.reduceBneDiff, Int.reduceToNat, Int.reduceEq, hD, h1i, h1j, ie, i0, ws, w1, hc, hbt, hbt2, h2i, h2j, ie2, hd, hnt, hxt, hxj, w2, w4]) | (refine And.intro (by omega) ?_) | (refine ifI (fun hc => ?_) (fun hc => ?_) <;> first | (exfalso; omega) | skip) | (first | (apply hK; clear hK K) | ((iterate 1 (clear hK K)); apply hK; clear hK K) | ((iterate 2 (clear hK K)); apply hK; clear hK K) | ((iterate 3 (clear hK K)); apply hK; clear hK K) | ((iterate 4 (clear hK K)); apply hK; clear hK K) | ((iterate 5 (clear hK K)); apply hK; clear hK K)) | (refine And.intro ?_ ?_)
            refine Rnd.sub f (by omega) ((hI _ _).2 ⟨i + 2, f, l ++ [d], _, _, rfl, by omega, by omega, by omega, by rw [List.length_append]; simp only [List.length_cons, List.length_nil]; omega, by rw [hC, List.append_assoc]; rfl, hB, rfl⟩) (by repeat' (first | exact rfl | exact trivial | exact int_eq (by omega) | exact int_eq (by (rw [i64_wrap] <;> omega)) | constructor))
          · have hxt : decide ((d.toNat : Int) = 120) = false := decide_eq_false (by omega)
            repeat' first | ((with_reducible refine appK_byts (l2 := [d]) hB ?_ ?_ ?_ ?_ ?_ ?_ ?_ ?_ ?_); (iterate 8 (first | rfl | exact hD | exact hD.1 | exact hD.2.1 | exact hD.2.2.1 | exact Nat.succ_pos _ | (simp only [List.length_cons, List.length_nil]; omega))); intro b' blk' h' h'' n3 hn3 hfind hcells hcv hB' hle; clear hB; have hB := hB'; clear hB'; (try simp only [go_sem, ↓reduceIte, reduceCtorEq, Nat.reduceAdd, Nat.reduceMul, Nat.reduceSub, Nat.reduceLT, Nat.reduceLeDiff, Nat.reduceEqDiff, Nat.reduceBEq, Nat.reduceBneDiff, Int.reduceToNat, Int.reduceEq, hD] at hcv); simp only [go_sem, ↓reduceIte, reduceCtorEq, Nat.reduceAdd, Nat.reduceMul, Nat.reduceSub, Nat.reduceLT, Nat.reduceLeDiff, Nat.reduceEqDiff, Nat.reduceBEq, Nat.reduceBneDiff, Int.reduceToNat, Int.reduceEq, hD, hfind, hcv]; (first | (apply hK; clear hK K) | ((iterate 1 (clear hK K)); apply hK; clear hK K) | ((iterate 2 (clear hK K)); apply hK; clear hK K) | ((iterate 3 (clear hK K)); apply hK; clear hK K) | ((iterate 4 (clear hK K)); apply hK; clear hK K) | ((iterate 5 (clear hK K)); apply hK; clear hK K)); refine SW.le (hle _) ?_; clear hle hfind hcv hcells) | (with_reducible refine And.intro (by omega) ?_) | (refine SW.seq_k fun K hK => ?_) | (refine SW.block ?_) | ((first | refine SW.region ?_ | refine SW.regionZ (id := 12) (Checked.mixed Tryz.checked) ((.one 0 [0, 15, 16] (.one 1 [1, 4, 5, 6, 11, 12, 13, 14, 15, 16] (.one 2 [2, 3, 4, 5, 6, 11, 12, 13, 14, 15, 16] (.one 3 [3, 4, 5, 6, 11, 12, 13, 14, 15, 16] (.one 4 [4, 5, 6, 11, 12, 13, 14, 15, 16] (.one 5 [5, 6, 11, 12, 13, 14, 15, 16] (.one 6 [6, 12, 13, 14, 15, 16] (.one 7 [7, 10, 11, 12, 13, 14, 15, 16] (.one 8 [8, 9, 10, 11, 12, 13, 14, 15, 16] (.one 9 [9, 10, 11, 12, 13, 14, 15, 16] (.one 10 [10, 11, 12, 13, 14, 15, 16] (.one 11 [11, 12, 13, 14, 15, 16] (.one 12 [12, 13, 14, 15, 16] (.one 13 [13, 14, 15, 16] (.alt 14 (.alt 15 (.one 16 [16] .done) .nil) .nil))))))))))))))) : OZ) (by kernel_rfl) ?_ | refine SW.regionD (Checked.mixed Tryz.checked) (by kernel_rfl) ?_ | refine SW.cond ?_ | refine SW.skip ?_ | refine SW.exit ?_ | refine SW.ret ?_ | (refine allF_i fun b hb => ?_; replace hD := And.intro hb hD; clear hb; try simp only [fresh_cons, fresh_nil, and_true, ne_eq, neF] at hD) | simp only [appK, appOsK]); try simp only [go_sem, ↓reduceIte, reduceCtorEq, Nat.reduceAdd, Nat.reduceMul, Nat.reduceSub, Nat.reduceLT, Nat.reduceLeDiff, Nat.reduceEqDiff, Nat.reduceBEq, Nat.reduceBneDiff, Int.reduceToNat, Int.reduceEq, hD, h1i, h1j, ie, i0, ws, w1, hc, hbt, hbt2, h2i, h2j, ie2, hd, hnt, hxt, w2, w4]) | (refine And.intro (by omega) ?_) | (refine ifI (fun hc => ?_) (fun hc => ?_) <;> first | (exfalso; omega) | skip) | (first | (apply hK; clear hK K) | ((iterate 1 (clear hK K)); apply hK; clear hK K) | ((iterate 2 (clear hK K)); apply hK; clear hK K) | ((iterate 3 (clear hK K)); apply hK; clear hK K) | ((iterate 4 (clear hK K)); apply hK; clear hK K) | ((iterate 5 (clear hK K)); apply hK; clear hK K)) | (refine And.intro ?_ ?_)
            refine Rnd.sub f (by omega) ((hI _ _).2 ⟨i + 2, f, l ++ [d], _, _, rfl, by omega, by omega, by omega, by rw [List.length_append]; simp only [List.length_cons, List.length_nil]; omega, by rw [hC, List.append_assoc]; rfl, hB, rfl⟩) (by repeat' (first | exact rfl | exact trivial | exact int_eq (by omega) | exact int_eq (by (rw [i64_wrap] <;> omega)) | constructor))
    · have hcc : ¬ c = 92 ∨ s.size ≤ i + 2 := by
        by_cases hc92 : c = 92
        · refine .inr ?_
          rcases Nat.lt_or_ge (i + 2) s.size with h | h
          · exact absurd ⟨by rw [hc92]; rfl, by omega⟩ hb
          · exact h
        · exact .inl hc92
      rw [if_pos hcc] at hC
      by_cases hc92 : c.toNat = 92
      · obtain rfl : c = 92 := UInt8.toNat_inj.1 hc92
        have hbt2 : (((92 : UInt8).toNat : Nat) : Int) = 92 := rfl
        have h2j : ((s.size : Nat) : Int) - 1 ≤ ((i + 1 : Nat) : Int) := by omega
        repeat' first | ((with_reducible refine appK_byts (l2 := [92]) hB ?_ ?_ ?_ ?_ ?_ ?_ ?_ ?_ ?_); (iterate 8 (first | rfl | exact hD | exact hD.1 | exact hD.2.1 | exact hD.2.2.1 | exact Nat.succ_pos _ | (simp only [List.length_cons, List.length_nil]; omega))); intro b' blk' h' h'' n3 hn3 hfind hcells hcv hB' hle; clear hB; have hB := hB'; clear hB'; (try simp only [go_sem, ↓reduceIte, reduceCtorEq, Nat.reduceAdd, Nat.reduceMul, Nat.reduceSub, Nat.reduceLT, Nat.reduceLeDiff, Nat.reduceEqDiff, Nat.reduceBEq, Nat.reduceBneDiff, Int.reduceToNat, Int.reduceEq, hD] at hcv); simp only [go_sem, ↓reduceIte, reduceCtorEq, Nat.reduceAdd, Nat.reduceMul, Nat.reduceSub, Nat.reduceLT, Nat.reduceLeDiff, Nat.reduceEqDiff, Nat.reduceBEq, Nat.reduceBneDiff, Int.reduceToNat, Int.reduceEq, hD, hfind, hcv]; (first | (apply hK; clear hK K) | ((iterate 1 (clear hK K)); apply hK; clear hK K) | ((iterate 2 (clear hK K)); apply hK; clear hK K) | ((iterate 3 (clear hK K)); apply hK; clear hK K) | ((iterate 4 (clear hK K)); apply hK; clear hK K) | ((iterate 5 (clear hK K)); apply hK; clear hK K)); refine SW.le (hle _) ?_; clear hle hfind hcv hcells) | (with_reducible refine And.intro (by omega) ?_) | (refine SW.seq_k fun K hK => ?_) | (refine SW.block ?_) | ((first | refine SW.region ?_ | refine SW.regionZ (id := 12) (Checked.mixed Tryz.checked) ((.one 0 [0, 15, 16] (.one 1 [1, 4, 5, 6, 11, 12, 13, 14, 15, 16] (.one 2 [2, 3, 4, 5, 6, 11, 12, 13, 14, 15, 16] (.one 3 [3, 4, 5, 6, 11, 12, 13, 14, 15, 16] (.one 4 [4, 5, 6, 11, 12, 13, 14, 15, 16] (.one 5 [5, 6, 11, 12, 13, 14, 15, 16] (.one 6 [6, 12, 13, 14, 15, 16] (.one 7 [7, 10, 11, 12, 13, 14, 15, 16] (.one 8 [8, 9, 10, 11, 12, 13, 14, 15, 16] (.one 9 [9, 10, 11, 12, 13, 14, 15, 16] (.one 10 [10, 11, 12, 13, 14, 15, 16] (.one 11 [11, 12, 13, 14, 15, 16] (.one 12 [12, 13, 14, 15, 16] (.one 13 [13, 14, 15, 16] (.alt 14 (.alt 15 (.one 16 [16] .done) .nil) .nil))))))))))))))) : OZ) (by kernel_rfl) ?_ | refine SW.regionD (Checked.mixed Tryz.checked) (by kernel_rfl) ?_ | refine SW.cond ?_ | refine SW.skip ?_ | refine SW.exit ?_ | refine SW.ret ?_ | (refine allF_i fun b hb => ?_; replace hD := And.intro hb hD; clear hb; try simp only [fresh_cons, fresh_nil, and_true, ne_eq, neF] at hD) | simp only [appK, appOsK]); try simp only [go_sem, ↓reduceIte, reduceCtorEq, Nat.reduceAdd, Nat.reduceMul, Nat.reduceSub, Nat.reduceLT, Nat.reduceLeDiff, Nat.reduceEqDiff, Nat.reduceBEq, Nat.reduceBneDiff, Int.reduceToNat, Int.reduceEq, hD, h1i, h1j, ie, i0, ws, w1, hc, hbt2, h2j]) | (refine And.intro (by omega) ?_) | (refine ifI (fun hc => ?_) (fun hc => ?_) <;> first | (exfalso; omega) | skip) | (first | (apply hK; clear hK K) | ((iterate 1 (clear hK K)); apply hK; clear hK K) | ((iterate 2 (clear hK K)); apply hK; clear hK K) | ((iterate 3 (clear hK K)); apply hK; clear hK K) | ((iterate 4 (clear hK K)); apply hK; clear hK K) | ((iterate 5 (clear hK K)); apply hK; clear hK K)) | (refine And.intro ?_ ?_)
        refine Rnd.sub f (by omega) ((hI _ _).2 ⟨i + 1, f, l ++ [92], _, _, rfl, by omega, by omega, by omega, by rw [List.length_append]; simp only [List.length_cons, List.length_nil]; omega, by rw [hC, List.append_assoc]; rfl, hB, rfl⟩) (by repeat' (first | exact rfl | exact trivial | exact int_eq (by omega) | exact int_eq (by (rw [i64_wrap] <;> omega)) | constructor))
      · have hbt2 : ¬ (c.toNat : Int) = 92 := by omega
        repeat' first | ((with_reducible refine appK_byts (l2 := [c]) hB ?_ ?_ ?_ ?_ ?_ ?_ ?_ ?_ ?_); (iterate 8 (first | rfl | exact hD | exact hD.1 | exact hD.2.1 | exact hD.2.2.1 | exact Nat.succ_pos _ | (simp only [List.length_cons, List.length_nil]; omega))); intro b' blk' h' h'' n3 hn3 hfind hcells hcv hB' hle; clear hB; have hB := hB'; clear hB'; (try simp only [go_sem, ↓reduceIte, reduceCtorEq, Nat.reduceAdd, Nat.reduceMul, Nat.reduceSub, Nat.reduceLT, Nat.reduceLeDiff, Nat.reduceEqDiff, Nat.reduceBEq, Nat.reduceBneDiff, Int.reduceToNat, Int.reduceEq, hD] at hcv); simp only [go_sem, ↓reduceIte, reduceCtorEq, Nat.reduceAdd, Nat.reduceMul, Nat.reduceSub, Nat.reduceLT, Nat.reduceLeDiff, Nat.reduceEqDiff, Nat.reduceBEq, Nat.reduceBneDiff, Int.reduceToNat, Int.reduceEq, hD, hfind, hcv]; (first | (apply hK; clear hK K) | ((iterate 1 (clear hK K)); apply hK; clear hK K) | ((iterate 2 (clear hK K)); apply hK; clear hK K) | ((iterate 3 (clear hK K)); apply hK; clear hK K) | ((iterate 4 (clear hK K)); apply hK; clear hK K) | ((iterate 5 (clear hK K)); apply hK; clear hK K)); refine SW.le (hle _) ?_; clear hle hfind hcv hcells) | (with_reducible refine And.intro (by omega) ?_) | (refine SW.seq_k fun K hK => ?_) | (refine SW.block ?_) | ((first | refine SW.region ?_ | refine SW.regionZ (id := 12) (Checked.mixed Tryz.checked) ((.one 0 [0, 15, 16] (.one 1 [1, 4, 5, 6, 11, 12, 13, 14, 15, 16] (.one 2 [2, 3, 4, 5, 6, 11, 12, 13, 14, 15, 16] (.one 3 [3, 4, 5, 6, 11, 12, 13, 14, 15, 16] (.one 4 [4, 5, 6, 11, 12, 13, 14, 15, 16] (.one 5 [5, 6, 11, 12, 13, 14, 15, 16] (.one 6 [6, 12, 13, 14, 15, 16] (.one 7 [7, 10, 11, 12, 13, 14, 15, 16] (.one 8 [8, 9, 10, 11, 12, 13, 14, 15, 16] (.one 9 [9, 10, 11, 12, 13, 14, 15, 16] (.one 10 [10, 11, 12, 13, 14, 15, 16] (.one 11 [11, 12, 13, 14, 15, 16] (.one 12 [12, 13, 14, 15, 16] (.one 13 [13, 14, 15, 16] (.alt 14 (.alt 15 (.one 16 [16] .done) .nil) .nil))))))))))))))) : OZ) (by kernel_rfl) ?_ | refine SW.regionD (Checked.mixed Tryz.checked) (by kernel_rfl) ?_ | refine SW.cond ?_ | refine SW.skip ?_ | refine SW.exit ?_ | refine SW.ret ?_ | (refine allF_i fun b hb => ?_; replace hD := And.intro hb hD; clear hb; try simp only [fresh_cons, fresh_nil, and_true, ne_eq, neF] at hD) | simp only [appK, appOsK]); try simp only [go_sem, ↓reduceIte, reduceCtorEq, Nat.reduceAdd, Nat.reduceMul, Nat.reduceSub, Nat.reduceLT, Nat.reduceLeDiff, Nat.reduceEqDiff, Nat.reduceBEq, Nat.reduceBneDiff, Int.reduceToNat, Int.reduceEq, hD, h1i, h1j, ie, i0, ws, w1, hc, hbt2]) | (refine And.intro (by omega) ?_) | (refine ifI (fun hc => ?_) (fun hc => ?_) <;> first | (exfalso; omega) | skip) | (first | (apply hK; clear hK K) | ((iterate 1 (clear hK K)); apply hK; clear hK K) | ((iterate 2 (clear hK K)); apply hK; clear hK K) | ((iterate 3 (clear hK K)); apply hK; clear hK K) | ((iterate 4 (clear hK K)); apply hK; clear hK K) | ((iterate 5 (clear hK K)); apply hK; clear hK K)) | (refine And.intro ?_ ?_)
        refine Rnd.sub f (by omega) ((hI _ _).2 ⟨i + 1, f, l ++ [c], _, _, rfl, by omega, by omega, by omega, by rw [List.length_append]; simp only [List.length_cons, List.length_nil]; omega, by rw [hC, List.append_assoc]; rfl, hB, rfl⟩) (by repeat' (first | exact rfl | exact trivial | exact int_eq (by omega) | exact int_eq (by (rw [i64_wrap] <;> omega)) | constructor))
  · have h1i : ¬ ((i : Nat) : Int) < ((s.size : Nat) : Int) - 1 := by omega
    have hR : R = l := by
      cases f with
      | zero => rw [hC]; simp [unqR]
      | succ f =>
        unfold unqR at hC
        rw [if_neg (by rw [ls]; exact h1)] at hC
        rw [hC, List.append_nil]
    subst hR
    rcases hB.byts_cases with ⟨e, rfl, rfl⟩ | ⟨b, hf, rfl, blk, hcells, rfl⟩
    · repeat' first | (with_reducible refine And.intro (by omega) ?_) | (refine SW.seq_k fun K hK => ?_) | (refine SW.block ?_) | ((first | refine SW.region ?_ | refine SW.regionZ (id := 12) (Checked.mixed Tryz.checked) ((.one 0 [0, 15, 16] (.one 1 [1, 4, 5, 6, 11, 12, 13, 14, 15, 16] (.one 2 [2, 3, 4, 5, 6, 11, 12, 13, 14, 15, 16] (.one 3 [3, 4, 5, 6, 11, 12, 13, 14, 15, 16] (.one 4 [4, 5, 6, 11, 12, 13, 14, 15, 16] (.one 5 [5, 6, 11, 12, 13, 14, 15, 16] (.one 6 [6, 12, 13, 14, 15, 16] (.one 7 [7, 10, 11, 12, 13, 14, 15, 16] (.one 8 [8, 9, 10, 11, 12, 13, 14, 15, 16] (.one 9 [9, 10, 11, 12, 13, 14, 15, 16] (.one 10 [10, 11, 12, 13, 14, 15, 16] (.one 11 [11, 12, 13, 14, 15, 16] (.one 12 [12, 13, 14, 15, 16] (.one 13 [13, 14, 15, 16] (.alt 14 (.alt 15 (.one 16 [16] .done) .nil) .nil))))))))))))))) : OZ) (by kernel_rfl) ?_ | refine SW.regionD (Checked.mixed Tryz.checked) (by kernel_rfl) ?_ | refine SW.cond ?_ | refine SW.skip ?_ | refine SW.exit ?_ | refine SW.ret ?_ | (refine allF_i fun b hb => ?_; replace hD := And.intro hb hD; clear hb; try simp only [fresh_cons, fresh_nil, and_true, ne_eq, neF] at hD) | simp only [appK, appOsK]); try simp only [go_sem, ↓reduceIte, reduceCtorEq, Nat.reduceAdd, Nat.reduceMul, Nat.reduceSub, Nat.reduceLT, Nat.reduceLeDiff, Nat.reduceEqDiff, Nat.reduceBEq, Nat.reduceBneDiff, Int.reduceToNat, Int.reduceEq, hD, h1i, ws]) | (refine And.intro (by omega) ?_) | (refine ifI (fun hc => ?_) (fun hc => ?_) <;> first | (exfalso; omega) | skip) | (first | (apply hK; clear hK K) | ((iterate 1 (clear hK K)); apply hK; clear hK K) | ((iterate 2 (clear hK K)); apply hK; clear hK K) | ((iterate 3 (clear hK K)); apply hK; clear hK K) | ((iterate 4 (clear hK K)); apply hK; clear hK K) | ((iterate 5 (clear hK K)); apply hK; clear hK K)) | (refine And.intro ?_ ?_)
      refine ret_pure ?_; simp only [resL_tmp, resL_nil, tupOf, go_sem, ↓reduceIte, reduceCtorEq, Nat.reduceAdd, Nat.reduceMul, Nat.reduceSub, Nat.reduceLT, Nat.reduceLeDiff, Nat.reduceEqDiff, Nat.reduceBEq, Nat.reduceBneDiff, Int.reduceToNat, Int.reduceEq, hD]
      rw [e]
      rfl
    · refine SW.le (St.le_blk (k' := .svs (byts R)) (b := b) (k := blk) (by rw [find_cons, if_pos rfl]) hcells.symm) ?_
      have cv := cvtK_svs R
      simp only [go_sem, ↓reduceIte, reduceCtorEq, Nat.reduceAdd, Nat.reduceMul, Nat.reduceSub, Nat.reduceLT, Nat.reduceLeDiff, Nat.reduceEqDiff, Nat.reduceBEq, Nat.reduceBneDiff, Int.reduceToNat, Int.reduceEq, hD] at cv
      repeat' first | (with_reducible refine And.intro (by omega) ?_) | (refine SW.seq_k fun K hK => ?_) | (refine SW.block ?_) | ((first | refine SW.region ?_ | refine SW.regionZ (id := 12) (Checked.mixed Tryz.checked) ((.one 0 [0, 15, 16] (.one 1 [1, 4, 5, 6, 11, 12, 13, 14, 15, 16] (.one 2 [2, 3, 4, 5, 6, 11, 12, 13, 14, 15, 16] (.one 3 [3, 4, 5, 6, 11, 12, 13, 14, 15, 16] (.one 4 [4, 5, 6, 11, 12, 13, 14, 15, 16] (.one 5 [5, 6, 11, 12, 13, 14, 15, 16] (.one 6 [6, 12, 13, 14, 15, 16] (.one 7 [7, 10, 11, 12, 13, 14, 15, 16] (.one 8 [8, 9, 10, 11, 12, 13, 14, 15, 16] (.one 9 [9, 10, 11, 12, 13, 14, 15, 16] (.one 10 [10, 11, 12, 13, 14, 15, 16] (.one 11 [11, 12, 13, 14, 15, 16] (.one 12 [12, 13, 14, 15, 16] (.one 13 [13, 14, 15, 16] (.alt 14 (.alt 15 (.one 16 [16] .done) .nil) .nil))))))))))))))) : OZ) (by kernel_rfl) ?_ | refine SW.regionD (Checked.mixed Tryz.checked) (by kernel_rfl) ?_ | refine SW.cond ?_ | refine SW.skip ?_ | refine SW.exit ?_ | refine SW.ret ?_ | (refine allF_i fun b hb => ?_; replace hD := And.intro hb hD; clear hb; try simp only [fresh_cons, fresh_nil, and_true, ne_eq, neF] at hD) | simp only [appK, appOsK]); try simp only [go_sem, ↓reduceIte, reduceCtorEq, Nat.reduceAdd, Nat.reduceMul, Nat.reduceSub, Nat.reduceLT, Nat.reduceLeDiff, Nat.reduceEqDiff, Nat.reduceBEq, Nat.reduceBneDiff, Int.reduceToNat, Int.reduceEq, hD, h1i, ws, cv]) | (refine And.intro (by omega) ?_) | (refine ifI (fun hc => ?_) (fun hc => ?_) <;> first | (exfalso; omega) | skip) | (first | (apply hK; clear hK K) | ((iterate 1 (clear hK K)); apply hK; clear hK K) | ((iterate 2 (clear hK K)); apply hK; clear hK K) | ((iterate 3 (clear hK K)); apply hK; clear hK K) | ((iterate 4 (clear hK K)); apply hK; clear hK K) | ((iterate 5 (clear hK K)); apply hK; clear hK K)) | (refine And.intro ?_ ?_)
      refine ret_pure ?_; simp only [resL_tmp, resL_nil, tupOf, go_sem, ↓reduceIte, reduceCtorEq, Nat.reduceAdd, Nat.reduceMul, Nat.reduceSub, Nat.reduceLT, Nat.reduceLeDiff, Nat.reduceEqDiff, Nat.reduceBEq, Nat.reduceBneDiff, Int.reduceToNat, Int.reduceEq, hD]
      rfl
end Go.Proofs.YtajbifibhgppfaaGreatDoor
