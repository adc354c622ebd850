/- Plain law of values: encodings. -/
import Derived.Test.YtpkdknfdhhgbgaaDoorL1
set_option linter.unusedSimpArgs false
set_option linter.unusedVariables false
set_option linter.unusedSectionVars false
namespace Go.Ab
open Go Go.Ab.A01

/-- The digits of a number at base 256. -/
def beL : Nat → Nat → List UInt8
  | 0, _ => []
  | m + 1, u => UInt8.ofNat (u / 256 ^ m % 256) :: beL m (u % 256 ^ m)
/-- Eight bytes whose order is that of the numbers. -/
def num8 (n : Int) : List UInt8 := beL 8 (n + 9223372036854775808).toNat
/-- A text without a byte 0 that another follows than 255. -/
def escL (l : List UInt8) : List UInt8 := l.flatMap fun c => if c = 0 then [0, 255] else [c]
/-- The encoding of a valid value. -/
def keyL (k n : Int) (t : ByteArray) : List UInt8 := UInt8.ofNat k.toNat :: (if k = 1 ∨ k = 3 then num8 n else if k = 2 then escL t.data.toList ++ [0, 1] else [])

theorem beL_len : ∀ (m u : Nat), (beL m u).length = m
  | 0, _ => rfl
  | m + 1, u => by rw [beL, List.length_cons, beL_len m]
theorem sgn_nat (a b : Nat) : (sgn (a : Int) b = -1 ∧ a < b) ∨ (sgn (a : Int) b = 0 ∧ a = b) ∨ (sgn (a : Int) b = 1 ∧ b < a) := by
  rcases sgn_cases (a : Int) b with h | h | h <;> omega
theorem sgn_div {B u v : Nat} (hB : 0 < B) : lex (sgn ((u / B : Nat) : Int) (v / B : Nat)) (sgn ((u % B : Nat) : Int) (v % B : Nat)) = sgn (u : Int) v := by
  have e1 := Nat.div_add_mod u B
  have e2 := Nat.div_add_mod v B
  unfold lex
  rcases sgn_nat (u / B) (v / B) with ⟨h, h2⟩ | ⟨h, h2⟩ | ⟨h, h2⟩
  · rw [if_neg (by omega), h]
    have : u < v := Nat.lt_of_div_lt_div h2
    rcases sgn_nat u v with g | g | g <;> omega
  · rw [if_pos h]
    rw [h2] at e1
    generalize B * (v / B) = X at *
    rcases sgn_nat (u % B) (v % B) with g | g | g <;> rcases sgn_nat u v with f | f | f <;> omega
  · rw [if_neg (by omega), h]
    have : v < u := Nat.lt_of_div_lt_div h2
    rcases sgn_nat u v with g | g | g <;> omega
theorem cb_be : ∀ (m u v : Nat) (r r' : List UInt8), u < 256 ^ m → v < 256 ^ m → Lib.compareBytes (beL m u ++ r) (beL m v ++ r') = lex (sgn (u : Int) v) (Lib.compareBytes r r')
  | 0, u, v, r, r', hu, hv => by
    have : u = 0 := by simpa using hu
    have : v = 0 := by simpa using hv
    subst u v
    rfl
  | m + 1, u, v, r, r', hu, hv => by
    have hp : 0 < 256 ^ m := Nat.pow_pos (by decide)
    have hq : u / 256 ^ m < 256 := (Nat.div_lt_iff_lt_mul hp).2 (by rw [Nat.pow_succ] at hu; rw [Nat.mul_comm]; exact hu)
    have hq2 : v / 256 ^ m < 256 := (Nat.div_lt_iff_lt_mul hp).2 (by rw [Nat.pow_succ] at hv; rw [Nat.mul_comm]; exact hv)
    have t1 : (UInt8.ofNat (u / 256 ^ m % 256)).toNat = u / 256 ^ m := by rw [UInt8.toNat_ofNat', Nat.mod_eq_of_lt hq]; exact Nat.mod_eq_of_lt hq
    have t2 : (UInt8.ofNat (v / 256 ^ m % 256)).toNat = v / 256 ^ m := by rw [UInt8.toNat_ofNat', Nat.mod_eq_of_lt hq2]; exact Nat.mod_eq_of_lt hq2
    rw [beL, beL, List.cons_append, List.cons_append, cb_lex, cb_be m _ _ r r' (Nat.mod_lt _ hp) (Nat.mod_lt _ hp), t1, t2, ← sgn_div (u := u) (v := v) hp]
    generalize sgn ((u / 256 ^ m : Nat) : Int) (v / 256 ^ m : Nat) = a
    generalize sgn ((u % 256 ^ m : Nat) : Int) (v % 256 ^ m : Nat) = b
    unfold lex
    by_cases h : a = 0
    · rw [if_pos h, if_pos h]
    · rw [if_neg h, if_neg h, if_neg h]
theorem lex_ne {a b : Int} (h : a ≠ 0) : lex a b = a := by unfold lex; rw [if_neg h]
theorem lex_zero (b : Int) : lex 0 b = b := rfl
theorem cb_num {n n' : Int} (h1 : -9223372036854775808 ≤ n ∧ n ≤ 9223372036854775807) (h2 : -9223372036854775808 ≤ n' ∧ n' ≤ 9223372036854775807) (h : sgn n n' ≠ 0) (r r' : List UInt8) : Lib.compareBytes (num8 n ++ r) (num8 n' ++ r') = sgn n n' := by
  unfold num8
  have p : (256 : Nat) ^ 8 = 18446744073709551616 := by decide
  rw [cb_be 8 _ _ r r' (by omega) (by omega)]
  have e : sgn (((n + 9223372036854775808).toNat : Nat) : Int) ((n' + 9223372036854775808).toNat : Nat) = sgn n n' := by
    rcases sgn_cases n n' with g | g | g <;> rcases sgn_nat (n + 9223372036854775808).toNat (n' + 9223372036854775808).toNat with f | f | f <;> omega
  rw [e, lex_ne h]
theorem escL_cons (c : UInt8) (l : List UInt8) : escL (c :: l) = (if c = 0 then [0, 255] else [c]) ++ escL l := by
  unfold escL
  rw [List.flatMap_cons]
theorem cb_esc : ∀ (s t r r' : List UInt8), s ≠ t → Lib.compareBytes (escL s ++ 0 :: 1 :: r) (escL t ++ 0 :: 1 :: r') = Lib.compareBytes s t
  | [], [], r, r', h => absurd rfl h
  | [], d :: t, r, r', h => by
    rw [escL_cons]
    show Lib.compareBytes (0 :: 1 :: r) _ = -1
    by_cases hd : d = 0
    · rw [if_pos hd]
      show Lib.compareBytes (0 :: 1 :: r) (0 :: 255 :: _) = -1
      rw [cb_lex, cb_lex]
      rfl
    · rw [if_neg hd]
      show Lib.compareBytes (0 :: 1 :: r) (d :: _) = -1
      rw [cb_lex]
      have : d.toNat ≠ 0 := fun x => hd (UInt8.toNat_inj.1 x)
      have e : sgn (((0 : UInt8).toNat : Nat) : Int) (d.toNat : Nat) = -1 := by
        have z : ((0 : UInt8).toNat : Nat) = 0 := rfl
        rw [z]
        rcases sgn_nat 0 d.toNat with g | g | g <;> omega
      rw [e]
      rfl
  | c :: s, [], r, r', h => by
    rw [escL_cons]
    show Lib.compareBytes _ (0 :: 1 :: r') = 1
    by_cases hd : c = 0
    · rw [if_pos hd]
      show Lib.compareBytes (0 :: 255 :: _) (0 :: 1 :: r') = 1
      rw [cb_lex, cb_lex]
      rfl
    · rw [if_neg hd]
      show Lib.compareBytes (c :: _) (0 :: 1 :: r') = 1
      rw [cb_lex]
      have : c.toNat ≠ 0 := fun x => hd (UInt8.toNat_inj.1 x)
      have e : sgn ((c.toNat : Nat) : Int) ((0 : UInt8).toNat : Nat) = 1 := by
        have z : ((0 : UInt8).toNat : Nat) = 0 := rfl
        rw [z]
        rcases sgn_nat c.toNat 0 with g | g | g <;> omega
      rw [e]
      rfl
  | c :: s, d :: t, r, r', h => by
    rw [escL_cons, escL_cons, cb_lex]
    by_cases hcd : c = d
    · subst hcd
      have ih := cb_esc s t r r' (fun x => h (by rw [x]))
      have z : sgn ((c.toNat : Nat) : Int) (c.toNat : Nat) = 0 := sgn_zero.2 rfl
      rw [z, lex_zero, ← ih]
      by_cases hc : c = 0
      · rw [if_pos hc]
        show Lib.compareBytes (0 :: 255 :: _) (0 :: 255 :: _) = _
        rw [cb_lex, cb_lex]
        rfl
      · rw [if_neg hc]
        show Lib.compareBytes (c :: _) (c :: _) = _
        rw [cb_lex, z]
        rfl
    · have hn : c.toNat ≠ d.toNat := fun x => hcd (UInt8.toNat_inj.1 x)
      have hs : sgn ((c.toNat : Nat) : Int) (d.toNat : Nat) ≠ 0 := fun x => hn (by have := sgn_zero.1 x; omega)
      rw [lex_ne hs]
      have hd : ∀ e : UInt8, ∃ w, (if e = 0 then [0, 255] else [e]) = e :: w := fun e => by
        by_cases he : e = 0
        · rw [if_pos he, he]; exact ⟨_, rfl⟩
        · rw [if_neg he]; exact ⟨_, rfl⟩
      obtain ⟨w1, e1⟩ := hd c
      obtain ⟨w2, e2⟩ := hd d
      rw [e1, e2]
      show Lib.compareBytes (c :: _) (d :: _) = _
      rw [cb_lex, lex_ne hs]

theorem kind_byte {k : Int} (h0 : 0 ≤ k) (h : k ≤ 3) : (UInt8.ofNat k.toNat).toNat = k.toNat := by
  rw [UInt8.toNat_ofNat']
  omega
/-- **Encodings are in the order of the values**, whatever follows. -/
theorem key_cmp {k n : Int} {t : ByteArray} {k' n' : Int} {t' : ByteArray} (hv : vok k n t = true) (hv' : vok k' n' t' = true) (hn : -9223372036854775808 ≤ n ∧ n ≤ 9223372036854775807) (hn' : -9223372036854775808 ≤ n' ∧ n' ≤ 9223372036854775807)
    (h : cmpV k n t k' n' t' ≠ 0) (r r' : List UInt8) : Lib.compareBytes (keyL k n t ++ r) (keyL k' n' t' ++ r') = cmpV k n t k' n' t' := by
  have hk := vok_kind hv
  have hk' := vok_kind hv'
  rw [cmpV_lex] at h ⊢
  unfold keyL
  rw [List.cons_append, List.cons_append, cb_lex, kind_byte (by omega) (by omega), kind_byte (by omega) (by omega)]
  have e : sgn ((k.toNat : Nat) : Int) (k'.toNat : Nat) = sgn k k' := by
    rcases sgn_cases k k' with g | g | g <;> rcases sgn_nat k.toNat k'.toNat with f | f | f <;> omega
  rw [e]
  by_cases hs : sgn k k' = 0
  · obtain rfl : k = k' := sgn_zero.1 hs
    rw [hs, lex_zero] at h ⊢
    rw [lex_zero]
    unfold vok at hv hv'
    rcases hk with rfl | rfl | ⟨rfl, _⟩ | rfl
    · exfalso
      rw [if_pos rfl, Bool.and_eq_true, decide_eq_true_eq] at hv hv'
      have e1 : t = ⟨#[]⟩ := barr_eq.1 hv.2
      have e2 : t' = ⟨#[]⟩ := barr_eq.1 hv'.2
      rw [hv.1, hv'.1, e1, e2] at h
      exact h rfl
    · rw [if_neg (by decide), if_pos rfl] at hv hv'
      have e1 : t = ⟨#[]⟩ := barr_eq.1 hv
      have e2 : t' = ⟨#[]⟩ := barr_eq.1 hv'
      subst e1 e2
      have hns : sgn n n' ≠ 0 := fun x => by rw [x] at h; exact h rfl
      rw [if_pos (.inl rfl), if_pos (.inl rfl), cb_num hn hn' hns, lex_ne hns]
    · rw [if_neg (by decide), if_neg (by decide), if_pos rfl, Bool.and_eq_true, decide_eq_true_eq] at hv hv'
      rw [hv.1, hv'.1] at h ⊢
      have z : sgn (0 : Int) 0 = 0 := rfl
      rw [z, lex_zero] at h ⊢
      rw [if_neg (by decide), if_pos rfl, if_neg (by decide), if_pos rfl, List.append_assoc, List.append_assoc]
      refine cb_esc _ _ r r' (fun x => h ?_)
      rw [x]
      rcases cb_cases t'.data.toList t'.data.toList with y | y | y
      · have := cb_swap t'.data.toList t'.data.toList; omega
      · exact y.1
      · have := cb_swap t'.data.toList t'.data.toList; omega
    · rw [if_neg (by decide), if_neg (by decide), if_neg (by decide), if_pos rfl, Bool.and_eq_true, decide_eq_true_eq] at hv hv'
      have e1 : t = ⟨#[]⟩ := barr_eq.1 hv.2
      have e2 : t' = ⟨#[]⟩ := barr_eq.1 hv'.2
      subst e1 e2
      have hns : sgn n n' ≠ 0 := fun x => by rw [x] at h; exact h rfl
      rw [if_pos (.inr rfl), if_pos (.inr rfl), cb_num hn hn' hns, lex_ne hns]
  · rw [lex_ne hs, lex_ne hs]

/-- What text reads. -/
def decT : List UInt8 → Option (List UInt8)
  | c :: d :: r => if c ≠ 0 then (decT (d :: r)).map (c :: ·) else if d = 1 then some [] else if d = 255 then (decT r).map (0 :: ·) else .none
  | _ => .none
theorem decT_esc : ∀ (t r : List UInt8), decT (escL t ++ 0 :: 1 :: r) = some t
  | [], r => rfl
  | c :: t, r => by
    rw [escL_cons]
    by_cases hc : c = 0
    · rw [if_pos hc]
      show decT (0 :: 255 :: (escL t ++ 0 :: 1 :: r)) = _
      rw [decT, if_neg (by simp), if_neg (by decide), if_pos rfl, decT_esc t r, hc]
      rfl
    · rw [if_neg hc]
      show decT (c :: (escL t ++ 0 :: 1 :: r)) = _
      have ih := decT_esc t r
      cases he : escL t ++ 0 :: 1 :: r with
      | nil => exact absurd he (by simp)
      | cons d w =>
        rw [he] at ih
        rw [decT, if_pos hc, ih]
        rfl
theorem decT_of : ∀ (n : Nat) (l t : List UInt8), l.length ≤ n → decT l = some t → ∃ r, l = escL t ++ 0 :: 1 :: r
  | 0, l, t, hl, h => by
    cases l with
    | nil => cases h
    | cons c l => simp at hl
  | n + 1, [], t, hl, h => by cases h
  | n + 1, [c], t, hl, h => by cases h
  | n + 1, c :: d :: r, t, hl, h => by
    rw [decT] at h
    by_cases hc : c = 0
    · rw [if_neg (by simpa using hc)] at h
      by_cases h1 : d = 1
      · rw [if_pos h1] at h
        cases h
        exact ⟨r, by rw [hc, h1]; rfl⟩
      · rw [if_neg h1] at h
        by_cases h2 : d = 255
        · rw [if_pos h2] at h
          cases hx : decT r with
          | none => rw [hx] at h; cases h
          | some w =>
            rw [hx] at h
            cases h
            obtain ⟨r', e⟩ := decT_of n r w (by simp only [List.length_cons] at hl; omega) hx
            exact ⟨r', by rw [escL_cons, if_pos rfl, hc, h2, e]; rfl⟩
        · rw [if_neg h2] at h; cases h
    · rw [if_pos hc] at h
      cases hx : decT (d :: r) with
      | none => rw [hx] at h; cases h
      | some w =>
        rw [hx] at h
        cases h
        obtain ⟨r', e⟩ := decT_of n (d :: r) w (by simp only [List.length_cons] at hl ⊢; omega) hx
        exact ⟨r', by rw [escL_cons, if_neg hc, e]; rfl⟩
/-- The number that bytes spell at base 256. -/
def ofBe : List UInt8 → Nat → Nat
  | [], u => u
  | c :: l, u => ofBe l (u * 256 + c.toNat)
theorem ofBe_be : ∀ (m u v : Nat), u < 256 ^ m → ofBe (beL m u) v = v * 256 ^ m + u
  | 0, u, v, hu => by
    have : u = 0 := by simpa using hu
    subst this
    simp [ofBe, beL]
  | m + 1, u, v, hu => by
    have hp : 0 < 256 ^ m := Nat.pow_pos (by decide)
    have hq : u / 256 ^ m < 256 := (Nat.div_lt_iff_lt_mul hp).2 (by rw [Nat.pow_succ] at hu; rw [Nat.mul_comm]; exact hu)
    have t1 : (UInt8.ofNat (u / 256 ^ m % 256)).toNat = u / 256 ^ m := by rw [UInt8.toNat_ofNat', Nat.mod_eq_of_lt hq]; exact Nat.mod_eq_of_lt hq
    rw [beL, ofBe, t1, ofBe_be m _ _ (Nat.mod_lt _ hp)]
    have e1 := Nat.div_add_mod u (256 ^ m)
    rw [Nat.pow_succ, Nat.add_mul, Nat.mul_comm (256 ^ m) 256, ← Nat.mul_assoc, Nat.add_assoc, Nat.mul_comm (u / 256 ^ m), e1]
theorem ofBe_lt : ∀ (l : List UInt8) (u k : Nat), u < 256 ^ k → ofBe l u < 256 ^ (k + l.length)
  | [], u, k, h => h
  | c :: l, u, k, h => by
    have := c.toNat_lt
    have := ofBe_lt l (u * 256 + c.toNat) (k + 1) (by rw [Nat.pow_succ]; omega)
    rw [ofBe, List.length_cons, Nat.add_comm l.length, ← Nat.add_assoc]
    exact this
theorem be_ofBe : ∀ (l : List UInt8) (u : Nat), ∃ w, w < 256 ^ l.length ∧ ofBe l u = u * 256 ^ l.length + w ∧ beL l.length w = l
  | [], u => ⟨0, by simp, by simp [ofBe], rfl⟩
  | d :: l, u => by
    have hd := d.toNat_lt
    have hp : 0 < 256 ^ l.length := Nat.pow_pos (by decide)
    obtain ⟨w, hw, e, hb⟩ := be_ofBe l (u * 256 + d.toNat)
    refine ⟨w + d.toNat * 256 ^ l.length, ?_, ?_, ?_⟩
    · rw [List.length_cons, Nat.pow_succ]
      have : d.toNat * 256 ^ l.length ≤ 255 * 256 ^ l.length := Nat.mul_le_mul_right _ (by omega)
      omega
    · rw [ofBe, e, List.length_cons, Nat.pow_succ, Nat.add_mul, Nat.mul_assoc, Nat.mul_comm 256, Nat.add_assoc, Nat.add_comm w]
    · have h1 : (w + d.toNat * 256 ^ l.length) / 256 ^ l.length = d.toNat := by rw [Nat.add_mul_div_right _ _ hp, Nat.div_eq_of_lt hw, Nat.zero_add]
      have h2 : (w + d.toNat * 256 ^ l.length) % 256 ^ l.length = w := by rw [Nat.add_mul_mod_self_right, Nat.mod_eq_of_lt hw]
      rw [List.length_cons, beL, h1, h2, hb]
      congr 1
      have : d.toNat % 256 = d.toNat := Nat.mod_eq_of_lt hd
      rw [this]
      simp

/-- A value that is read at the beginning of bytes, and how many of them it takes. -/
def fromL (l : List UInt8) : Option ((Int × Int × List UInt8) × Nat) := match l with
  | [] => .none
  | c :: r => if c.toNat = 1 ∨ c.toNat = 3 then (if r.length < 8 then .none else some (((c.toNat : Int), (ofBe (r.take 8) 0 : Int) - 9223372036854775808, []), 9))
    else if c.toNat = 2 then (match decT r with
      | some t => some ((2, 0, t), (escL t).length + 3)
      | .none => .none) else some (((c.toNat : Int), 0, []), 1)
/-- What FromKey answers. -/
def fromV (l : List UInt8) : (Int × Int × ByteArray) × Int × Int := match fromL l with
  | some ((k, n, t), m) => if vok k n ⟨t.toArray⟩ = true then ((k, n, ⟨t.toArray⟩), (m : Int), 0) else ((0, 0, ⟨#[]⟩), 0, 2)
  | .none => ((0, 0, ⟨#[]⟩), 0, 2)

theorem num8_len (n : Int) : (num8 n).length = 8 := beL_len 8 _
theorem list_ba (t : ByteArray) : (⟨t.data.toList.toArray⟩ : ByteArray) = t := by cases t; simp
/-- **FromKey restores a value**, whatever follows. -/
theorem from_key {k n : Int} {t : ByteArray} (hv : vok k n t = true) (hn : -9223372036854775808 ≤ n ∧ n ≤ 9223372036854775807) (r : List UInt8) : fromV (keyL k n t ++ r) = ((k, n, t), ((keyL k n t).length : Int), 0) := by
  have hk := vok_kind hv
  have kb := kind_byte (k := k) (by omega) (by omega)
  have hv0 := hv
  have p : (256 : Nat) ^ 8 = 18446744073709551616 := by decide
  have h8 : ofBe (num8 n) 0 = (n + 9223372036854775808).toNat := by
    unfold num8
    rw [ofBe_be 8 _ 0 (by omega)]
    omega
  have t8 : ((num8 n ++ r).take 8) = num8 n := by
    rw [List.take_append_of_le_length (by rw [num8_len]; exact Nat.le_refl _), List.take_of_length_le (by rw [num8_len]; exact Nat.le_refl _)]
  have l8 : ¬ (num8 n ++ r).length < 8 := by rw [List.length_append, num8_len]; omega
  have em : (⟨([] : List UInt8).toArray⟩ : ByteArray) = ⟨#[]⟩ := rfl
  have num : t = ⟨#[]⟩ → (k = 1 ∨ k = 3) → fromV (keyL k n t ++ r) = ((k, n, t), ((keyL k n t).length : Int), 0) := by
    intro ht hk13
    subst ht
    have hc : (UInt8.ofNat k.toNat).toNat = 1 ∨ (UInt8.ofNat k.toNat).toNat = 3 := by omega
    unfold keyL
    rw [if_pos hk13, List.length_cons, num8_len]
    unfold fromV fromL
    simp only [List.cons_append]
    rw [if_pos hc, if_neg l8, t8, h8, kb]
    simp only
    have e1 : ((k.toNat : Nat) : Int) = k := by omega
    have e2 : (((n + 9223372036854775808).toNat : Nat) : Int) - 9223372036854775808 = n := by omega
    rw [e1, e2, em, if_pos hv0]
  unfold vok at hv
  rcases hk with rfl | rfl | ⟨rfl, _⟩ | rfl
  · rw [if_pos rfl, Bool.and_eq_true, decide_eq_true_eq] at hv
    have e1 : t = ⟨#[]⟩ := barr_eq.1 hv.2
    subst e1
    obtain rfl : n = 0 := hv.1
    have kl : keyL 0 0 ⟨#[]⟩ = [0] := rfl
    rw [kl]
    unfold fromV fromL
    simp only [List.cons_append, List.nil_append]
    rw [if_neg (by decide), if_neg (by decide)]
    simp only
    rw [em, show (((0 : UInt8).toNat : Nat) : Int) = 0 from rfl, if_pos hv0]
    rfl
  · rw [if_neg (by decide), if_pos rfl] at hv
    exact num (barr_eq.1 hv) (.inl rfl)
  · rw [if_neg (by decide), if_neg (by decide), if_pos rfl, Bool.and_eq_true, decide_eq_true_eq] at hv
    have hz := hv.1
    subst hz
    have kl : keyL 2 0 t = 2 :: (escL t.data.toList ++ [0, 1]) := rfl
    rw [kl]
    unfold fromV fromL
    simp only [List.cons_append]
    rw [if_neg (by decide), if_pos (by decide)]
    have hd := decT_esc t.data.toList r
    have ha : escL t.data.toList ++ [0, 1] ++ r = escL t.data.toList ++ 0 :: 1 :: r := by rw [List.append_assoc]; rfl
    rw [ha, hd]
    simp only
    rw [list_ba, if_pos hv0]
    simp only [List.length_cons, List.length_append, List.length_nil]
  · rw [if_neg (by decide), if_neg (by decide), if_neg (by decide), if_pos rfl, Bool.and_eq_true, decide_eq_true_eq] at hv
    exact num (barr_eq.1 hv.2) (.inr rfl)

/-- **What FromKey reads is the beginning of the text.** -/
theorem from_of (l : List UInt8) : fromV l = ((0, 0, ⟨#[]⟩), 0, 2) ∨ ∃ k n t, vok k n t = true ∧ (-9223372036854775808 ≤ n ∧ n ≤ 9223372036854775807) ∧ (∃ r, l = keyL k n t ++ r) ∧ fromV l = ((k, n, t), ((keyL k n t).length : Int), 0) := by
  have key : ∀ k n t m, fromL l = some ((k, n, t), m) → vok k n ⟨t.toArray⟩ = true → (-9223372036854775808 ≤ n ∧ n ≤ 9223372036854775807) ∧ ∃ r, l = keyL k n ⟨t.toArray⟩ ++ r := by
    intro k n t m h hv
    unfold fromL at h
    cases l with
    | nil => cases h
    | cons c r =>
      have c8 := c.toNat_lt
      have hb : ∀ j : Nat, c.toNat = j → UInt8.ofNat ((j : Int)).toNat = c := fun j hj => by rw [Int.toNat_natCast, ← hj]; simp
      simp only at h
      by_cases h1 : c.toNat = 1 ∨ c.toNat = 3
      · rw [if_pos h1] at h
        by_cases h2 : r.length < 8
        · rw [if_pos h2] at h; cases h
        · rw [if_neg h2] at h
          have hl : (r.take 8).length = 8 := by rw [List.length_take]; omega
          obtain ⟨w, hw, e, hbe⟩ := be_ofBe (r.take 8) 0
          rw [hl] at hw hbe
          have p : (256 : Nat) ^ 8 = 18446744073709551616 := by decide
          rw [Nat.zero_mul, Nat.zero_add] at e
          rw [e] at h
          cases h
          refine ⟨by omega, r.drop 8, ?_⟩
          unfold keyL
          rw [if_pos (by omega), hb _ rfl, List.cons_append]
          congr 1
          unfold num8
          have ew : ((w : Int) - 9223372036854775808 + 9223372036854775808).toNat = w := by omega
          rw [ew, hbe, List.take_append_drop]
      · rw [if_neg h1] at h
        by_cases h2 : c.toNat = 2
        · rw [if_pos h2] at h
          cases hd : decT r with
          | none => rw [hd] at h; cases h
          | some t' =>
            rw [hd] at h
            cases h
            obtain ⟨r', e⟩ := decT_of _ r t (Nat.le_refl _) hd
            refine ⟨by omega, r', ?_⟩
            unfold keyL
            rw [if_neg (by decide), if_pos rfl, show UInt8.ofNat (2 : Int).toNat = c from hb 2 h2, List.cons_append, e]
            simp
        · rw [if_neg h2] at h
          cases h
          have hk := vok_kind hv
          refine ⟨by omega, r, ?_⟩
          unfold keyL
          rw [if_neg (by omega), if_neg (by omega), hb _ rfl]
          rfl
  unfold fromV
  cases hf : fromL l with
  | none => exact .inl rfl
  | some x =>
    obtain ⟨⟨k, n, t⟩, m⟩ := x
    simp only
    cases hv : vok k n ⟨t.toArray⟩ with
    | false => exact .inl (by rw [if_neg (by simp)])
    | true =>
      obtain ⟨hn, r, hr⟩ := key k n t m hf hv
      refine .inr ⟨k, n, ⟨t.toArray⟩, hv, hn, ⟨r, hr⟩, ?_⟩
      have := from_key hv hn r
      rw [← hr] at this
      unfold fromV at this
      rw [hf] at this
      simp only at this
      rw [hv] at this
      exact this
end Go.Ab
