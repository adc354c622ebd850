/- Plain law of texts: Parse restores what Format writes, in the program and in the reference. -/
import Derived.Test.YtcbgkcjlechdnaaDoorV4
import Derived.Test.YtcbgkcjlechdnaaDoorP1
set_option linter.unusedSimpArgs false
set_option linter.unusedVariables false
set_option linter.unusedSectionVars false
namespace Go.Ab
open Go

theorem digF_ge : ∀ (l : List UInt8) (n m : Nat), digF n l = some m → n ≤ m
  | [], n, m, h => by cases h; exact Nat.le_refl _
  | c :: r, n, m, h => by
    simp only [digF] at h
    split at h
    · have := digF_ge r _ m h; omega
    · cases h

theorem parseU_of : ∀ (l : List UInt8) (n m : Nat), digF n l = some m → m ≤ 18446744073709551615 → Lib.parseUintM 18446744073709551615 n l = .ok m
  | [], n, m, h, _ => by cases h; rfl
  | c :: r, n, m, h, hm => by
    simp only [digF] at h
    split at h
    · rename_i hc
      have hg := digF_ge r _ m h
      unfold Lib.parseUintM
      rw [if_pos hc, if_neg (by omega), if_neg (by omega)]
      exact parseU_of r _ m h hm
    · cases h

theorem byte_of {k : Nat} (h : k < 10) : (UInt8.ofNat (48 + k)).toNat = 48 + k := by
  rw [UInt8.toNat_ofNat']
  omega

theorem dec_digF (u : Nat) : digF 0 (Lib.decDigits u) = some u := by
  induction u using Nat.strongRecOn with
  | _ u ih =>
    by_cases h : u < 10
    · rw [Lib.decDigits, dif_pos h]
      simp only [digF, byte_of h]
      rw [if_pos (by omega)]
      congr 1
      omega
    · rw [Lib.decDigits, dif_neg h, digF_app _ _ _ _ (ih (u / 10) (by omega))]
      simp only [digF, byte_of (Nat.mod_lt u (by decide : 0 < 10))]
      rw [if_pos (by omega)]
      congr 1
      omega

theorem dec_bytes (u : Nat) : ∀ c ∈ Lib.decDigits u, 48 ≤ c.toNat ∧ c.toNat ≤ 57 := by
  induction u using Nat.strongRecOn with
  | _ u ih =>
    intro c hc
    by_cases h : u < 10
    · rw [Lib.decDigits, dif_pos h, List.mem_singleton] at hc
      rw [hc, byte_of h]
      omega
    · rw [Lib.decDigits, dif_neg h, List.mem_append, List.mem_singleton] at hc
      rcases hc with hc | hc
      · exact ih (u / 10) (by omega) c hc
      · rw [hc, byte_of (Nat.mod_lt u (by decide))]
        omega

theorem nDigits_le : ∀ (k u : Nat), u < 10 ^ (k + 1) → Lib.nDigits u ≤ k + 1
  | 0, u, h => by rw [Lib.nDigits_small (by simpa using h)]; exact Nat.le_refl _
  | k + 1, u, h => by
    by_cases h1 : u < 10
    · rw [Lib.nDigits_small h1]; omega
    · rw [Lib.nDigits_big h1]
      have := nDigits_le k (u / 10) (by rw [Nat.pow_succ] at h; omega)
      omega

theorem dec_cons (u : Nat) : ∃ c r, Lib.decDigits u = c :: r ∧ 48 ≤ c.toNat ∧ c.toNat ≤ 57 := by
  cases h : Lib.decDigits u with
  | nil =>
    have := Lib.decDigits_length u
    rw [h] at this
    have := Lib.nDigits_pos u
    simp at *
    omega
  | cons c r => exact ⟨c, r, rfl, dec_bytes u c (by rw [h]; exact List.mem_cons_self)⟩

theorem itoa_cases (n : Int) : (n < 0 ∧ Lib.itoa n = 45 :: Lib.decDigits n.natAbs) ∨ (0 ≤ n ∧ Lib.itoa n = Lib.decDigits n.natAbs) := by
  unfold Lib.itoa
  rcases Int.lt_or_le n 0 with h | h
  · exact .inl ⟨h, by rw [if_pos h]⟩
  · refine .inr ⟨h, ?_⟩
    rw [if_neg (by omega)]
    congr 1
    omega

theorem itoa_noslash (n : Int) : ∀ c ∈ Lib.itoa n, c ≠ 47 := by
  intro c hc he
  subst he
  rcases itoa_cases n with ⟨_, h⟩ | ⟨_, h⟩
  · rw [h, List.mem_cons] at hc
    rcases hc with hc | hc
    · revert hc; decide
    · have := dec_bytes _ _ hc
      revert this; decide
  · rw [h] at hc
    have := dec_bytes _ _ hc
    revert this; decide

theorem itoa_ne (n : Int) : Lib.itoa n ≠ [] := by
  rcases itoa_cases n with ⟨_, h⟩ | ⟨_, h⟩
  · rw [h]; simp
  · obtain ⟨c, r, e, _⟩ := dec_cons n.natAbs
    rw [h, e]; simp

theorem ba_ext {a b : ByteArray} (h : a.data.toList = b.data.toList) : a = b := by
  cases a; cases b
  simp only at h
  rw [Array.toList_inj.1 h]

/-- ParseInt restores a numeral. -/
theorem parse_itoa (n : Int) (h0 : -9223372036854775808 ≤ n) (h1 : n ≤ 9223372036854775807) : Lib.parseIntB 64 (Lib.itoa n) = .ok n := by
  obtain ⟨c, r, e, hc1, hc2⟩ := dec_cons n.natAbs
  have hu : Lib.parseUintB 64 (Lib.decDigits n.natAbs) = .ok n.natAbs := by
    unfold Lib.parseUintB
    rw [if_neg (by rw [e]; simp)]
    exact parseU_of _ 0 _ (dec_digF _) (by omega)
  rcases itoa_cases n with ⟨hn, h⟩ | ⟨hn, h⟩
  · rw [h]
    unfold Lib.parseIntB
    simp only
    rw [if_pos (by decide), hu]
    simp only
    rw [if_neg (by simp), if_neg (by simp only [Nat.reduceSub]; have : (2 : Nat) ^ 63 = 9223372036854775808 := by decide
                                     omega), if_pos (by decide)]
    congr 1
    omega
  · rw [h, e]
    unfold Lib.parseIntB
    simp only
    rw [if_neg (by omega), ← e, hu]
    simp only
    rw [if_neg (by simp only [Nat.reduceSub]; have : (2 : Nat) ^ 63 = 9223372036854775808 := by decide
                   omega), if_neg (by omega), if_neg (by omega)]
    congr 1
    omega

/-- integer restores a numeral. -/
theorem intS_itoa (n : Int) (h0 : -9223372036854775808 ≤ n) (h1 : n ≤ 9223372036854775807) : intS (itoaS n) = some n := by
  have hl : (itoaS n).data.toList = Lib.itoa n := rfl
  obtain ⟨c, r, e, hc1, hc2⟩ := dec_cons n.natAbs
  have hlen : (Lib.decDigits n.natAbs).length ≤ 19 := by
    rw [Lib.decDigits_length]
    exact nDigits_le 18 _ (by have : (10 : Nat) ^ (18 + 1) = 10000000000000000000 := by decide
                              omega)
  have key : ∀ neg : Bool, (neg = false → n.natAbs ≠ 9223372036854775808) → intD neg (Lib.decDigits n.natAbs) = some (if neg = true then -(n.natAbs : Int) else n.natAbs) := by
    intro neg hneg
    unfold intD
    rw [if_neg (by rintro (h | h); rw [e] at h; cases h; omega), dec_digF]
    simp only
    rw [if_neg (by rintro (h | ⟨h, h2⟩); omega; exact hneg h2 h)]
  unfold intS
  rw [hl]
  rcases itoa_cases n with ⟨hn, h⟩ | ⟨hn, h⟩
  · rw [h, List.getD_cons_zero, if_pos rfl]
    simp only [List.drop_succ_cons, List.drop_zero]
    rw [key true (fun x => by cases x), if_pos rfl]
    congr 1
    omega
  · rw [h]
    have hne : ¬ (Lib.decDigits n.natAbs).getD 0 0 = 45 := by
      rw [e]
      simp only [List.getD_cons_zero]
      intro hx
      rw [hx] at hc1
      revert hc1; decide
    rw [if_neg hne, key false (fun _ => by omega), if_neg (by simp)]
    congr 1
    omega

theorem endF_app (l r : List UInt8) (h : ∀ c ∈ l, c ≠ 47) : endF (l ++ 47 :: r) 0 = l.length := by
  unfold endF
  rw [List.drop_zero, Nat.zero_add, List.takeWhile_append_of_pos (by intro c hc; simpa using h c hc)]
  simp

theorem endF_all (l : List UInt8) (h : ∀ c ∈ l, c ≠ 47) : endF l 0 = l.length := by
  unfold endF
  rw [List.drop_zero, Nat.zero_add]
  congr 1
  have := List.takeWhile_append_of_pos (p := fun c : UInt8 => c != 47) (l₁ := l) (l₂ := []) (by intro c hc; simpa using h c hc)
  simpa using this
end Go.Ab
namespace Go.Proofs.YtcbgkcjlechdnaaDoor
open Go Go.Ab

theorem extr_list (s : ByteArray) (i j : Nat) : (s.extract i j).data.toList = (s.data.toList.drop i).take (j - i) := by
  rw [ByteArray.data_extract, Array.toList_extract, List.extract_eq_take_drop]

theorem cand_fmt {n d : Int} (hn : In64 n) (hd : In64 d) (ok : okR n d = true) : candP (fmtS n d) = some (n, d) ∧ candR (fmtS n d) = some (n, d) := by
  have hd0 := okR_den ok
  have sn := itoa_noslash n
  by_cases h1 : 1 < d
  · have hl : (fmtS n d).data.toList = Lib.itoa n ++ 47 :: Lib.itoa d := by
      unfold fmtS
      rw [if_pos h1, ByteArray.data_append, ByteArray.data_append, Array.toList_append, Array.toList_append]
      rfl
    have hsz : (fmtS n d).size = (Lib.itoa n).length + (1 + (Lib.itoa d).length) := by
      have : (fmtS n d).data.toList.length = (fmtS n d).size := Array.length_toList
      rw [← this, hl, List.length_append, List.length_cons]
      omega
    have he : endF (fmtS n d).data.toList 0 = (Lib.itoa n).length := by rw [hl]; exact endF_app _ _ sn
    have hi : Lib.indexByte (fmtS n d).data.toList 47 = ((Lib.itoa n).length : Int) := by
      rw [endF_index, he, if_pos (by rw [hl, List.length_append, List.length_cons]; omega)]
    have eA : (fmtS n d).extract 0 (Lib.itoa n).length = itoaS n := by
      refine ba_ext ?_
      rw [extr_list, hl, List.drop_zero, Nat.sub_zero, List.take_left]
      rfl
    have eB : (fmtS n d).extract ((Lib.itoa n).length + 1) (fmtS n d).size = itoaS d := by
      refine ba_ext ?_
      rw [extr_list, hl, hsz]
      have : (Lib.itoa n ++ 47 :: Lib.itoa d).drop ((Lib.itoa n).length + 1) = Lib.itoa d := by
        rw [← List.drop_drop, List.drop_left]
        rfl
      rw [this, List.take_of_length_le (by omega)]
      rfl
    have cA : cutA (fmtS n d) 47 = itoaS n := by
      unfold cutA cutI
      rw [hi, if_pos (by omega), Int.toNat_natCast, eA]
    have cB : cutB (fmtS n d) 47 = itoaS d := by
      unfold cutB cutI
      rw [hi, if_pos (by omega), Int.toNat_natCast, eB]
    constructor
    · unfold candP pint
      rw [cA, cB]
      have e1 : Lib.parseIntB 64 (itoaS n).data.toList = .ok n := parse_itoa n hn.1 hn.2
      have e2 : Lib.parseIntB 64 (itoaS d).data.toList = .ok d := parse_itoa d hd.1 hd.2
      rw [e1, e2]
      simp only
      rw [if_neg (fun h => itoa_ne d (by
        have : (itoaS d).data.toList = [] := by rw [h]
        exact this))]
    · unfold candR
      rw [he, eA, eB, intS_itoa n hn.1 hn.2]
      simp only
      rw [if_pos (by omega), intS_itoa d hd.1 hd.2]
  · have hd1 : d = 1 := by omega
    subst hd1
    have hf : fmtS n 1 = itoaS n := by unfold fmtS; rw [if_neg (by omega)]
    have hl : (itoaS n).data.toList = Lib.itoa n := rfl
    have hsz : (itoaS n).size = (Lib.itoa n).length := by
      have : (itoaS n).data.toList.length = (itoaS n).size := Array.length_toList
      rw [← this, hl]
    have he : endF (itoaS n).data.toList 0 = (Lib.itoa n).length := endF_all _ sn
    have hi : Lib.indexByte (itoaS n).data.toList 47 = -1 := by
      rw [endF_index, he, if_neg (by rw [hl]; omega)]
    rw [hf]
    constructor
    · unfold candP pint cutA cutB
      rw [hi, if_neg (by omega), if_neg (by omega)]
      have e1 : Lib.parseIntB 64 (itoaS n).data.toList = .ok n := parse_itoa n hn.1 hn.2
      rw [e1]
      simp
    · unfold candR
      have eA : (itoaS n).extract 0 (Lib.itoa n).length = itoaS n := by
        refine ba_ext ?_
        rw [extr_list, hl, List.drop_zero, Nat.sub_zero, List.take_of_length_le (Nat.le_refl _)]
      rw [he, eA, intS_itoa n hn.1 hn.2]
      simp only
      rw [if_neg (by omega)]

/-- Where a candidate is kept, it is in range. -/
theorem cand_range {s : ByteArray} {n d : Int} (h : candP s = some (n, d) ∨ candR s = some (n, d)) : In64 n ∧ In64 d := by
  have one : In64 1 := by unfold In64; decide
  have pr : ∀ {t : ByteArray} {v : Int}, pint t = some v → In64 v := by
    intro t v h
    unfold pint at h
    split at h
    · rename_i v' hv
      cases h
      have := Lib.parseIntB_bounds hv
      unfold In64
      simp only [Nat.reduceSub] at this
      have e : ((2 ^ 63 : Nat) : Int) = 9223372036854775808 := by decide
      omega
    · cases h
  rcases h with h | h
  · unfold candP at h
    split at h
    · rename_i n' hn
      split at h
      · cases h; exact ⟨pr hn, one⟩
      · split at h
        · rename_i d' hd'
          cases h; exact ⟨pr hn, pr hd'⟩
        · cases h
    · cases h
  · unfold candR at h
    split at h
    · rename_i n' hn
      split at h
      · split at h
        · rename_i d' hd'
          cases h; exact ⟨intS_range hn, intS_range hd'⟩
        · cases h
      · cases h; exact ⟨intS_range hn, one⟩
    · cases h

/-- **Both keep the same.** -/
theorem keep_same (s : ByteArray) : keepR s (candP s) = keepR s (candR s) := by
  have good : ∀ c : Option (Int × Int), (∃ n d, c = some (n, d) ∧ okR n d = true ∧ fmtS n d = s ∧ keepR s c = (n, d, 0)) ∨ keepR s c = (0, 0, 2) := by
    intro c
    cases c with
    | none => exact .inr rfl
    | some x =>
      obtain ⟨n, d⟩ := x
      have kd : keepR s (some (n, d)) = if okR n d = true ∧ fmtS n d = s then (n, d, 0) else (0, 0, 2) := rfl
      rw [kd]
      by_cases h : okR n d = true ∧ fmtS n d = s
      · exact .inl ⟨n, d, rfl, h.1, h.2, by rw [if_pos h]⟩
      · exact .inr (by rw [if_neg h])
  rcases good (candP s) with ⟨n, d, hc, ok, hf, hk⟩ | h1
  · obtain ⟨hn, hd⟩ := cand_range (.inl hc)
    have h2 := (cand_fmt hn hd ok).2
    rw [hf] at h2
    rw [hc, h2]
  · rcases good (candR s) with ⟨n, d, hc, ok, hf, hk⟩ | h2
    · obtain ⟨hn, hd⟩ := cand_range (.inr hc)
      have h3 := (cand_fmt hn hd ok).1
      rw [hf] at h3
      rw [hc, h3]
    · rw [h1, h2]
end Go.Proofs.YtcbgkcjlechdnaaDoor
