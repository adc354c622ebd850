/- Several texts in one: NA, NB, IG, NC, ND, NE, NF, NG, NI. -/
import Derived.Test.YtpidncgibgiidaaGreatQ4
import Derived.Test.YtpidncgibgiidaaGreatQ3
import Derived.Test.YtpidncgibgiidaaGreatZ15
import Derived.Test.YtpidncgibgiidaaGreatZ17
import Derived.Test.YtpidncgibgiidaaGreatZ21
import Derived.Test.YtpidncgibgiidaaGreatS1
import Derived.Test.YtpidncgibgiidaaGreatZ18
import Derived.Test.YtpidncgibgiidaaGreatZ22
set_option linter.unusedSimpArgs false
set_option linter.unusedVariables false
set_option linter.unusedSectionVars false
set_option maxHeartbeats 8000000
set_option maxRecDepth 20000
namespace Go.Ab.A15
abbrev Pr := List Int × List Int
def rg (s n : Nat) : List Nat := List.range' s (n - s)
theorem rg_step {s n : Nat} (h : s < n) : rg s n = s :: rg (s + 1) n := by
  unfold rg
  rw [show n - s = (n - (s + 1)) + 1 by omega, List.range'_succ]
theorem rg_end {s n : Nat} (h : n ≤ s) : rg s n = [] := by
  unfold rg
  rw [show n - s = 0 by omega]
  rfl
theorem mem_rg {s n x : Nat} : x ∈ rg s n ↔ s ≤ x ∧ x < n := by
  unfold rg
  rw [List.mem_range'_1]
  omega
theorem nodup_rg (s n : Nat) : (rg s n).Nodup := List.nodup_range'
def fstX (l : List Int) : Nat := match l.getLast? with
  | none => 0
  | some x => x.toNat + 1
def exS (q : List Int → List Int → Bool) (nf nt : Nat) : Nat → List Int → List Int → List Pr
  | 0, _, _ => []
  | k + 1, l, r => (rg (fstX l) nf).flatMap fun (a : Nat) => (rg 0 nt).flatMap fun (b : Nat) => if q (l ++ [(a : Int)]) (r ++ [(b : Int)]) then (l ++ [(a : Int)], r ++ [(b : Int)]) :: exS q nf nt k (l ++ [(a : Int)]) (r ++ [(b : Int)]) else []
structure Pq (q : List Int → List Int → Bool) (nf nt : Nat) : Prop where
  len : ∀ {l r}, q l r = true → l.length = r.length
  pre : ∀ {l r a b}, q (l ++ a) (r ++ b) = true → l.length = r.length → 0 < l.length → q l r = true
  inl : ∀ {l r}, q l r = true → ∀ x ∈ l, 0 ≤ x ∧ x < (nf : Int)
  inr : ∀ {l r}, q l r = true → ∀ x ∈ r, 0 ≤ x ∧ x < (nt : Int)
  asc : ∀ {l r}, q l r = true → l.Pairwise (· < ·)
theorem fst_snoc (l : List Int) (a : Nat) : fstX (l ++ [(a : Int)]) = a + 1 := by
  simp [fstX]
theorem fst_le {l : List Int} {a : Int} (h : (l ++ [a]).Pairwise (· < ·)) (h0 : ∀ x ∈ l, 0 ≤ x) (ha : 0 ≤ a) : fstX l ≤ a.toNat := by
  unfold fstX
  cases hl : l.getLast? with
  | none => simp
  | some x =>
    have hm := List.mem_of_getLast? hl
    have h2 := (List.pairwise_append.1 h).2.2 x hm a (by simp)
    have := h0 x hm
    simp only
    omega
theorem snoc_cons {α : Type} (l : List α) (a : α) (us : List α) : l ++ a :: us = (l ++ [a]) ++ us := by simp
theorem mem_exS {q : List Int → List Int → Bool} {nf nt : Nat} (h : Pq q nf nt) : ∀ (k : Nat) (l r : List Int) (p : Pr), l.length = r.length →
    (p ∈ exS q nf nt k l r ↔ q p.1 p.2 = true ∧ ∃ us vs, p.1 = l ++ us ∧ p.2 = r ++ vs ∧ 0 < us.length ∧ us.length ≤ k)
  | 0, l, r, p, _ => by
    simp only [exS, List.not_mem_nil, false_iff]
    rintro ⟨_, us, vs, _, _, h1, h2⟩
    omega
  | k + 1, l, r, (p1, p2), hlr => by
    unfold exS
    simp only [List.mem_flatMap, mem_rg]
    constructor
    · rintro ⟨a, ⟨ha, ha2⟩, b, ⟨hb, hb2⟩, hp⟩
      by_cases hq : q (l ++ [(a : Int)]) (r ++ [(b : Int)]) = true
      · rw [if_pos hq] at hp
        rcases List.mem_cons.1 hp with e | hp
        · cases e
          exact ⟨hq, [(a : Int)], [(b : Int)], rfl, rfl, by simp, by simp⟩
        · obtain ⟨h1, us, vs, e1, e2, h2, h3⟩ := (mem_exS h k _ _ (p1, p2) (by simp [hlr])).1 hp
          simp only at e1 e2 h1
          exact ⟨h1, (a : Int) :: us, (b : Int) :: vs, by rw [e1]; simp, by rw [e2]; simp, by simp, by simp; omega⟩
      · rw [if_neg hq] at hp
        cases hp
    · rintro ⟨h1, us, vs, rfl, rfl, h2, h3⟩
      have hll := h.len h1
      rw [List.length_append, List.length_append] at hll
      match us, vs, h2, h3, hll, h1 with
      | a :: us, [], h2, h3, hll, h1 => simp at hll; omega
      | a :: us, b :: vs, h2, h3, hll, h1 =>
        rw [snoc_cons l, snoc_cons r] at h1
        have hq := h.pre h1 (by simp [hlr]) (by simp)
        have ia := h.inl hq a (by simp)
        have ib := h.inr hq b (by simp)
        have hf := fst_le (h.asc hq) (fun x hx => (h.inl hq x (by simp [hx])).1) ia.1
        have ea : ((a.toNat : Nat) : Int) = a := by omega
        have eb : ((b.toNat : Nat) : Int) = b := by omega
        refine ⟨a.toNat, ⟨hf, by omega⟩, b.toNat, ⟨Nat.zero_le _, by omega⟩, ?_⟩
        rw [ea, eb, if_pos hq]
        rw [List.length_cons] at h3
        cases us with
        | nil =>
          cases vs with
          | nil => exact List.mem_cons_self
          | cons b2 vs => simp at hll; omega
        | cons a2 us =>
          refine List.mem_cons_of_mem _ ((mem_exS h k _ _ _ (by simp [hlr])).2 ⟨by show q (l ++ a :: a2 :: us) (r ++ b :: vs) = true; rw [snoc_cons l, snoc_cons r]; exact h1, a2 :: us, vs, by simp, by simp, by simp, by simpa using h3⟩)
theorem mem_ex {q : List Int → List Int → Bool} {nf nt : Nat} (h : Pq q nf nt) (hn : q [] [] = false) (k : Nat) (p : Pr) : p ∈ exS q nf nt k [] [] ↔ q p.1 p.2 = true ∧ p.1.length ≤ k := by
  rw [mem_exS h k [] [] p rfl]
  constructor
  · rintro ⟨h1, us, vs, e1, _, _, h3⟩
    rw [e1]
    exact ⟨by rw [← e1]; exact h1, by simpa using h3⟩
  · rintro ⟨h1, h2⟩
    refine ⟨h1, p.1, p.2, rfl, rfl, ?_, h2⟩
    rcases Nat.eq_zero_or_pos p.1.length with h0 | h0
    · have hl := h.len h1
      have e1 : p.1 = [] := List.eq_nil_of_length_eq_zero h0
      have e2 : p.2 = [] := List.eq_nil_of_length_eq_zero (by omega)
      rw [e1, e2, hn] at h1
      cases h1
    · exact h0
theorem nodup_exS {q : List Int → List Int → Bool} {nf nt : Nat} (h : Pq q nf nt) : ∀ (k : Nat) (l r : List Int), l.length = r.length → (exS q nf nt k l r).Nodup
  | 0, l, r, _ => by simp [exS]
  | k + 1, l, r, hlr => by
    unfold exS
    have key : ∀ (a b : Nat) (p : Pr), p ∈ (if q (l ++ [(a : Int)]) (r ++ [(b : Int)]) = true then (l ++ [(a : Int)], r ++ [(b : Int)]) :: exS q nf nt k (l ++ [(a : Int)]) (r ++ [(b : Int)]) else []) → ∃ us vs, p.1 = l ++ (a : Int) :: us ∧ p.2 = r ++ (b : Int) :: vs := fun a b p hp => by
      split at hp
      · rcases List.mem_cons.1 hp with e | hp
        · rw [e]
          exact ⟨[], [], rfl, rfl⟩
        · obtain ⟨_, us, vs, e1, e2, _⟩ := (mem_exS h k _ _ p (by simp [hlr])).1 hp
          exact ⟨us, vs, by rw [e1]; simp, by rw [e2]; simp⟩
      · cases hp
    rw [List.Nodup, List.pairwise_flatMap]
    refine ⟨fun a ha => ?_, ?_⟩
    · rw [List.pairwise_flatMap]
      refine ⟨fun b hb => ?_, ?_⟩
      · split
        · rw [List.pairwise_cons]
          refine ⟨fun p hp e => ?_, nodup_exS h k _ _ (by simp [hlr])⟩
          obtain ⟨_, us, vs, e1, _, h2, _⟩ := (mem_exS h k _ _ p (by simp [hlr])).1 hp
          rw [← e] at e1
          have := congrArg List.length e1
          simp at this
          rw [this] at h2
          exact absurd h2 (by simp)
        · exact List.Pairwise.nil
      · refine (nodup_rg 0 nt).imp fun {b b'} hne p hp p' hp' e => ?_
        obtain ⟨us, vs, e1, e2⟩ := key _ _ _ hp
        obtain ⟨us', vs', e1', e2'⟩ := key _ _ _ hp'
        rw [e, e2'] at e2
        have := List.append_cancel_left e2
        simp only [List.cons.injEq] at this
        omega
    · refine (nodup_rg _ nf).imp fun {a a'} hne p hp p' hp' e => ?_
      obtain ⟨b, _, hp⟩ := List.mem_flatMap.1 hp
      obtain ⟨b', _, hp'⟩ := List.mem_flatMap.1 hp'
      obtain ⟨us, vs, e1, e2⟩ := key _ _ _ hp
      obtain ⟨us', vs', e1', e2'⟩ := key _ _ _ hp'
      rw [e, e1'] at e1
      have := List.append_cancel_left e1
      simp only [List.cons.injEq] at this
      omega
def bdX : Nat → Nat
  | 0 => 0
  | n + 1 => bdX n + 3 * (1 + bdX n)
theorem sum_le_mul : ∀ (l : List Nat) (c : Nat), (∀ x ∈ l, x ≤ c) → l.sum ≤ l.length * c
  | [], c, _ => by simp
  | a :: l, c, h => by
    have h1 := h a List.mem_cons_self
    have h2 := sum_le_mul l c fun x hx => h x (List.mem_cons_of_mem _ hx)
    rw [List.sum_cons, List.length_cons, Nat.add_mul, Nat.one_mul]
    omega
theorem len_exS {q : List Int → List Int → Bool} {nf nt : Nat} (hn : nt ≤ 3) : ∀ (k : Nat) (l r : List Int), (exS q nf nt k l r).length ≤ bdX (nf - fstX l)
  | 0, l, r => by simp [exS]
  | k + 1, l, r => by
    unfold exS
    have step : ∀ a : Nat, ((rg 0 nt).flatMap fun (b : Nat) => if q (l ++ [(a : Int)]) (r ++ [(b : Int)]) then (l ++ [(a : Int)], r ++ [(b : Int)]) :: exS q nf nt k (l ++ [(a : Int)]) (r ++ [(b : Int)]) else []).length ≤ 3 * (1 + bdX (nf - (a + 1))) := fun a => by
      rw [List.length_flatMap]
      refine Nat.le_trans (sum_le_mul _ (1 + bdX (nf - (a + 1))) fun x hx => ?_) ?_
      · obtain ⟨b, _, e⟩ := List.mem_map.1 hx
        rw [← e]
        split
        · have := len_exS (q := q) (nf := nf) (nt := nt) hn k (l ++ [(a : Int)]) (r ++ [(b : Int)])
          rw [fst_snoc] at this
          rw [List.length_cons]
          omega
        · exact Nat.zero_le _
      · rw [List.length_map]
        refine Nat.mul_le_mul_right _ ?_
        unfold rg
        rw [List.length_range']
        omega
    generalize fstX l = s
    generalize hm : nf - s = m
    induction m generalizing s with
    | zero => rw [rg_end (n := nf) (by omega)]; simp
    | succ m ih =>
      rw [rg_step (n := nf) (by omega), List.flatMap_cons, List.length_append]
      have h1 := step s
      have h2 := ih (s + 1) (by omega)
      rw [show nf - (s + 1) = m by omega] at h1
      unfold bdX
      omega
theorem len_ex {q : List Int → List Int → Bool} {nf nt : Nat} (hf : nf ≤ 3) (hn : nt ≤ 3) (k : Nat) : (exS q nf nt k [] []).length ≤ 63 := by
  refine Nat.le_trans (len_exS hn k [] []) ?_
  show bdX (nf - 0) ≤ 63
  match nf, hf with
  | 0, _ => decide
  | 1, _ => decide
  | 2, _ => decide
  | 3, _ => decide
def lvS (q : List Int → List Int → Bool) (nf nt : Nat) (now : List Pr) : List Pr :=
  now.flatMap fun p => (rg 0 nf).flatMap fun (a : Nat) => (rg 0 nt).flatMap fun (b : Nat) => if q (p.1 ++ [(a : Int)]) (p.2 ++ [(b : Int)]) then [(p.1 ++ [(a : Int)], p.2 ++ [(b : Int)])] else []
def lvR (q : List Int → List Int → Bool) (nf nt : Nat) : Nat → List Pr × List Pr
  | 0 => ([], [([], [])])
  | k + 1 => ((lvR q nf nt k).1 ++ lvS q nf nt (lvR q nf nt k).2, lvS q nf nt (lvR q nf nt k).2)
theorem mem_lvS {q : List Int → List Int → Bool} {nf nt : Nat} (now : List Pr) (p : Pr) : p ∈ lvS q nf nt now ↔ ∃ x ∈ now, ∃ a b : Nat, a < nf ∧ b < nt ∧ q (x.1 ++ [(a : Int)]) (x.2 ++ [(b : Int)]) = true ∧ p = (x.1 ++ [(a : Int)], x.2 ++ [(b : Int)]) := by
  unfold lvS
  simp only [List.mem_flatMap, mem_rg]
  constructor
  · rintro ⟨x, hx, a, ha, b, hb, hp⟩
    split at hp
    · exact ⟨x, hx, a, b, ha.2, hb.2, by assumption, by simpa using hp⟩
    · cases hp
  · rintro ⟨x, hx, a, b, ha, hb, hq, e⟩
    exact ⟨x, hx, a, ⟨Nat.zero_le _, ha⟩, b, ⟨Nat.zero_le _, hb⟩, by rw [if_pos hq, e]; exact List.mem_singleton.2 rfl⟩
theorem lvR_mem {q : List Int → List Int → Bool} {nf nt : Nat} (h : Pq q nf nt) (hn : q [] [] = false) : ∀ (k : Nat), (∀ p, p ∈ (lvR q nf nt k).1 ↔ q p.1 p.2 = true ∧ p.1.length ≤ k) ∧ (∀ p, p ∈ (lvR q nf nt k).2 ↔ (q p.1 p.2 = true ∧ p.1.length = k) ∨ (k = 0 ∧ p = ([], [])))
  | 0 => by
    have h0 : ∀ p : Pr, q p.1 p.2 = true → ¬ p.1.length = 0 := fun p hq h0 => by
      have hl := h.len hq
      have e1 : p.1 = [] := List.eq_nil_of_length_eq_zero h0
      have e2 : p.2 = [] := List.eq_nil_of_length_eq_zero (by omega)
      rw [e1, e2, hn] at hq
      cases hq
    refine ⟨fun p => ?_, fun p => ?_⟩
    · simp only [lvR, List.not_mem_nil, false_iff]
      rintro ⟨h1, h2⟩
      exact h0 p h1 (by omega)
    · simp only [lvR, List.mem_singleton]
      constructor
      · intro e; exact .inr ⟨trivial, e⟩
      · rintro (⟨h1, h2⟩ | h1)
        · exact absurd h2 (h0 p h1)
        · exact h1.2
  | k + 1 => by
    obtain ⟨i1, i2⟩ := lvR_mem h hn k
    have hs : ∀ p, p ∈ lvS q nf nt (lvR q nf nt k).2 ↔ q p.1 p.2 = true ∧ p.1.length = k + 1 := fun p => by
      rw [mem_lvS]
      constructor
      · rintro ⟨x, hx, a, b, ha, hb, hq, rfl⟩
        refine ⟨hq, ?_⟩
        rw [List.length_append]
        rcases (i2 x).1 hx with h1 | ⟨h1, rfl⟩
        · simp [h1.2]
        · simp [h1]
      · rintro ⟨hq, hl⟩
        obtain ⟨p1, p2⟩ := p
        simp only at hq hl
        have hl2 := h.len hq
        have e1 := List.dropLast_concat_getLast (l := p1) (by intro e; rw [e] at hl; simp at hl)
        have e2 := List.dropLast_concat_getLast (l := p2) (by intro e; rw [e] at hl2; simp at hl2; rw [hl2] at hl; simp at hl)
        have hla := h.inl hq (p1.getLast (by intro e; rw [e] at hl; simp at hl)) (List.getLast_mem _)
        have hlb := h.inr hq (p2.getLast (by intro e; rw [e] at hl2; simp at hl2; rw [hl2] at hl; simp at hl)) (List.getLast_mem _)
        have hd1 : p1.dropLast.length = k := by rw [List.length_dropLast]; omega
        have hd2 : p2.dropLast.length = k := by rw [List.length_dropLast]; omega
        generalize p1.dropLast = u at *
        generalize p2.dropLast = v at *
        generalize p1.getLast (by intro e; rw [e] at hl; simp at hl) = a at *
        generalize p2.getLast (by intro e; rw [e] at hl2; simp at hl2; rw [hl2] at hl; simp at hl) = b at *
        have ea : ((a.toNat : Nat) : Int) = a := by omega
        have eb : ((b.toNat : Nat) : Int) = b := by omega
        have la : a.toNat < nf := by omega
        have lb : b.toNat < nt := by omega
        refine ⟨(u, v), (i2 (u, v)).2 ?_, a.toNat, b.toNat, la, lb, ?_, ?_⟩
        · rcases Nat.eq_zero_or_pos k with h0 | h0
          · refine .inr ⟨h0, ?_⟩
            rw [List.eq_nil_of_length_eq_zero (show u.length = 0 by omega), List.eq_nil_of_length_eq_zero (show v.length = 0 by omega)]
          · rw [← e1, ← e2] at hq
            exact .inl ⟨h.pre hq (show u.length = v.length by omega) (show 0 < u.length by omega), hd1⟩
        · simp only
          rw [ea, eb, e1, e2]
          exact hq
        · simp only
          rw [ea, eb, e1, e2]
    refine ⟨fun p => ?_, fun p => ?_⟩
    · simp only [lvR]
      rw [List.mem_append, i1, hs]
      constructor
      · rintro (⟨h1, h2⟩ | ⟨h1, h2⟩)
        · exact ⟨h1, by omega⟩
        · exact ⟨h1, by omega⟩
      · rintro ⟨h1, h2⟩
        rcases Nat.lt_or_ge p.1.length (k + 1) with h3 | h3
        · exact .inl ⟨h1, by omega⟩
        · exact .inr ⟨h1, by omega⟩
    · simp only [lvR]
      rw [hs]
      constructor
      · intro h1; exact .inl h1
      · rintro (h1 | h1)
        · exact h1
        · exact absurd h1.1 (by omega)
theorem lvS_nodup {q : List Int → List Int → Bool} {nf nt : Nat} {now : List Pr} (hnd : now.Nodup) (hlen : ∀ p ∈ now, ∀ p' ∈ now, p.1.length = p'.1.length ∧ p.2.length = p'.2.length) : (lvS q nf nt now).Nodup := by
  unfold lvS
  rw [List.Nodup, List.pairwise_flatMap]
  have key : ∀ (x : Pr) (a b : Nat) (p : Pr), p ∈ (if q (x.1 ++ [(a : Int)]) (x.2 ++ [(b : Int)]) = true then [(x.1 ++ [(a : Int)], x.2 ++ [(b : Int)])] else []) → p = (x.1 ++ [(a : Int)], x.2 ++ [(b : Int)]) := fun x a b p hp => by
    split at hp
    · exact List.mem_singleton.1 hp
    · cases hp
  refine ⟨fun x hx => ?_, ?_⟩
  · rw [List.pairwise_flatMap]
    refine ⟨fun a ha => ?_, ?_⟩
    · rw [List.pairwise_flatMap]
      refine ⟨fun b hb => ?_, ?_⟩
      · split
        · exact List.pairwise_singleton _ _
        · exact List.Pairwise.nil
      · refine (nodup_rg 0 nt).imp fun {b b'} hne p hp p' hp' e => ?_
        have e1 := key _ _ _ _ hp
        have e2 := key _ _ _ _ hp'
        rw [e, e2] at e1
        have := (Prod.mk.inj e1).2
        have := List.append_cancel_left this
        simp at this
        omega
    · refine (nodup_rg 0 nf).imp fun {a a'} hne p hp p' hp' e => ?_
      obtain ⟨b, _, hp⟩ := List.mem_flatMap.1 hp
      obtain ⟨b', _, hp'⟩ := List.mem_flatMap.1 hp'
      have e1 := key _ _ _ _ hp
      have e2 := key _ _ _ _ hp'
      rw [e, e2] at e1
      have := (Prod.mk.inj e1).1
      have := List.append_cancel_left this
      simp at this
      omega
  · refine (List.Pairwise.and_mem.1 hnd).imp fun {x x'} ⟨hx, hx', hne⟩ p hp p' hp' e => ?_
    obtain ⟨a, _, hp⟩ := List.mem_flatMap.1 hp
    obtain ⟨b, _, hp⟩ := List.mem_flatMap.1 hp
    obtain ⟨a', _, hp'⟩ := List.mem_flatMap.1 hp'
    obtain ⟨b', _, hp'⟩ := List.mem_flatMap.1 hp'
    have e1 := key _ _ _ _ hp
    have e2 := key _ _ _ _ hp'
    rw [e, e2] at e1
    have hl := hlen _ hx _ hx'
    have h1 := List.append_inj_left (Prod.mk.inj e1).1 (by omega)
    have h2 := List.append_inj_left (Prod.mk.inj e1).2 (by omega)
    exact hne (Prod.ext h1.symm h2.symm)
theorem lvR_nodup {q : List Int → List Int → Bool} {nf nt : Nat} (h : Pq q nf nt) (hn : q [] [] = false) : ∀ k, (lvR q nf nt k).1.Nodup ∧ (lvR q nf nt k).2.Nodup
  | 0 => by simp [lvR]
  | k + 1 => by
    obtain ⟨i1, i2⟩ := lvR_nodup h hn k
    obtain ⟨m1, m2⟩ := lvR_mem h hn k
    have ln : ∀ p ∈ (lvR q nf nt k).2, p.1.length = k ∧ p.2.length = k := fun p hp => by
      rcases (m2 p).1 hp with h1 | ⟨h1, rfl⟩
      · have := h.len h1.1; omega
      · simp [h1]
    have hs := lvS_nodup (q := q) (nf := nf) (nt := nt) i2 fun p hp p' hp' => by
      have a := ln p hp
      have b := ln p' hp'
      omega
    refine ⟨?_, hs⟩
    simp only [lvR]
    rw [List.Nodup, List.pairwise_append]
    refine ⟨i1, hs, fun p hp p' hp' e => ?_⟩
    have h1 := ((m1 p).1 hp).2
    obtain ⟨x, hx, a, b, _, _, _, e2⟩ := (mem_lvS _ _).1 hp'
    have h2 := ln x hx
    rw [e, e2] at h1
    simp at h1
    omega
end Go.Ab.A15
namespace Go.Ab.A15
open Go Go.Ab Go.Ab.A34 Go.Sort Go.Shelf Go.Proofs
theorem cmpI_neg (x y : Int) : cmpI y x = -cmpI x y := by unfold cmpI; split <;> split <;> omega
theorem cmpI_zero {x y : Int} (h : cmpI x y = 0) : x = y := by unfold cmpI at h; split at h <;> first | omega | (split at h <;> omega)
theorem cmpI_lt {x y : Int} : cmpI x y < 0 ↔ x < y := by unfold cmpI; split <;> first | omega | (split <;> omega)
theorem lexI_neg : ∀ x y, lexI y x = -lexI x y
  | [], [] => rfl
  | [], _ :: _ => rfl
  | _ :: _, [] => rfl
  | a :: x, b :: y => by
    unfold lexI
    have h := cmpI_neg a b
    by_cases h0 : cmpI a b = 0
    · rw [if_pos h0, if_pos (by omega), lexI_neg x y]
    · rw [if_neg h0, if_neg (by omega), h]
theorem lexI_zero : ∀ {x y}, lexI x y = 0 → x = y
  | [], [], _ => rfl
  | [], _ :: _, h => by simp [lexI] at h
  | _ :: _, [], h => by simp [lexI] at h
  | a :: x, b :: y, h => by
    unfold lexI at h
    by_cases h0 : cmpI a b = 0
    · rw [if_pos h0] at h
      rw [cmpI_zero h0, lexI_zero h]
    · rw [if_neg h0] at h
      exact absurd h h0
theorem lexI_trans : ∀ {x y z}, lexI x y < 0 → lexI y z < 0 → lexI x z < 0
  | [], [], _, h, _ => by simp [lexI] at h
  | _ :: _, [], _, h, _ => by simp [lexI] at h
  | [], _ :: _, [], _, h => by simp [lexI] at h
  | [], _ :: _, _ :: _, _, _ => by simp [lexI]
  | _ :: _, _ :: _, [], _, h => by simp [lexI] at h
  | a :: x, b :: y, c :: z, h1, h2 => by
    unfold lexI at h1 h2 ⊢
    by_cases e1 : cmpI a b = 0
    · rw [if_pos e1] at h1
      have := cmpI_zero e1
      subst this
      by_cases e2 : cmpI a c = 0
      · rw [if_pos e2] at h2 ⊢
        exact lexI_trans h1 h2
      · rw [if_neg e2] at h2 ⊢
        exact h2
    · rw [if_neg e1] at h1
      have l1 := cmpI_lt.1 h1
      by_cases e2 : cmpI b c = 0
      · have := cmpI_zero e2
        subst this
        rw [if_neg e1]
        exact h1
      · rw [if_neg e2] at h2
        have l2 := cmpI_lt.1 h2
        have l3 : cmpI a c < 0 := cmpI_lt.2 (by omega)
        rw [if_neg (by omega)]
        exact l3
theorem fl_one {E : Env} {v : Value} {n sz : Nat} {f : Nat → List SV} (hr : Rep E v (.fl n sz f)) : v.oneCell' = true := by cases hr <;> rfl
theorem ltL_lex : ∀ a b : List Int, ltL a b = decide (lexI a b < 0)
  | [], [] => rfl
  | [], _ :: _ => rfl
  | _ :: _, [] => rfl
  | x :: a, y :: b => by
    unfold ltL lexI
    by_cases h : x = y
    · subst h
      rw [if_pos rfl, if_pos (by unfold cmpI; simp), ltL_lex a b]
    · have hc : ¬ cmpI x y = 0 := fun e => h (cmpI_zero e)
      rw [if_neg h, if_neg hc]
      exact decide_eq_decide.mpr cmpI_lt.symm
def cmpD (a b : Dp) : Int := if lexI a.l b.l = 0 then lexI a.r b.r else lexI a.l b.l
theorem cmpD_neg (a b : Dp) : cmpD b a = -cmpD a b := by
  unfold cmpD
  have h1 := lexI_neg a.l b.l
  have h2 := lexI_neg a.r b.r
  by_cases h : lexI a.l b.l = 0
  · rw [if_pos h, if_pos (by omega), h2]
  · rw [if_neg h, if_neg (by omega), h1]
theorem cmpD_zero {a b : Dp} (h : cmpD a b = 0) : a.l = b.l ∧ a.r = b.r := by
  unfold cmpD at h
  by_cases h0 : lexI a.l b.l = 0
  · rw [if_pos h0] at h
    exact ⟨lexI_zero h0, lexI_zero h⟩
  · rw [if_neg h0] at h
    exact absurd h h0
theorem cmpD_trans {a b c : Dp} (h1 : cmpD a b < 0) (h2 : cmpD b c < 0) : cmpD a c < 0 := by
  unfold cmpD at *
  by_cases e1 : lexI a.l b.l = 0
  · rw [if_pos e1] at h1
    rw [lexI_zero e1]
    by_cases e2 : lexI b.l c.l = 0
    · rw [if_pos e2] at h2 ⊢
      exact lexI_trans h1 h2
    · rw [if_neg e2] at h2 ⊢
      exact h2
  · rw [if_neg e1] at h1
    by_cases e2 : lexI b.l c.l = 0
    · rw [← lexI_zero e2, if_neg e1]
      exact h1
    · rw [if_neg e2] at h2
      have h3 := lexI_trans h1 h2
      rw [if_neg (by omega)]
      exact h3
theorem ltD_cmp (a b : Dp) : ltD a b = decide (cmpD a b < 0) := by
  unfold ltD cmpD
  rw [ltL_lex, ltL_lex, ltL_lex]
  have h1 := lexI_neg a.l b.l
  by_cases e1 : lexI a.l b.l = 0
  · rw [if_pos e1, e1]
    rw [show lexI b.l a.l = 0 by omega]
    simp
  · rw [if_neg e1]
    rw [if_pos]
    simp only [Bool.or_eq_true, decide_eq_true_eq]
    omega
theorem swo_cmpD : SWO (ltOf cmpD) where
  irrefl := fun x => by
    have := cmpD_neg x x
    simp only [ltOf, decide_eq_false_iff_not]
    omega
  trans := fun x y z h1 h2 => by
    simp only [ltOf, decide_eq_true_eq] at *
    exact cmpD_trans h1 h2
  ntrans := fun x y z h1 h2 => by
    simp only [ltOf, decide_eq_false_iff_not] at *
    intro h3
    have n1 := cmpD_neg x y
    have n2 := cmpD_neg y z
    rcases Int.lt_or_eq_of_le (show cmpD y x ≤ 0 by omega) with h4 | h4
    · have := cmpD_trans h4 h3
      omega
    · obtain ⟨e1, e2⟩ := cmpD_zero h4
      have : cmpD x z = cmpD y z := by unfold cmpD; rw [e1, e2]
      omega
def orL : List Int → Int
  | [] => 0
  | x :: l => if x = 0 then orL l else x
theorem orL_step {l : List Int} {i : Nat} (h : i < l.length) : orL (l.drop i) = if l.getD i 0 = 0 then orL (l.drop (i + 1)) else l.getD i 0 := by
  have g : l.getD i 0 = l[i] := by simp [List.getD_eq_getElem?_getD, h]
  rw [List.drop_eq_getElem_cons h, g]
  rfl
abbrev dCs (l : List Dp) : List SV := l.flatMap dC
def srtD (l : List Dp) : List Dp := l.mergeSort fun x y => !(ltOf cmpD) y x
end Go.Ab.A15
namespace Go.Proofs.YtpidncgibgiidaaGreat
open Go Go.Ab Go.Ab.A34 Go.Ab.A15 Go.Sort Go.Shelf Go.RowKit
variable [Gl] [Tabs]
theorem cmp_n (x y : Int) : PCall Tryz.prog 114 [I64 x, I64 y] (I64 (cmpI x y)) := by
  have nan : ∀ z, PCall Tryz.prog 144 [I64 z] (SB false) := fun z => by
    refine Call.enter' (N := 6) (rs := [.tmp 2]) Tryz.func144 rfl rfl rfl (by decide) rfl ?_; simp only [argT]; have hD : (0 : Nat) = 0 := rfl
    repeat' first | (refine SW.seq_k fun K hK => ?_) | ((first | refine SW.region ?_ | refine SW.ret ?_); try simp only [go_sem, hD]) | (apply hK; clear hK K)
    refine ret_pure ?_; simp only [resL_tmp, resL_nil, tupOf, go_sem, hD]
  have cx := nan x
  have cy := nan y
  obtain ⟨R, hR⟩ : ∃ R, R = cmpI x y := ⟨_, rfl⟩
  rw [← hR]
  unfold cmpI at hR
  by_cases h1 : x < y
  · rw [if_pos h1] at hR
    subst hR
    refine Call.enter' (N := 20) (rs := [.tmp 4]) Tryz.func114 rfl rfl rfl (by decide) rfl ?_; simp only [argT]; have hD : (0 : Nat) = 0 := rfl
    repeat' first | (refine SW.seq_k fun K hK => ?_) | ((first | refine SW.region ?_ | refine SW.cond ?_ | refine SW.skip ?_ | refine SW.ret ?_ | refine Call.of_pure (cx) ?_ | refine Call.of_pure (cy) ?_); try simp only [go_sem, hD, h1]) | (apply hK; clear hK K)
    refine ret_pure ?_; simp only [resL_tmp, resL_nil, tupOf, go_sem, hD]
  · rw [if_neg h1] at hR
    by_cases h2 : y < x
    · rw [if_pos h2] at hR
      subst hR
      refine Call.enter' (N := 20) (rs := [.tmp 4]) Tryz.func114 rfl rfl rfl (by decide) rfl ?_; simp only [argT]; have hD : (0 : Nat) = 0 := rfl
      repeat' first | (refine SW.seq_k fun K hK => ?_) | ((first | refine SW.region ?_ | refine SW.cond ?_ | refine SW.skip ?_ | refine SW.ret ?_ | refine Call.of_pure (cx) ?_ | refine Call.of_pure (cy) ?_); try simp only [go_sem, hD, h1, h2]) | (apply hK; clear hK K)
      refine ret_pure ?_; simp only [resL_tmp, resL_nil, tupOf, go_sem, hD]
    · rw [if_neg h2] at hR
      subst hR
      refine Call.enter' (N := 20) (rs := [.tmp 4]) Tryz.func114 rfl rfl rfl (by decide) rfl ?_; simp only [argT]; have hD : (0 : Nat) = 0 := rfl
      repeat' first | (refine SW.seq_k fun K hK => ?_) | ((first | refine SW.region ?_ | refine SW.cond ?_ | refine SW.skip ?_ | refine SW.ret ?_ | refine Call.of_pure (cx) ?_ | refine Call.of_pure (cy) ?_); try simp only [go_sem, hD, h1, h2]) | (apply hK; clear hK K)
      refine ret_pure ?_; simp only [resL_tmp, resL_nil, tupOf, go_sem, hD]
theorem lex_n (a b : List Int) (ha : a.length ≤ 1000000000) (hb : b.length ≤ 1000000000) : PCall Tryz.prog 95 [IL a, IL b] (I64 (lexI a b)) := by
  obtain ⟨R, hR⟩ : ∃ R, R = lexI a b := ⟨_, rfl⟩
  rw [← hR]
  have hR0 : R = lexI (a.drop 0) (b.drop 0) := by rw [List.drop_zero, List.drop_zero]; exact hR
  clear hR
  refine Call.enter' (N := 36) (rs := [.tmp 4]) Tryz.func95 rfl rfl rfl (by decide) rfl ?_; simp only [argT]; have hD : (0 : Nat) = 0 := rfl
  repeat' first | (refine SW.seq_k fun K hK => ?_) | (refine SW.block ?_) | (refine SW.region ?_; try simp only [go_sem, hD]) | (apply hK; clear hK K)
  obtain ⟨I, hI⟩ : ∃ I : Nat → St → Prop, ∀ k S, I k S ↔ (∃ (i : Nat) , k = a.length - i ∧ i ≤ a.length ∧ R = lexI (a.drop i) (b.drop i) ∧ S = ⟨[(0, IL a), (1, IL b), (9, IL a), (10, I64 a.length), (11, I64 i)], []⟩) := ⟨fun k S => _, fun _ _ => Iff.rfl⟩
  refine SW.loop' I (a.length) ((hI _ _).2 ⟨0, rfl, Nat.zero_le _, hR0, rfl⟩) (by repeat' (first | exact rfl | exact trivial | constructor)) ?_
  intro k S hIn
  obtain ⟨i, rfl, hi, hC, rfl⟩ := (hI _ _).1 hIn
  clear hIn
  have ie : ((i : Nat) : Int).toNat = i := Int.toNat_natCast _
  have i0 : (0 : Int) ≤ ((i : Nat) : Int) := by omega
  clear hR0
  by_cases hlt : i < a.length
  · have hli : ((i : Nat) : Int) < (((a.length) : Nat) : Int) := by omega
    have w1 : IntKind.i64.wrap ((i : Int) + 1) = ((i + 1 : Nat) : Int) := by rw [i64_wrap (by omega) (by omega)]; omega
    rw [lexI_step hlt] at hC
    have fi : iF a i = [I64 (a.getD i 0)] := rfl
    by_cases hlb : i < b.length
    · rw [if_pos hlb] at hC
      have gi : iF b i = [I64 (b.getD i 0)] := rfl
      have hnb : ¬ ((b.length : Nat) : Int) ≤ ((i : Nat) : Int) := by omega
      have hbi : ((i : Nat) : Int) < ((b.length : Nat) : Int) := by omega
      have c := cmp_n (a.getD i 0) (b.getD i 0)
      generalize cmpI (a.getD i 0) (b.getD i 0) = z at *
      generalize a.getD i 0 = u at *
      generalize b.getD i 0 = v at *
      by_cases hz : z = 0
      · rw [if_pos hz] at hC
        repeat' first | (refine SW.seq_k fun K hK => ?_) | (refine SW.block ?_) | ((first | refine SW.region ?_ | refine SW.cond ?_ | refine SW.skip ?_ | refine Call.of_pure (c) ?_); try simp only [go_sem, hD, hli, ie, i0, w1, fi, gi, hnb, hbi, hz, true_implies]) | (apply hK; clear hK K)
        refine Rnd.sub (a.length - (i + 1)) (by omega) ((hI _ _).2 ⟨i + 1, rfl, by omega, hC, rfl⟩) (by repeat' (first | exact rfl | exact trivial | constructor))
      · rw [if_neg hz] at hC
        subst hC
        repeat' first | (refine SW.seq_k fun K hK => ?_) | (refine SW.block ?_) | ((first | refine SW.region ?_ | refine SW.cond ?_ | refine SW.skip ?_ | refine SW.ret ?_ | refine Call.of_pure (c) ?_); try simp only [go_sem, hD, hli, ie, i0, w1, fi, gi, hnb, hbi, hz, true_implies]) | (apply hK; clear hK K)
        refine ret_pure ?_; simp only [resL_tmp, resL_nil, tupOf, go_sem, hD]
    · rw [if_neg hlb] at hC
      subst hC
      have hnb : ((b.length : Nat) : Int) ≤ ((i : Nat) : Int) := by omega
      repeat' first | (refine SW.seq_k fun K hK => ?_) | (refine SW.block ?_) | ((first | refine SW.region ?_ | refine SW.cond ?_ | refine SW.skip ?_ | refine SW.ret ?_); try simp only [go_sem, hD, hli, ie, i0, w1, fi, hnb, true_implies]) | (apply hK; clear hK K)
      refine ret_pure ?_; simp only [resL_tmp, resL_nil, tupOf, go_sem, hD]
  · have hli : ¬ ((i : Nat) : Int) < (((a.length) : Nat) : Int) := by omega
    rw [lexI_end (by omega)] at hC
    have hia : i = a.length := by omega
    by_cases hlb : i < b.length
    · rw [if_pos hlb] at hC
      subst hC
      have hab : ((a.length : Nat) : Int) < ((b.length : Nat) : Int) := by omega
      repeat' first | (refine SW.seq_k fun K hK => ?_) | ((first | refine SW.region ?_ | refine SW.cond ?_ | refine SW.exit ?_ | refine SW.ret ?_); try simp only [go_sem, hD, hli, hab, true_implies]) | (apply hK; clear hK K) | (clear hK K; apply hK; clear hK K)
      refine ret_pure ?_; simp only [resL_tmp, resL_nil, tupOf, go_sem, hD]
    · rw [if_neg hlb] at hC
      subst hC
      have hab : ¬ ((a.length : Nat) : Int) < ((b.length : Nat) : Int) := by omega
      repeat' first | (refine SW.seq_k fun K hK => ?_) | ((first | refine SW.region ?_ | refine SW.cond ?_ | refine SW.skip ?_ | refine SW.exit ?_ | refine SW.ret ?_); try simp only [go_sem, hD, hli, hab, true_implies]) | (apply hK; clear hK K) | (clear hK K; apply hK; clear hK K)
      refine ret_pure ?_; simp only [resL_tmp, resL_nil, tupOf, go_sem, hD]
theorem or_n (l : List Int) (n : Nat) (hn : n = l.length) (hl : l.length ≤ 1000000000) : PCall Tryz.prog 94 [.fl n 1 (iF l)] (I64 (orL l)) := by
  subst hn
  obtain ⟨R, hR⟩ : ∃ R, R = orL l := ⟨_, rfl⟩
  rw [← hR]
  refine Call.enter' (N := 18) (rs := [.tmp 2]) Tryz.func94 rfl rfl rfl (by decide) rfl ?_; simp only [argT]; have hD : (0 : Nat) = 0 := rfl
  repeat' first | (refine SW.seq_k fun K hK => ?_) | (refine SW.block ?_) | (refine SW.region ?_; try simp only [go_sem, hD]) | (apply hK; clear hK K)
  obtain ⟨I, hI⟩ : ∃ I : Nat → St → Prop, ∀ k S, I k S ↔ (∃ (i : Nat) , k = l.length - i ∧ i ≤ l.length ∧ R = orL (l.drop i) ∧ S = ⟨[(0, IL l), (3, I64 (0 : Nat)), (6, IL l), (7, I64 l.length), (8, I64 i)], []⟩) := ⟨fun k S => _, fun _ _ => Iff.rfl⟩
  refine SW.loop' I (l.length) ((hI _ _).2 ⟨0, rfl, Nat.zero_le _, hR, rfl⟩) (by repeat' (first | exact rfl | exact trivial | constructor)) ?_
  intro k S hIn
  obtain ⟨i, rfl, hi, hC, rfl⟩ := (hI _ _).1 hIn
  clear hIn
  have ie : ((i : Nat) : Int).toNat = i := Int.toNat_natCast _
  have i0 : (0 : Int) ≤ ((i : Nat) : Int) := by omega
  clear hR
  by_cases hlt : i < l.length
  · have hli : ((i : Nat) : Int) < (((l.length) : Nat) : Int) := by omega
    have w1 : IntKind.i64.wrap ((i : Int) + 1) = ((i + 1 : Nat) : Int) := by rw [i64_wrap (by omega) (by omega)]; omega
    rw [orL_step hlt] at hC
    have fi : iF l i = [I64 (l.getD i 0)] := rfl
    generalize l.getD i 0 = u at *
    by_cases hz : u = 0
    · rw [if_pos hz] at hC
      repeat' first | (refine SW.seq_k fun K hK => ?_) | (refine SW.block ?_) | ((first | refine SW.region ?_ | refine SW.cond ?_ | refine SW.skip ?_); try simp only [go_sem, hD, hli, ie, i0, w1, fi, hz, true_implies]) | (apply hK; clear hK K)
      refine Rnd.sub (l.length - (i + 1)) (by omega) ((hI _ _).2 ⟨i + 1, rfl, by omega, hC, rfl⟩) (by repeat' (first | exact rfl | exact trivial | constructor))
    · rw [if_neg hz] at hC
      subst hC
      repeat' first | (refine SW.seq_k fun K hK => ?_) | (refine SW.block ?_) | ((first | refine SW.region ?_ | refine SW.cond ?_ | refine SW.skip ?_ | refine SW.ret ?_); try simp only [go_sem, hD, hli, ie, i0, w1, fi, hz, true_implies]) | (apply hK; clear hK K)
      refine ret_pure ?_; simp only [resL_tmp, resL_nil, tupOf, go_sem, hD]
  · have hli : ¬ ((i : Nat) : Int) < (((l.length) : Nat) : Int) := by omega
    rw [List.drop_of_length_le (by omega)] at hC
    have hC2 : R = 0 := hC
    subst hC2
    repeat' first | (refine SW.seq_k fun K hK => ?_) | ((first | refine SW.region ?_ | refine SW.cond ?_ | refine SW.exit ?_ | refine SW.ret ?_); try simp only [go_sem, hD, hli]) | (apply hK; clear hK K) | (clear hK K; apply hK; clear hK K)
    refine ret_pure ?_; simp only [resL_tmp, resL_nil, tupOf, go_sem, hD]
theorem ord_d (a b : Dp) (ha : OkS a) (hb : OkS b) : PCall Tryz.prog 93 [DV a, DV b] (I64 (cmpD a b)) := by
  have c1 := lex_n a.l b.l ha.l hb.l
  have c2 := lex_n a.r b.r ha.r hb.r
  have he : cmpD a b = orL [lexI a.l b.l, lexI a.r b.r] := by
    unfold cmpD orL orL orL
    by_cases h : lexI a.l b.l = 0
    · rw [if_pos h, if_pos h]
      split
      · assumption
      · rfl
    · rw [if_neg h, if_neg h]
  rw [he]
  clear he
  generalize lexI a.l b.l = x at *
  generalize lexI a.r b.r = y at *
  have c3 := or_n [x, y] 2 rfl (by simp)
  generalize orL [x, y] = z at *
  have cl : ∀ bk H, Heap.find H bk = some (.svs [I64 x, I64 y]) → Ab.Call Tryz.prog 94 [.os bk 0 2 1] H (fun r h' => r = I64 z ∧ h' = H) := fun bk H hH =>
    Call.lend (args := [.os bk 0 2 1]) (k := .svs [I64 x, I64 y]) (off := 0) (sz := 1) 0 (iF [x, y]) (by simp) rfl hH (by show 0 + 2 * 1 ≤ 2; omega) (fun j hj => by
      rcases (by omega : j = 0 ∨ j = 1) with rfl | rfl <;> rfl) c3
  obtain ⟨af, al, at', ar⟩ := a
  obtain ⟨bf, bl, bt, br⟩ := b
  simp only at c1 c2
  refine Call.enter' (N := 17) (rs := [.tmp 4]) Tryz.func93 rfl rfl rfl (by decide) rfl ?_; simp only [argT]; have hD : (0 : Nat) = 0 := rfl
  repeat' first | ((refine Call.mono (cl _ _ (by simp [find_cons, hD])) ?_); (intro r h' hx); (obtain ⟨rfl, rfl⟩ := hx); (try simp only [go_sem, hD])) | (refine SW.seq_k fun K hK => ?_) | ((first | refine SW.region ?_ | refine SW.regionY [11] (id := 1) (Checked.mixed Tryz.checked) ((.one 0 [0, 1, 4, 9, 10, 11, 12] (.one 1 [1, 4, 9, 10, 11, 12] (.one 2 [2, 3, 4, 9, 10, 11, 12] (.one 3 [3, 4, 9, 10, 11, 12] (.one 4 [4, 9, 10, 11, 12] (.one 5 [5, 6, 9, 10, 11, 12] (.one 6 [6, 9, 10, 11, 12] (.one 7 [7, 8, 9, 10, 11, 12] (.one 8 [8, 9, 10, 11, 12] (.one 9 [9, 10, 11, 12] (.alt 10 false (.alt 11 true (.one 12 [12] .done) .nil) .nil))))))))))) : OY) (by kernel_rfl) ?_ | refine SW.ret ?_ | refine ⟨_, c1, ?_⟩ | refine ⟨_, c2, ?_⟩ | (refine allF_i fun b hb => ?_; replace hD := And.intro hb hD; clear hb; try simp only [fresh_cons, fresh_nil, and_true, ne_eq, neF] at hD)); try simp only [go_sem, hD, true_implies]) | (apply hK; clear hK K)
  all_goals
    refine retQ_le (St.le_sublist (h' := []) (fun x hx => by cases hx) (fun _ => by simp)) ?_
    simp only [resL_tmp, resL_nil, tupOf, go_sem, hD]
theorem isAggD : ∀ w, (isAgg 40).run Tryz.prog w = .ok true w := fun w => by kernel_rfl
theorem sizeD : ∀ w, (Go.sizeOf 40).run Tryz.prog w = .ok 4 w := fun w => by kernel_rfl
theorem sort_d (b : Nat) (l : List Dp) (f t : ByteArray) (hf : ∀ d ∈ l, d.f = f ∧ d.t = t) (hne : l ≠ []) (hnd : l.Nodup) (hl : l.length ≤ 1000000000) (hs : ∀ d ∈ l, OkS d) :
    Ab.Call Tryz.prog 92 [.os b 0 l.length 4, .fn (.func 93) [] []] [(b, .svs (dCs l))] (fun r h' => r = .tup [] ∧ h' = [(b, .svs (dCs (srtD l)))]) :=
  Call.sortSK (P := Tryz.prog) (ρ := Tryz.sortI_ren) Tryz.sortI ⟨_, Tryz.func92, by kernel_rfl, by kernel_rfl⟩ 4 (by decide) isAggD sizeD dC (fun _ => rfl) (fun x j E v hj hr => by
      rcases (by omega : j = 0 ∨ j = 1 ∨ j = 2 ∨ j = 3) with rfl | rfl | rfl | rfl
      · cases hr; rfl
      · exact fl_one hr
      · cases hr; rfl
      · exact fl_one hr) cmpD swo_cmpD 93 (Go.Proofs.enters_of Tryz.func93 (by kernel_rfl) rfl) b l (fun x hx y hy h1 h2 => by
    simp only [ltOf, decide_eq_false_iff_not] at h1 h2
    have := cmpD_neg x y
    obtain ⟨e1, e2⟩ := cmpD_zero (a := x) (b := y) (by omega)
    exact dp_eq.2 ⟨by rw [(hf x hx).1, (hf y hy).1], by rw [(hf x hx).2, (hf y hy).2], e1, e2⟩) hne hnd (by omega) (fun x hx y hy => ord_d x y (hs x hx) (hs y hy))
theorem sort_dn : PCall Tryz.prog 92 [SN, .fn (.func 93) [] []] (.tup []) :=
  Call.sortQ0 (P := Tryz.prog) (ρ := Tryz.sortI_ren) Tryz.sortI ⟨_, Tryz.func92, by kernel_rfl, by kernel_rfl⟩ 93
end Go.Proofs.YtpidncgibgiidaaGreat
namespace Go.Ab.A15
open Go Go.Ab Go.Ab.A34
def woL (l : List Int) (p : Nat) : List Int := l.take p ++ l.drop (p + 1)
abbrev iC (l : List Int) : List SV := l.map fun x => I64 x
theorem iC_all (l : List Int) : (iC l).all single = true := by
  rw [List.all_eq_true]
  intro x hx
  obtain ⟨y, _, rfl⟩ := List.mem_map.1 hx
  rfl
theorem fl_take (l : List Int) (p : Nat) (hp : p ≤ l.length) : flCells (fun i => iF l i) p = iC (l.take p) := by
  have h := fl_map (l.take p)
  rw [List.length_take, Nat.min_eq_left hp] at h
  rw [iC, ← h]
  unfold flCells
  have : ∀ m, m ≤ p → (List.range m).flatMap (fun i => iF l i) = (List.range m).flatMap (iF (l.take p)) := fun m hm => by
    refine congrArg List.flatten (List.map_congr_left fun i hi => ?_)
    rw [List.mem_range] at hi
    unfold iF
    rw [List.getD_eq_getElem?_getD, List.getD_eq_getElem?_getD, List.getElem?_take_of_lt (by omega)]
  exact this p (Nat.le_refl _)
theorem fl_drop (l : List Int) (p n : Nat) (hn : n = l.length - p) : flCells (fun i => iF l (p + i)) n = iC (l.drop p) := by
  subst hn
  have h := fl_map (l.drop p)
  rw [List.length_drop] at h
  rw [iC, ← h]
  unfold flCells
  refine congrArg List.flatten (List.map_congr_left fun i hi => ?_)
  unfold iF
  rw [List.getD_eq_getElem?_getD, List.getD_eq_getElem?_getD, List.getElem?_drop]
theorem St.le_dp [Gl] {t : List (Nat × SV)} {h : Heap} (h3 : Heap) {c b1 b2 n1 n2 : Nat} {f tn : ByteArray} {la lb : List Int} (h0 : h.find c = some (.svs [Str f, .os b1 0 n1 1, Str tn, .os b2 0 n2 1])) (h1 : h.find b1 = some (.svs (iC la))) (h2 : h.find b2 = some (.svs (iC lb))) (hn1 : n1 = la.length) (hn2 : n2 = lb.length)
    (hs : ∀ x ∈ h3, x ∈ h) (hn : (b1 :: b2 :: c :: h3.map (·.1)).Nodup) : (St.mk t h).le ⟨t, (c, .svs (dC ⟨f, la, tn, lb⟩)) :: h3⟩ := by
  have hn' := hn
  rw [List.nodup_cons, List.nodup_cons] at hn'
  obtain ⟨m1, m2, m3⟩ := hn'
  have e1 : ¬ c = b1 := fun e => m1 (by simp [e])
  have e2 : ¬ c = b2 := fun e => m2 (by simp [e])
  have e3 : ¬ b1 = b2 := fun e => m1 (by simp [e])
  subst hn1 hn2
  refine (St.le_pick ((b1, .svs (iC la)) :: (b2, .svs (iC lb)) :: (c, .svs [Str f, .os b1 0 la.length 1, Str tn, .os b2 0 lb.length 1]) :: h3) (fun x hx => ?_) (by simpa using hn)).trans ?_
  · rcases List.mem_cons.1 hx with rfl | hx
    · exact Heap.find_mem h1
    · rcases List.mem_cons.1 hx with rfl | hx
      · exact Heap.find_mem h2
      · rcases List.mem_cons.1 hx with rfl | hx
        · exact Heap.find_mem h0
        · exact hs x hx
  · have lA : (iC la).length = la.length := List.length_map _
    have lB : (iC lb).length = lb.length := List.length_map _
    have s1 := St.le_freezeC (t := t) (h := (b1, .svs (iC la)) :: (b2, .svs (iC lb)) :: (c, .svs [Str f, .os b1 0 la.length 1, Str tn, .os b2 0 lb.length 1]) :: h3) (c := c) (j := 1) (b := b1) (off := 0) (len := la.length) (sz := 1) (k := .svs (iC la)) (cs := [Str f, .os b1 0 la.length 1, Str tn, .os b2 0 lb.length 1]) (by rw [find_cons, if_neg (Ne.symm e1), find_cons, if_neg (Ne.symm e2), find_cons, if_pos rfl]) e1 (by show 1 < 4; omega) rfl (by rw [find_cons, if_pos rfl]) (by rw [Blk.len_svs, lA]; omega) (iF la) (fun p hp => by
      rw [getN_one]
      show _ = [(iC la).getD (0 + p * 1) .any]
      rw [Nat.zero_add, Nat.mul_one, map_get hp]
      rfl)
    rw [del_head, upd_cons, if_neg (Ne.symm e2), upd_cons, if_pos rfl] at s1
    have s2 := St.le_freezeC (t := t) (h := (b2, .svs (iC lb)) :: (c, .svs [Str f, IL la, Str tn, .os b2 0 lb.length 1]) :: h3) (c := c) (j := 3) (b := b2) (off := 0) (len := lb.length) (sz := 1) (k := .svs (iC lb)) (cs := [Str f, IL la, Str tn, .os b2 0 lb.length 1]) (by rw [find_cons, if_neg (Ne.symm e2), find_cons, if_pos rfl]) e2 (by show 3 < 4; omega) rfl (by rw [find_cons, if_pos rfl]) (by rw [Blk.len_svs, lB]; omega) (iF lb) (fun p hp => by
      rw [getN_one]
      show _ = [(iC lb).getD (0 + p * 1) .any]
      rw [Nat.zero_add, Nat.mul_one, map_get hp]
      rfl)
    rw [del_head, upd_cons, if_pos rfl] at s2
    exact s1.trans s2
end Go.Ab.A15
namespace Go.Proofs.YtpidncgibgiidaaGreat
open Go Go.Ab Go.Ab.A34 Go.Ab.A15
variable [Gl] [Tabs]
end Go.Proofs.YtpidncgibgiidaaGreat
namespace Go.Ab
open Go Go.RowKit
theorem Call.nd [Gl] {P : Program} {f : FuncId} {args : List SV} {h : Heap} {Q : SV → Heap → Prop} (hc : (h.map (·.1)).Nodup → Call P f args h Q) : Call P f args h Q := ⟨fun M w vs own hr => (hc own.nodup).out M w vs own hr⟩
theorem Call.permN [Gl] {P : Program} {f : FuncId} {args : List SV} {h h' : Heap} {Q : SV → Heap → Prop} (hc : Call P f args h' Q) (hp : h'.Perm h) : Call P f args h Q := Call.perm hc (fun x => hp.mem_iff) (fun hn => (hp.map _).nodup_iff.2 hn)
theorem SW.nd [Gl] {P : Program} {N : Nat} {c : Code} {Q : Exit → St → Prop} {S : St} (h : (S.h.map (·.1)).Nodup → SW P N c Q S) : SW P N c Q S := ⟨fun M w0 D a w hr => (h hr.own.nodup).run M w0 D a w hr⟩
end Go.Ab
namespace Go.Ab.A15
open Go Go.Ab Go.Ab.A34
def canB (same : Bool) (l r : List Int) : Bool := decide (l ≠ [] ∧ l.length = r.length ∧ l.Pairwise (· < ·) ∧ r.Nodup) && (!same || (l.zip r).all fun p => !(p.1 == p.2))
theorem canB_iff {same : Bool} {l r : List Int} : canB same l r = true ↔ l ≠ [] ∧ l.length = r.length ∧ l.Pairwise (· < ·) ∧ r.Nodup ∧ (same = true → ∀ p ∈ l.zip r, p.1 ≠ p.2) := by
  unfold canB
  rw [Bool.and_eq_true, decide_eq_true_eq, Bool.or_eq_true, Bool.not_eq_true', List.all_eq_true]
  constructor
  · rintro ⟨⟨h1, h2, h3, h4⟩, h5⟩
    refine ⟨h1, h2, h3, h4, fun hs p hp => ?_⟩
    rcases h5 with h5 | h5
    · rw [hs] at h5; cases h5
    · simpa using h5 p hp
  · rintro ⟨h1, h2, h3, h4, h5⟩
    refine ⟨⟨h1, h2, h3, h4⟩, ?_⟩
    cases same with
    | false => exact .inl rfl
    | true => exact .inr fun p hp => by simpa using h5 rfl p hp
theorem pw_last {l : List Int} (h : l.Pairwise (· < ·)) {x : Int} (hx : l.getLast? = some x) : ∀ y ∈ l, y ≤ x := by
  induction l with
  | nil => simp at hx
  | cons a l ih =>
    rw [List.pairwise_cons] at h
    intro y hy
    cases l with
    | nil =>
      simp at hx hy
      omega
    | cons b l =>
      rw [List.getLast?_cons_cons] at hx
      have h2 := ih h.2 hx
      rcases List.mem_cons.1 hy with rfl | hy
      · have := h.1 b List.mem_cons_self
        have := h2 b List.mem_cons_self
        omega
      · exact h2 y hy
theorem pw_snoc {l : List Int} {a : Int} (h : l.Pairwise (· < ·)) (h0 : ∀ x ∈ l, 0 ≤ x) (ha : (fstX l : Int) ≤ a) : (l ++ [a]).Pairwise (· < ·) := by
  rw [List.pairwise_append]
  refine ⟨h, by simp, fun x hx y hy => ?_⟩
  rw [List.mem_singleton] at hy
  subst hy
  unfold fstX at ha
  cases hl : l.getLast? with
  | none =>
    rw [List.getLast?_eq_none_iff] at hl
    rw [hl] at hx
    cases hx
  | some z =>
    rw [hl] at ha
    have h1 := pw_last h hl x hx
    have h2 := h0 x hx
    simp only at ha
    omega
theorem nodup_snoc {r : List Int} {b : Int} : (r ++ [b]).Nodup ↔ r.Nodup ∧ b ∉ r := by
  rw [List.nodup_append]
  constructor
  · rintro ⟨h1, _, h3⟩
    exact ⟨h1, fun hm => h3 b hm b (by simp) rfl⟩
  · rintro ⟨h1, h2⟩
    refine ⟨h1, by simp, fun x hx y hy e => ?_⟩
    rw [List.mem_singleton] at hy
    rw [hy] at e
    exact h2 (e ▸ hx)
def okP (same : Bool) (l r : List Int) : Prop := (l = [] ∧ r = []) ∨ canB same l r = true
theorem canB_snoc {same : Bool} {l r : List Int} {a b : Int} (h : okP same l r) (h0 : ∀ x ∈ l, 0 ≤ x) (ha : (fstX l : Int) ≤ a) : canB same (l ++ [a]) (r ++ [b]) = true ↔ b ∉ r ∧ ¬ (same = true ∧ a = b) := by
  have hb : l.length = r.length ∧ l.Pairwise (· < ·) ∧ r.Nodup ∧ (same = true → ∀ p ∈ l.zip r, p.1 ≠ p.2) := by
    rcases h with ⟨rfl, rfl⟩ | h
    · simp
    · exact (canB_iff.1 h).2
  obtain ⟨h1, h2, h3, h4⟩ := hb
  have hz : (l ++ [a]).zip (r ++ [b]) = l.zip r ++ [(a, b)] := List.zip_append h1
  rw [canB_iff, nodup_snoc, hz]
  constructor
  · rintro ⟨_, _, _, ⟨_, q1⟩, q2⟩
    exact ⟨q1, fun ⟨s, e⟩ => q2 s (a, b) (by simp) e⟩
  · rintro ⟨q1, q2⟩
    refine ⟨by simp, by simp [h1], pw_snoc h2 h0 ha, ⟨h3, q1⟩, fun s p hp => ?_⟩
    rw [List.mem_append, List.mem_singleton] at hp
    rcases hp with hp | rfl
    · exact h4 s p hp
    · exact fun e => q2 ⟨s, e⟩
theorem canB_pre {same : Bool} {l r a b : List Int} (h : canB same (l ++ a) (r ++ b) = true) (hl : l.length = r.length) (h0 : 0 < l.length) : canB same l r = true := by
  rw [canB_iff] at h ⊢
  obtain ⟨_, _, h3, h4, h5⟩ := h
  refine ⟨fun e => by rw [e] at h0; simp at h0, hl, (List.pairwise_append.1 h3).1, (List.nodup_append.1 h4).1, fun s p hp => h5 s p ?_⟩
  rw [List.zip_append hl]
  exact List.mem_append_left _ hp
theorem hM_pre {F T : List R3} {l r a b : List Int} (h : hM F T (l ++ a) (r ++ b) = true) (hl : l.length = r.length) : hM F T l r = true := by
  unfold hM at h ⊢
  rw [Bool.not_eq_true', List.any_eq_false] at h ⊢
  intro x hx
  have h1 := h x hx
  rw [Bool.not_eq_true, Bool.not_eq_false', List.any_eq_true] at h1 ⊢
  obtain ⟨y, hy, e⟩ := h1
  refine ⟨y, hy, ?_⟩
  unfold agB at e ⊢
  rw [List.all_eq_true] at e ⊢
  intro i hi
  rw [List.mem_range] at hi
  have h2 := e i (by rw [List.mem_range, List.length_append]; omega)
  rw [getD_app hi, getD_app (show i < r.length by omega)] at h2
  exact h2
def qB (f t : Tb) (same : Bool) (l r : List Int) : Bool := canB same l r && (l.all fun x => decide (0 ≤ x ∧ x < (f.attrs.length : Int))) && (r.all fun x => decide (0 ≤ x ∧ x < (t.attrs.length : Int))) && hM f.rows t.rows l r
theorem qB_iff {f t : Tb} {same : Bool} {l r : List Int} : qB f t same l r = true ↔ canB same l r = true ∧ InA f.attrs.length l ∧ InA t.attrs.length r ∧ hM f.rows t.rows l r = true := by
  unfold qB InA
  simp only [Bool.and_eq_true, List.all_eq_true, decide_eq_true_eq, and_assoc]
theorem qB_pq (f t : Tb) (same : Bool) : Pq (qB f t same) f.attrs.length t.attrs.length where
  len := fun h => (canB_iff.1 (qB_iff.1 h).1).2.1
  pre := fun h hl h0 => by
    obtain ⟨h1, h2, h3, h4⟩ := qB_iff.1 h
    exact qB_iff.2 ⟨canB_pre h1 hl h0, fun x hx => h2 x (List.mem_append_left _ hx), fun x hx => h3 x (List.mem_append_left _ hx), hM_pre h4 hl⟩
  inl := fun h => (qB_iff.1 h).2.1
  inr := fun h => (qB_iff.1 h).2.2.1
  asc := fun h => (canB_iff.1 (qB_iff.1 h).1).2.2.1
theorem qB_nil (f t : Tb) (same : Bool) : qB f t same [] [] = false := by
  unfold qB canB
  simp
def okQ (f t : Tb) (same : Bool) (l r : List Int) : Prop := (l = [] ∧ r = []) ∨ qB f t same l r = true
theorem okQ.len {f t : Tb} {same : Bool} {l r : List Int} (h : okQ f t same l r) : l.length = r.length := by
  rcases h with ⟨rfl, rfl⟩ | h
  · rfl
  · exact (qB_pq f t same).len h
theorem okQ.inl {f t : Tb} {same : Bool} {l r : List Int} (h : okQ f t same l r) : InA f.attrs.length l := by
  rcases h with ⟨rfl, rfl⟩ | h
  · exact fun x hx => by cases hx
  · exact (qB_iff.1 h).2.1
theorem okQ.inr {f t : Tb} {same : Bool} {l r : List Int} (h : okQ f t same l r) : InA t.attrs.length r := by
  rcases h with ⟨rfl, rfl⟩ | h
  · exact fun x hx => by cases hx
  · exact (qB_iff.1 h).2.2.1
theorem okQ.okP {f t : Tb} {same : Bool} {l r : List Int} (h : okQ f t same l r) : okP same l r := h.imp id fun h => (qB_iff.1 h).1
theorem okQ.fst_le {f t : Tb} {same : Bool} {l r : List Int} (h : okQ f t same l r) : fstX l ≤ f.attrs.length := by
  unfold fstX
  cases hl : l.getLast? with
  | none => exact Nat.zero_le _
  | some x =>
    have := h.inl x (List.mem_of_getLast? hl)
    simp only
    omega
theorem qB_snoc {f t : Tb} {same : Bool} {l r : List Int} {a b : Nat} (h : okQ f t same l r) (ha : fstX l ≤ a) (ha2 : a < f.attrs.length) (hb : b < t.attrs.length) : qB f t same (l ++ [(a : Int)]) (r ++ [(b : Int)]) = true ↔ ((b : Int) ∉ r ∧ ¬ (same = true ∧ (a : Int) = b)) ∧ hM f.rows t.rows (l ++ [(a : Int)]) (r ++ [(b : Int)]) = true := by
  rw [qB_iff, canB_snoc h.okP (fun x hx => (h.inl x hx).1) (by omega)]
  constructor
  · rintro ⟨h1, _, _, h4⟩
    exact ⟨h1, h4⟩
  · rintro ⟨h1, h4⟩
    refine ⟨h1, fun x hx => ?_, fun x hx => ?_, h4⟩
    · rcases List.mem_append.1 hx with hx | hx
      · exact h.inl x hx
      · rw [List.mem_singleton.1 hx]; omega
    · rcases List.mem_append.1 hx with hx | hx
      · exact h.inr x hx
      · rw [List.mem_singleton.1 hx]; omega
def FH (X : SV) (hx : Heap) (ds : List Dp) : Prop := (ds = [] ∧ X = SN ∧ hx = []) ∨ ∃ b, X = .os b 0 ds.length 4 ∧ hx = [(b, .svs (dCs ds))] ∧ ds ≠ []
def mkD (f t : Tb) (p : Pr) : Dp := ⟨f.name, p.1, t.name, p.2⟩
def stX (q : List Int → List Int → Bool) (nf nt k : Nat) (l r : List Int) (a b : Nat) : List Pr := if q (l ++ [(a : Int)]) (r ++ [(b : Int)]) then (l ++ [(a : Int)], r ++ [(b : Int)]) :: exS q nf nt k (l ++ [(a : Int)]) (r ++ [(b : Int)]) else []
def stY (q : List Int → List Int → Bool) (nf nt k : Nat) (l r : List Int) (a b : Nat) : List Pr := (rg b nt).flatMap (stX q nf nt k l r a)
def stZ (q : List Int → List Int → Bool) (nf nt k : Nat) (l r : List Int) (a : Nat) : List Pr := (rg a nf).flatMap fun a => stY q nf nt k l r a 0
theorem exS_eq {q : List Int → List Int → Bool} {nf nt k : Nat} {l r : List Int} : exS q nf nt (k + 1) l r = stZ q nf nt k l r (fstX l) := rfl
theorem stZ_step {q : List Int → List Int → Bool} {nf nt k : Nat} {l r : List Int} {a : Nat} (h : a < nf) : stZ q nf nt k l r a = stY q nf nt k l r a 0 ++ stZ q nf nt k l r (a + 1) := by
  unfold stZ
  rw [rg_step h, List.flatMap_cons]
theorem stZ_end {q : List Int → List Int → Bool} {nf nt k : Nat} {l r : List Int} {a : Nat} (h : nf ≤ a) : stZ q nf nt k l r a = [] := by
  unfold stZ
  rw [rg_end h]
  rfl
theorem stY_step {q : List Int → List Int → Bool} {nf nt k : Nat} {l r : List Int} {a b : Nat} (h : b < nt) : stY q nf nt k l r a b = stX q nf nt k l r a b ++ stY q nf nt k l r a (b + 1) := by
  unfold stY
  rw [rg_step h, List.flatMap_cons]
theorem stY_end {q : List Int → List Int → Bool} {nf nt k : Nat} {l r : List Int} {a b : Nat} (h : nt ≤ b) : stY q nf nt k l r a b = [] := by
  unfold stY
  rw [rg_end h]
  rfl
end Go.Ab.A15
namespace Go.Ab.A15
open Go Go.Ab Go.Ab.A34
theorem FH_len {X : SV} {hx : Heap} {ds : List Dp} (h : FH X hx ds) : X = SN ∧ ds = [] ∧ hx = [] ∨ ∃ b, X = .os b 0 ds.length 4 ∧ hx = [(b, .svs (dCs ds))] := h.imp (fun ⟨a, b, c⟩ => ⟨b, a, c⟩) (fun ⟨b, h1, h2, _⟩ => ⟨b, h1, h2⟩)
theorem dCs_len (l : List Dp) : (dCs l).length = l.length * 4 := flatS_len dC 4 (fun _ => rfl) l
theorem dCs_snoc (l : List Dp) (d : Dp) : dCs (l ++ [d]) = dCs l ++ dC d := by simp [dCs]
theorem not_map_of_fresh {h : Heap} {b : Nat} (hf : fresh h b) : b ∉ h.map (·.1) := fun hm => not_has_of_fresh hf (has_map.2 hm)
theorem St.le_two [Gl] {t : List (Nat × SV)} {h H : Heap} {i j b1 b2 n1 n2 : Nat} {k1 k2 : Blk} {la lb : List Int} (hij : ¬ i = j) (hi : look t i = .os b1 0 n1 1) (hj : look t j = .os b2 0 n2 1) (m1 : (b1, k1) ∈ h) (m2 : (b2, k2) ∈ h) (c1 : k1.cells = iC la) (c2 : k2.cells = iC lb) (e1 : n1 = la.length) (e2 : n2 = lb.length)
    (f1 : fresh H b1) (f2 : fresh H b2) (hne : ¬ b1 = b2) (hN : (H.map (·.1)).Nodup) (hs : ∀ x ∈ H, x ∈ h) : (St.mk t h).le ⟨(j, IL lb) :: (i, IL la) :: t, H⟩ := by
  subst e1 e2
  have lA : (iC la).length = la.length := List.length_map _
  have lB : (iC lb).length = lb.length := List.length_map _
  refine (St.le_pick ((b1, k1) :: (b2, k2) :: H) (fun x hx => ?_) ?_).trans ?_
  · rcases List.mem_cons.1 hx with rfl | hx
    · exact m1
    · rcases List.mem_cons.1 hx with rfl | hx
      · exact m2
      · exact hs x hx
  · simp only [List.map_cons]
    rw [List.nodup_cons, List.nodup_cons]
    refine ⟨fun hm => ?_, not_map_of_fresh f2, hN⟩
    rcases List.mem_cons.1 hm with e | hm
    · exact hne e
    · exact not_map_of_fresh f1 hm
  · have get : ∀ (k : Blk) (l : List Int) (p : Nat), k.cells = iC l → p < l.length → iF l p = getN k (0 + p * 1) 1 := fun k l p hc hp => by
      rw [getN_one, get_of_cells hc (by rw [List.length_map]; omega)]
      show _ = [(iC l).getD (0 + p * 1) .any]
      rw [Nat.zero_add, Nat.mul_one, map_get hp]
      rfl
    have s1 := St.le_freeze (h := (b1, k1) :: (b2, k2) :: H) hi (by rw [find_cons, if_pos rfl]) (by rw [← Blk.length_cells, c1, lA]; omega) (iF la) (fun p hp => get k1 la p c1 hp)
    rw [del_head] at s1
    have hj' : look ((i, IL la) :: t) j = .os b2 0 lb.length 1 := by
      rw [look_cons]
      have : Nat.beq i j = false := by
        cases hq : Nat.beq i j with
        | false => rfl
        | true => exact absurd (Nat.eq_of_beq_eq_true hq) hij
      rw [this]
      exact hj
    have s2 := St.le_freeze (h := (b2, k2) :: H) hj' (by rw [find_cons, if_pos rfl]) (by rw [← Blk.length_cells, c2, lB]; omega) (iF lb) (fun p hp => get k2 lb p c2 hp)
    rw [del_head] at s2
    exact s1.trans s2
end Go.Ab.A15
def Go.Ab.zND_1 : Go.Ab.OX := (.one 1 [1, 2, 3, 4, 19, 20, 21, 22] (.one 2 [2, 3, 4, 19, 20, 21, 22] (.one 3 [3, 4, 19, 20, 21, 22] (.one 4 [4, 19, 20, 21, 22] (.one 5 [5, 6, 7, 8, 9, 17, 18, 19, 20, 21, 22] (.one 6 [6, 7, 8, 9, 17, 18, 19, 20, 21, 22] (.one 7 [7, 8, 9, 17, 18, 19, 20, 21, 22] (.one 8 [8, 9, 17, 18, 19, 20, 21, 22] (.one 9 [9, 17, 18, 19, 20, 21, 22] (.one 10 [10, 17, 18, 19, 20, 21, 22] (.one 11 [11, 12, 13, 14, 15, 17, 18, 19, 20, 21, 22] (.one 12 [12, 13, 14, 15, 17, 18, 19, 20, 21, 22] (.one 13 [13, 14, 15, 17, 18, 19, 20, 21, 22] (.one 14 [14, 15, 17, 18, 19, 20, 21, 22] (.one 15 [15, 17, 18, 19, 20, 21, 22] (.one 16 [16, 17, 18, 19, 20, 21, 22] (.one 17 [17, 18, 19, 20, 21, 22] (.fre 0 [0, 20, 21, 22] (.alt 18 (.alt 19 (.one 20 [20, 21, 22] (.one 21 [21, 22] (.alt 22 .done .nil))) .nil) .nil)))))))))))))))))))
namespace Go.Proofs.YtpidncgibgiidaaGreat
open Go Go.Ab Go.Ab.A34 Go.Ab.A15 Go.Ab.A01
variable [Gl] [Tabs]
theorem ext_in (m : Nat) (f t : Tb) (same : Bool) (ar room : Nat) (h : MOk f t) (har : ar ≤ 6) (hroom : room ≤ 100000) (kk : Nat) (l r : List Int) (hq : okQ f t same l r) (hk : l.length + (kk + 1) = ar) (a : Nat) (ha : fstX l ≤ a) (ha2 : a < f.attrs.length)
    (IH : ∀ (l r : List Int) (X : SV) (hx : Heap) (ds : List Dp), FH X hx ds → okQ f t same l r → l.length + kk = ar → ds.length + (exS (qB f t same) f.attrs.length t.attrs.length kk l r).length ≤ room →
      Ab.Call Tryz.prog 91 [.op m 0, IL l, IL r] ((m, .svs (MC f t same ar X room)) :: hx) (fun v h' => v = SB true ∧ ∃ X' hx', FH X' hx' (ds ++ (exS (qB f t same) f.attrs.length t.attrs.length kk l r).map (mkD f t)) ∧ h' = (m, .svs (MC f t same ar X' room)) :: hx'))
    (X : SV) (hx : Heap) (ds : List Dp) (hF : FH X hx ds) (hb : ds.length + (stY (qB f t same) f.attrs.length t.attrs.length kk l r a 0).length ≤ room) :
    Ab.SW Tryz.prog 118 (blk 2 Tryz.f91) (nrm fun S => ∃ X' hx', FH X' hx' (ds ++ (stY (qB f t same) f.attrs.length t.attrs.length kk l r a 0).map (mkD f t)) ∧ S.le ⟨[(0, .op m 0), (1, IL l), (2, IL r), (8, I64 a)], (m, .svs (MC f t same ar X' room)) :: hx'⟩)
      ⟨[(0, .op m 0), (1, IL l), (2, IL r), (8, I64 a), (45, I64 t.attrs.length), (46, I64 (0 : Nat))], (m, .svs (MC f t same ar X room)) :: hx⟩ := by
  obtain ⟨A, hA⟩ : ∃ A, A = ds ++ (stY (qB f t same) f.attrs.length t.attrs.length kk l r a 0).map (mkD f t) := ⟨_, rfl⟩
  have hAl : A.length ≤ room := by rw [hA, List.length_append, List.length_map]; exact hb
  rw [← hA]
  have hlen := hq.len
  have hat := h.at_
  have haf := h.af
  conv => arg 3; whnf
  refine SW.block ?_
  obtain ⟨I, hI⟩ : ∃ I : Nat → St → Prop, ∀ k S, I k S ↔ (∃ (i : Nat) (X : SV) (hx : Heap) (ds : List Dp), k = t.attrs.length - i ∧ i ≤ t.attrs.length ∧ FH X hx ds ∧ A = ds ++ (stY (qB f t same) f.attrs.length t.attrs.length kk l r a i).map (mkD f t) ∧ S = ⟨[(0, .op m 0), (1, IL l), (2, IL r), (8, I64 a), (45, I64 t.attrs.length), (46, I64 i)], (m, .svs (MC f t same ar X room)) :: hx⟩) := ⟨fun k S => _, fun _ _ => Iff.rfl⟩
  refine SW.loop' I (t.attrs.length) ((hI _ _).2 ⟨0, X, hx, ds, rfl, Nat.zero_le _, hF, hA, rfl⟩) (by repeat' (first | exact rfl | exact trivial | constructor)) ?_
  intro k S hIn
  obtain ⟨i, X, hx, ds, rfl, hi, hF2, hA2, rfl⟩ := (hI _ _).1 hIn
  clear hIn
  have ie : ((i : Nat) : Int).toNat = i := Int.toNat_natCast _
  have i0 : (0 : Int) ≤ ((i : Nat) : Int) := by omega
  clear hA hb hF
  by_cases hlt : i < t.attrs.length
  · have hli : ((i : Nat) : Int) < (((t.attrs.length) : Nat) : Int) := by omega
    have w1 : IntKind.i64.wrap ((i : Int) + 1) = ((i + 1 : Nat) : Int) := by rw [i64_wrap (by omega) (by omega)]; omega
    have cc := contains_i (i : Int) r r.length (by omega) rfl (iF r) (fun j _ => rfl)
    have hat0 : 0 ≤ atI (i : Int) 0 r ↔ (i : Int) ∈ r := by
      have := @atI_none (i : Int) r 0
      constructor
      · intro h; exact Classical.byContradiction fun hn => by have := this.2 hn; omega
      · intro h; exact Classical.byContradiction fun hn => this.1 (by omega) h
    have hqs := qB_snoc (b := i) hq ha ha2 hlt
    rw [stY_step hlt] at hA2
    have iz : IntKind.i64.wrap ((i : Nat) : Int) = ((i : Nat) : Int) := i64_wrap (by omega) (by omega)
    by_cases hm : (i : Int) ∈ r
    · rw [decide_eq_true (hat0.2 hm)] at cc
      have hz : stX (qB f t same) f.attrs.length t.attrs.length kk l r a i = [] := by
        unfold stX
        rw [if_neg fun e => (hqs.1 e).1.1 hm]
      rw [hz, List.nil_append] at hA2
      clear hqs hz hat0 IH
      obtain ⟨fn, fa, frs⟩ := f
      obtain ⟨tn, ta, trs⟩ := t
      simp only at *
      have hD : (0 : Nat) = 0 := rfl
      repeat' first | (refine SW.seq_k fun K hK => ?_) | (refine SW.block ?_) | ((first | refine SW.region ?_ | refine SW.cond ?_ | refine SW.skip ?_ | refine SW.exit ?_ | refine Call.of_pure (cc) ?_); try simp only [go_sem, hD, hli, ie, i0, w1, true_implies]) | (apply hK; clear hK K) | (clear hK K; apply hK; clear hK K)
      refine Rnd.sub (ta.length - (i + 1)) (by omega) ((hI _ _).2 ⟨i + 1, X, hx, ds, rfl, by omega, hF2, hA2, rfl⟩) (by repeat' (first | exact rfl | exact trivial | constructor))
    · rw [decide_eq_false fun e => hm (hat0.1 e)] at cc
      by_cases hs : same = true ∧ a = i
      · have hz : stX (qB f t same) f.attrs.length t.attrs.length kk l r a i = [] := by
          unfold stX
          rw [if_neg fun e => (hqs.1 e).1.2 ⟨hs.1, by omega⟩]
        rw [hz, List.nil_append] at hA2
        clear hqs hz hat0 IH
        obtain ⟨rfl, rfl⟩ := hs
        obtain ⟨fn, fa, frs⟩ := f
        obtain ⟨tn, ta, trs⟩ := t
        simp only at *
        have hD : (0 : Nat) = 0 := rfl
        repeat' first | (refine SW.seq_k fun K hK => ?_) | (refine SW.block ?_) | ((first | refine SW.region ?_ | refine SW.cond ?_ | refine SW.skip ?_ | refine SW.exit ?_ | refine Call.of_pure (cc) ?_); try simp only [go_sem, hD, hli, ie, i0, w1, true_implies]) | (apply hK; clear hK K) | (clear hK K; apply hK; clear hK K)
        refine Rnd.sub (ta.length - (a + 1)) (by omega) ((hI _ _).2 ⟨a + 1, X, hx, ds, rfl, by omega, hF2, hA2, rfl⟩) (by repeat' (first | exact rfl | exact trivial | constructor))
      · have hcl := clone_i l (by omega)
        have hcr := clone_i r (by omega)
        have hhm := holds_m m f t same ar room X (l ++ [(a : Int)]) (r ++ [(i : Int)]) h (fun x hx => by
          rcases List.mem_append.1 hx with hx | hx
          · exact hq.inl x hx
          · rw [List.mem_singleton.1 hx]; omega) (fun x hx => by
          rcases List.mem_append.1 hx with hx | hx
          · exact hq.inr x hx
          · rw [List.mem_singleton.1 hx]; omega) (by simp [hlen]) (by rw [List.length_append, List.length_singleton]; omega)
        have hz : qB f t same (l ++ [(a : Int)]) (r ++ [(i : Int)]) = hM f.rows t.rows (l ++ [(a : Int)]) (r ++ [(i : Int)]) := by
          rw [Bool.eq_iff_iff, hqs]
          exact and_iff_right ⟨hm, fun e => hs ⟨e.1, by omega⟩⟩
        have ih := fun (Y : SV) (hy : Heap) (es : List Dp) => IH (l ++ [(a : Int)]) (r ++ [(i : Int)]) Y hy es
        unfold stX at hA2
        rw [hz] at hA2
        have hq2 : hM f.rows t.rows (l ++ [(a : Int)]) (r ++ [(i : Int)]) = true → okQ f t same (l ++ [(a : Int)]) (r ++ [(i : Int)]) := fun e => Or.inr (hz.trans e)
        have hll : (l ++ [(a : Int)]).length + kk = ar := by rw [List.length_append, List.length_singleton]; omega
        clear IH hqs hz hat0
        have hil : iC (l ++ [(a : Int)]) = iC l ++ [I64 a] := by rw [iC, List.map_append]; rfl
        have hir : iC (r ++ [(i : Int)]) = iC r ++ [I64 i] := by rw [iC, List.map_append]; rfl
        have hls : (l.length + 1) * 8 ≤ 140737488355328 := by omega
        have hrs : (r.length + 1) * 8 ≤ 140737488355328 := by omega
        have hl1 : l.length * 1 = (iC l).length := by rw [List.length_map]; omega
        have hr1 : r.length * 1 = (iC r).length := by rw [List.length_map]; omega
        have hgl : l.length + 1 = (l ++ [(a : Int)]).length := by simp
        have hgr : r.length + 1 = (r ++ [(i : Int)]).length := by simp
        generalize l ++ [(a : Int)] = l' at *
        generalize r ++ [(i : Int)] = r' at *
        generalize hM f.rows t.rows l' r' = z at *
        generalize exS (qB f t same) f.attrs.length t.attrs.length kk l' r' = E at *
        generalize hY : A15.stY (qB f t same) f.attrs.length t.attrs.length kk l r a (i + 1) = Y at *
        generalize qB f t same = q at *
        have hd : mkD f t (l', r') = ⟨f.name, l', t.name, r'⟩ := rfl
        obtain ⟨fn, fa, frs⟩ := f
        obtain ⟨tn, ta, trs⟩ := t
        simp only at *
        refine SW.nd fun hnd => ?_
        have hD : (0 : Nat) = 0 := rfl
        iterate 12 (first | (refine SW.seq_k fun K hK => ?_) | (refine SW.block ?_) | ((first | refine SW.region ?_ | refine SW.cond ?_ | refine SW.skip ?_); try simp only [go_sem, hD, hli, ie, i0, w1, true_implies]) | (apply hK; clear hK K))
        refine SW.seq_k fun K1 hK1 => ?_
        have hS1 : ∀ S : St, S.le ⟨[(0, .op m 0), (1, IL l), (2, IL r), (8, I64 a), (9, I64 i), (45, I64 ta.length), (46, I64 i)], (m, .svs (MC ⟨fn, fa, frs⟩ ⟨tn, ta, trs⟩ same ar X room)) :: hx⟩ → K1 S := by
          intro S hle
          refine hK1 S (Ab.SW.le hle ?_)
          clear hK1 K1 hle cc
          refine SW.seq_k fun K2 hK2 => ?_
          have hS3 : ∀ S : St, S.le ⟨[(0, .op m 0), (1, IL l), (2, IL r), (8, I64 a), (9, I64 i), (10, IL l'), (11, IL r'), (45, I64 ta.length), (46, I64 i)], (m, .svs (MC ⟨fn, fa, frs⟩ ⟨tn, ta, trs⟩ same ar X room)) :: hx⟩ → K2 S := by
            intro S hle
            refine hK2 S (Ab.SW.le hle ?_)
            clear hK2 K2 hle hcl hcr hil hir hls hrs hl1 hr1 hgl hgr
            have hhm2 : Ab.Call Tryz.prog 131 [.op m 0, IL l', IL r'] ((m, .svs (MC ⟨fn, fa, frs⟩ ⟨tn, ta, trs⟩ same ar X room)) :: hx) (fun v h' => v = SB z ∧ h' = (m, .svs (MC ⟨fn, fa, frs⟩ ⟨tn, ta, trs⟩ same ar X room)) :: hx) := Call.mono (Call.frameN (h2 := hx) hhm) fun v h' ⟨h1, e, ⟨q1, q2⟩, _⟩ => ⟨q1, by rw [e, q2]; rfl⟩
            clear hhm
            cases z with
            | false =>
              rw [if_neg (by simp), List.nil_append] at hA2
              repeat' first | ((with_reducible refine Call.mono hhm2 ?_); (intro rr h' hx2); (obtain ⟨rfl, rfl⟩ := hx2); (try simp only [go_sem, hD])) | (refine SW.seq_k fun K hK => ?_) | ((first | refine SW.region ?_ | refine SW.cond ?_ | refine SW.exit ?_); try simp only [go_sem, hD, hli, ie, i0, w1, true_implies]) | (apply hK; clear hK K) | (clear hK K; apply hK; clear hK K)
              refine Rnd.sub (ta.length - (i + 1)) (by omega) ((hI _ _).2 ⟨i + 1, X, hx, ds, rfl, by omega, hF2, by rw [hY]; exact hA2, rfl⟩) (by repeat' (first | exact rfl | exact trivial | constructor))
            | true =>
              rw [if_pos rfl] at hA2
              have hq3 := hq2 rfl
              clear hq2
              have hA3 : A = (ds ++ [mkD ⟨fn, fa, frs⟩ ⟨tn, ta, trs⟩ (l', r')]) ++ E.map (mkD ⟨fn, fa, frs⟩ ⟨tn, ta, trs⟩) ++ Y.map (mkD ⟨fn, fa, frs⟩ ⟨tn, ta, trs⟩) := by rw [hA2]; simp
              rw [hd] at hA3
              have hlen3 : (ds ++ [(⟨fn, l', tn, r'⟩ : Dp)]).length + E.length ≤ room := by
                rw [hA3] at hAl
                simp only [List.length_append, List.length_map] at hAl ⊢
                omega
              have ih2 := fun (Y2 : SV) (hy : Heap) (hf : FH Y2 hy (ds ++ [(⟨fn, l', tn, r'⟩ : Dp)])) => ih Y2 hy (ds ++ [(⟨fn, l', tn, r'⟩ : Dp)]) hf hq3 hll hlen3
              have hdl : ds.length + 1 ≤ 100000 := by simp only [List.length_append, List.length_singleton] at hlen3; omega
              have hdc := dCs_snoc ds ⟨fn, l', tn, r'⟩
              have hdc2 : dCs [(⟨fn, l', tn, r'⟩ : Dp)] = [Str fn, IL l', Str tn, IL r'] := rfl
              have hrm : ¬ ((room : Nat) : Int) < (((ds ++ [(⟨fn, l', tn, r'⟩ : Dp)]).length : Nat) : Int) := by omega
              have hgs : ds.length + 1 = (ds ++ [(⟨fn, l', tn, r'⟩ : Dp)]).length := by simp
              have hl4 : ds.length * 4 = (dCs ds).length := (dCs_len ds).symm
              have hb80 : (ds.length + 1) * 80 ≤ 140737488355328 := by omega
              clear ih hA2
              repeat' first | ((with_reducible refine Call.mono hhm2 ?_); (intro rr h' hx2); (obtain ⟨rfl, rfl⟩ := hx2); (try simp only [go_sem, hD])) | (refine SW.seq_k fun K hK => ?_) | ((first | refine SW.region ?_ | refine SW.cond ?_ | refine SW.skip ?_); try simp only [go_sem, hD, hli, ie, i0, w1, true_implies]) | (apply hK; clear hK K)
              refine Ab.SW.cut (fun S' => ∃ b', S'.le ⟨[(0, .op m 0), (1, IL l), (2, IL r), (8, I64 a), (9, I64 i), (10, IL l'), (11, IL r'), (45, I64 ta.length), (46, I64 i)], [(m, .svs (MC ⟨fn, fa, frs⟩ ⟨tn, ta, trs⟩ same ar (.os b' 0 (ds.length + 1) 4) room)), (b', .svs (dCs ds ++ [Str fn, IL l', Str tn, IL r']))]⟩) ?_ (fun S' hS' => ?_)
              · clear ih2 hhm2
                rcases FH_len hF2 with ⟨rfl, rfl, rfl⟩ | ⟨fb, rfl, rfl⟩
                · repeat' first | (with_reducible refine And.intro (by omega) ?_) | ((first | refine SW.regionX (id := 15) (Checked.mixed Tryz.checked) Go.Ab.zND_1 (by kernel_rfl) ?_ | (refine allF_i fun b hb => ?_; replace hD := And.intro hb hD; clear hb; try simp only [fresh_cons, fresh_nil, and_true, ne_eq, neF] at hD) | simp only [appK, appOsK]); try simp only [Go.Ab.zND_1, go_sem, hD, true_implies]) | (refine And.intro (by omega) ?_)
                  all_goals
                    obtain ⟨nb, rfl⟩ : ∃ x, x = b := ⟨_, rfl⟩
                    refine nrm_i ⟨nb, (St.le_pick [(m, .svs (MC ⟨fn, fa, frs⟩ ⟨tn, ta, trs⟩ same ar (.os nb 0 1 4) room)), (nb, .svs [Str fn, IL l', Str tn, IL r'])] ?_ ?_).trans (St.le_sub (by repeat' (first | exact rfl | exact trivial | constructor)))⟩
                  · repeat' (first | exact (fun x hx => (List.not_mem_nil hx).elim) | refine List.forall_mem_cons.2 ⟨?_, ?_⟩ | exact List.mem_cons_self | apply List.mem_cons_of_mem)
                  · simp [fresh_cons, fresh_nil, hD]
                · have hf0 := fresh_of_nodup hnd
                  simp only [fresh_cons, fresh_nil, and_true, ne_eq, neF] at hf0
                  clear hD
                  have hD := hf0
                  clear hf0
                  repeat' first | (with_reducible refine And.intro (by omega) ?_) | ((first | refine SW.regionX (id := 15) (Checked.mixed Tryz.checked) Go.Ab.zND_1 (by kernel_rfl) ?_ | (refine allF_i fun b hb => ?_; replace hD := And.intro hb hD; clear hb; try simp only [fresh_cons, fresh_nil, and_true, ne_eq, neF] at hD) | simp only [appK, appOsK]); try simp only [Go.Ab.zND_1, go_sem, hD, hl4, hb80, true_implies])
                  all_goals
                    obtain ⟨nb, rfl⟩ : ∃ x, x = b := ⟨_, rfl⟩
                    refine nrm_i ⟨nb, (St.le_pick [(m, .svs (MC ⟨fn, fa, frs⟩ ⟨tn, ta, trs⟩ same ar (.os nb 0 (ds.length + 1) 4) room)), (nb, .svs (dCs ds ++ [Str fn, IL l', Str tn, IL r']))] ?_ ?_).trans (St.le_sub (by repeat' (first | exact rfl | exact trivial | constructor)))⟩
                  · repeat' (first | exact (fun x hx => (List.not_mem_nil hx).elim) | refine List.forall_mem_cons.2 ⟨?_, ?_⟩ | exact List.mem_cons_self | apply List.mem_cons_of_mem)
                  · simp [fresh_cons, fresh_nil, hD]
              · obtain ⟨b', hle⟩ := hS'
                clear hF2 hnd hx X hhm2
                have hF4 : FH (.os b' 0 (ds.length + 1) 4) [(b', .svs (dCs ds ++ [Str fn, IL l', Str tn, IL r']))] (ds ++ [(⟨fn, l', tn, r'⟩ : Dp)]) := .inr ⟨b', by rw [hgs], by rw [hdc], by simp⟩
                have ih3 := ih2 _ _ hF4
                clear ih2 hF4
                rw [← hgs] at hrm
                generalize dCs ds ++ [Str fn, IL l', Str tn, IL r'] = cs at *
                try simp only [go_sem, hD]
                (first | apply hK | (clear hK K; apply hK) | (clear hK K; clear hK K; apply hK)); clear hK K
                refine Ab.SW.le hle ?_
                clear hle
                clear hD
                have hD : (0 : Nat) = 0 := rfl
                repeat' first | ((with_reducible refine Call.mono ih3 ?_); (intro rr h' hx2); (obtain ⟨rfl, X2, hx3, hF5, rfl⟩ := hx2); (try simp only [go_sem, hD])) | (refine SW.seq_k fun K hK => ?_) | ((first | refine SW.region ?_ | refine SW.regionY [14] (id := 16) (Checked.mixed Tryz.checked) ((.one 0 [0, 1, 2, 3, 4, 9, 10, 11, 12, 13, 14, 15, 16] (.one 1 [1, 2, 3, 4, 9, 10, 11, 12, 13, 14, 15, 16] (.one 2 [2, 3, 4, 9, 10, 11, 12, 13, 14, 15, 16] (.one 3 [3, 4, 9, 10, 11, 12, 13, 14, 15, 16] (.one 4 [4, 9, 10, 11, 12, 13, 14, 15, 16] (.one 5 [5, 6, 7, 8, 9, 10, 11, 12, 13, 14, 15, 16] (.one 6 [6, 7, 8, 9, 10, 11, 12, 13, 14, 15, 16] (.one 7 [7, 8, 9, 10, 11, 12, 13, 14, 15, 16] (.one 8 [8, 9, 10, 11, 12, 13, 14, 15, 16] (.one 9 [9, 10, 11, 12, 13, 14, 15, 16] (.one 10 [10, 11, 12, 13, 14, 15, 16] (.one 11 [11, 14, 15, 16] (.one 12 [12, 14, 15, 16] (.one 13 [13, 14, 15, 16] (.alt 14 true (.one 15 [15, 16] (.one 16 [16] .done)) .nil))))))))))))))) : OY) (by kernel_rfl) ?_ | refine SW.cond ?_ | refine SW.skip ?_); try simp only [go_sem, hD, hli, ie, i0, w1, hrm, true_implies]) | (apply hK; clear hK K)
                all_goals
                  refine Rnd.sub (ta.length - (i + 1)) (by omega) ((hI _ _).2 ⟨i + 1, X2, hx3, ((ds ++ [(⟨fn, l', tn, r'⟩ : Dp)]) ++ E.map (mkD ⟨fn, fa, frs⟩ ⟨tn, ta, trs⟩)), rfl, by omega, hF5, by rw [hY]; exact hA3, rfl⟩) (by repeat' (first | exact rfl | exact trivial | constructor))
          clear hK2
          repeat' first | ((with_reducible refine Call.mono (Call.frameN (h1 := []) hcl) ?_); (intro rr h' hx); (obtain ⟨h1, rfl, hcl, hnd⟩ := hx); (rcases hcl with ⟨hl0, rfl, rfl⟩ | ⟨lb, rfl, rfl⟩ <;> (simp only [List.nil_append, List.cons_append] at hnd ⊢; try (have hf := fresh_of_nodup hnd; simp only [fresh_cons, fresh_nil, and_true, ne_eq, neF] at hf; replace hD := And.intro hf hD; clear hf hnd); try simp only [go_sem, hD]))) | ((with_reducible refine Call.mono (Call.frameN (h1 := []) hcr) ?_); (intro rr h' hx); (obtain ⟨h1, rfl, hcl, hnd⟩ := hx); (rcases hcl with ⟨hr0, rfl, rfl⟩ | ⟨rb, rfl, rfl⟩ <;> (simp only [List.nil_append, List.cons_append] at hnd ⊢; try (have hf := fresh_of_nodup hnd; simp only [fresh_cons, fresh_nil, and_true, ne_eq, neF] at hf; replace hD := And.intro hf hD; clear hf hnd); try simp only [go_sem, hD]))) | (with_reducible refine And.intro (by omega) ?_) | ((first | refine SW.region ?_ | (refine allF_i fun b hb => ?_; replace hD := And.intro hb hD; clear hb; try simp only [fresh_cons, fresh_nil, and_true, ne_eq, neF] at hD) | simp only [appK, appOsK]); try simp only [go_sem, hD, hli, ie, i0, w1, hls, hrs, hl1, hr1, true_implies]) | (refine And.intro (by omega) ?_)
          all_goals
            refine hS3 _ ((St.le_two (i := 10) (j := 11) (la := l') (lb := r') (by decide) rfl rfl (by repeat (first | exact List.mem_cons_self | apply List.mem_cons_of_mem)) (by repeat (first | exact List.mem_cons_self | apply List.mem_cons_of_mem)) ?_ ?_ ?_ ?_ (by simp [fresh_cons, hD]) (by simp [fresh_cons, hD]) (by simp [hD]) hnd (by intro x hx; repeat (first | exact hx | apply List.mem_cons_of_mem))).trans (St.le_sub (by repeat' (first | exact rfl | exact trivial | constructor))))
          all_goals first
            | exact hil.symm
            | exact hir.symm
            | (rw [hil, hl0]; rfl)
            | (rw [hir, hr0]; rfl)
            | exact hgl
            | exact hgr
            | (rw [← hgl, hl0]; rfl)
            | (rw [← hgr, hr0]; rfl)
        clear hK1
        have hS2 : same = false ∨ ¬ ((a : Nat) : Int) = ((i : Nat) : Int) := by
          cases same with
          | false => exact .inl rfl
          | true => exact .inr fun e => hs ⟨rfl, by omega⟩
        rcases hS2 with rfl | hne
        · repeat' first | (refine SW.seq_k fun K hK => ?_) | ((first | refine SW.region ?_ | refine SW.cond ?_ | refine SW.skip ?_ | refine Call.of_pure (cc) ?_); try simp only [go_sem, hD, hli, ie, i0, w1, true_implies]) | (apply hK; clear hK K)
          exact hS1 _ (St.le_sub (by repeat' (first | exact rfl | exact trivial | constructor)))
        · cases same with
          | false =>
            repeat' first | (refine SW.seq_k fun K hK => ?_) | ((first | refine SW.region ?_ | refine SW.cond ?_ | refine SW.skip ?_ | refine Call.of_pure (cc) ?_); try simp only [go_sem, hD, hli, ie, i0, w1, true_implies]) | (apply hK; clear hK K)
            exact hS1 _ (St.le_sub (by repeat' (first | exact rfl | exact trivial | constructor)))
          | true =>
            repeat' first | (refine SW.seq_k fun K hK => ?_) | ((first | refine SW.region ?_ | refine SW.cond ?_ | refine SW.skip ?_ | refine Call.of_pure (cc) ?_); try simp only [go_sem, hD, hli, ie, i0, w1, hne, true_implies]) | (apply hK; clear hK K)
            exact hS1 _ (St.le_sub (by repeat' (first | exact rfl | exact trivial | constructor)))
  · have hli : ¬ ((i : Nat) : Int) < (((t.attrs.length) : Nat) : Int) := by omega
    rw [stY_end (by omega), List.map_nil, List.append_nil] at hA2
    subst hA2
    obtain ⟨fn, fa, frs⟩ := f
    obtain ⟨tn, ta, trs⟩ := t
    simp only at *
    have hD : (0 : Nat) = 0 := rfl
    repeat' first | (refine SW.seq_k fun K hK => ?_) | ((first | refine SW.region ?_ | refine SW.cond ?_ | refine SW.exit ?_); try simp only [go_sem, hD, hli, true_implies]) | (apply hK; clear hK K)
    exact ⟨X, hx, hF2, St.le_sub (by repeat' (first | exact rfl | exact trivial | constructor))⟩
end Go.Proofs.YtpidncgibgiidaaGreat
namespace Go.Ab.A15
open Go Go.Ab Go.Ab.A34
theorem fst_cases {l : List Int} (h : ∀ x ∈ l, 0 ≤ x ∧ x < (1000 : Int)) : (l.length = 0 ∧ fstX l = 0) ∨ (0 < l.length ∧ (fstX l : Int) = l.getD (l.length - 1) 0 + 1) := by
  cases l with
  | nil => exact .inl ⟨rfl, rfl⟩
  | cons a l =>
    refine .inr ⟨by simp, ?_⟩
    have hg : (a :: l).getLast? = some ((a :: l).getD ((a :: l).length - 1) 0) := by
      rw [List.getLast?_eq_getElem?, List.getD_eq_getElem?_getD]
      have : (a :: l).length - 1 < (a :: l).length := by simp
      rw [List.getElem?_eq_getElem this]
      rfl
    have hm := h _ (List.mem_of_getLast? hg)
    unfold fstX
    rw [hg]
    simp only
    omega
end Go.Ab.A15
namespace Go.Proofs.YtpidncgibgiidaaGreat
open Go Go.Ab Go.Ab.A34 Go.Ab.A15 Go.Ab.A01
variable [Gl] [Tabs]
theorem ext_out (m : Nat) (f t : Tb) (same : Bool) (ar room : Nat) (h : MOk f t) (har : ar ≤ 6) (hroom : room ≤ 100000) (kk : Nat) (l r : List Int) (hq : okQ f t same l r) (hk : l.length + (kk + 1) = ar)
    (IH : ∀ (l r : List Int) (X : SV) (hx : Heap) (ds : List Dp), FH X hx ds → okQ f t same l r → l.length + kk = ar → ds.length + (exS (qB f t same) f.attrs.length t.attrs.length kk l r).length ≤ room →
      Ab.Call Tryz.prog 91 [.op m 0, IL l, IL r] ((m, .svs (MC f t same ar X room)) :: hx) (fun v h' => v = SB true ∧ ∃ X' hx', FH X' hx' (ds ++ (exS (qB f t same) f.attrs.length t.attrs.length kk l r).map (mkD f t)) ∧ h' = (m, .svs (MC f t same ar X' room)) :: hx'))
    (X : SV) (hx : Heap) (ds : List Dp) (hF : FH X hx ds) (hb : ds.length + (A15.stZ (qB f t same) f.attrs.length t.attrs.length kk l r (fstX l)).length ≤ room) :
    Ab.SW Tryz.prog 118 (blk 0 Tryz.f91) (nrm fun S => ∃ X' hx', FH X' hx' (ds ++ (A15.stZ (qB f t same) f.attrs.length t.attrs.length kk l r (fstX l)).map (mkD f t)) ∧ S.le ⟨[(0, .op m 0)], (m, .svs (MC f t same ar X' room)) :: hx'⟩)
      ⟨[(0, .op m 0), (1, IL l), (2, IL r), (8, I64 (fstX l))], (m, .svs (MC f t same ar X room)) :: hx⟩ := by
  obtain ⟨A, hA⟩ : ∃ A, A = ds ++ (A15.stZ (qB f t same) f.attrs.length t.attrs.length kk l r (fstX l)).map (mkD f t) := ⟨_, rfl⟩
  have hAl : A.length ≤ room := by rw [hA, List.length_append, List.length_map]; exact hb
  rw [← hA]
  have hfl := hq.fst_le
  have hat := h.at_
  have haf := h.af
  conv => arg 3; whnf
  refine SW.block ?_
  obtain ⟨I, hI⟩ : ∃ I : Nat → St → Prop, ∀ n S, I n S ↔ (∃ (a : Nat) (X : SV) (hx : Heap) (ds : List Dp), n = f.attrs.length - a ∧ a ≤ f.attrs.length ∧ fstX l ≤ a ∧ FH X hx ds ∧ A = ds ++ (A15.stZ (qB f t same) f.attrs.length t.attrs.length kk l r a).map (mkD f t) ∧
    S = ⟨[(0, .op m 0), (1, IL l), (2, IL r), (8, I64 a)], (m, .svs (MC f t same ar X room)) :: hx⟩) := ⟨fun n S => _, fun _ _ => Iff.rfl⟩
  refine SW.loop' I (f.attrs.length - fstX l) ((hI _ _).2 ⟨fstX l, X, hx, ds, rfl, hfl, Nat.le_refl _, hF, hA, rfl⟩) (by repeat' (first | exact rfl | exact trivial | constructor)) ?_
  clear hA hb hF
  intro n S hIn
  obtain ⟨a, X, hx, ds, rfl, ha2, ha, hF2, hA2, rfl⟩ := (hI _ _).1 hIn
  clear hIn
  have ie : ((a : Nat) : Int).toNat = a := Int.toNat_natCast _
  have i0 : (0 : Int) ≤ ((a : Nat) : Int) := by omega
  by_cases hlt : a < f.attrs.length
  · have hli : ((a : Nat) : Int) < (((f.attrs.length) : Nat) : Int) := by omega
    have w1 : IntKind.i64.wrap ((a : Int) + 1) = ((a + 1 : Nat) : Int) := by rw [i64_wrap (by omega) (by omega)]; omega
    rw [stZ_step hlt] at hA2
    have hlen3 : ds.length + (A15.stY (qB f t same) f.attrs.length t.attrs.length kk l r a 0).length ≤ room := by
      rw [hA2] at hAl
      simp only [List.length_append, List.length_map] at hAl
      omega
    have hin := ext_in m f t same ar room h har hroom kk l r hq hk a ha hlt IH X hx ds hF2 hlen3
    rw [List.map_append, ← List.append_assoc] at hA2
    generalize hY : A15.stZ (qB f t same) f.attrs.length t.attrs.length kk l r (a + 1) = Y at *
    generalize A15.stY (qB f t same) f.attrs.length t.attrs.length kk l r a 0 = W at *
    generalize qB f t same = q at *
    clear IH
    obtain ⟨fn, fa, frs⟩ := f
    obtain ⟨tn, ta, trs⟩ := t
    simp only at *
    have hD : (0 : Nat) = 0 := rfl
    repeat' first | (refine SW.seq_k fun K hK => ?_) | ((first | refine SW.region ?_ | refine SW.cond ?_ | refine SW.skip ?_); try simp only [go_sem, hD, hli, ie, i0, w1, true_implies]) | (apply hK; clear hK K)
    refine SW.block ?_
    repeat' first | (refine SW.seq_k fun K hK => ?_) | (refine SW.region ?_; try simp only [go_sem, hD, hli, ie, i0, w1, true_implies]) | (apply hK; clear hK K)
    refine Ab.SW.cut _ (Ab.SW.le (St.le_sub (by repeat' (first | exact rfl | exact trivial | constructor))) hin) ?_
    rintro S' ⟨X2, hx2, hF3, hle⟩
    try simp only [go_sem, hD]
    (first | apply hK | (clear hK K; apply hK) | (clear hK K; clear hK K; apply hK)); clear hK K
    refine Ab.SW.le hle ?_
    clear hle hin hF2
    repeat' (refine SW.region ?_; try simp only [go_sem, hD, hli, ie, i0, w1, true_implies])
    refine Rnd.sub (fa.length - (a + 1)) (by omega) ((hI _ _).2 ⟨a + 1, X2, hx2, (ds ++ W.map (mkD ⟨fn, fa, frs⟩ ⟨tn, ta, trs⟩)), rfl, by omega, by omega, hF3, by rw [hY]; exact hA2, rfl⟩) (by repeat' (first | exact rfl | exact trivial | constructor))
  · have hli : ¬ ((a : Nat) : Int) < (((f.attrs.length) : Nat) : Int) := by omega
    rw [stZ_end (by omega), List.map_nil, List.append_nil] at hA2
    subst hA2
    clear IH
    obtain ⟨fn, fa, frs⟩ := f
    obtain ⟨tn, ta, trs⟩ := t
    simp only at *
    have hD : (0 : Nat) = 0 := rfl
    repeat' first | (refine SW.seq_k fun K hK => ?_) | ((first | refine SW.region ?_ | refine SW.cond ?_ | refine SW.exit ?_); try simp only [go_sem, hD, hli, true_implies]) | (apply hK; clear hK K)
    exact ⟨X, hx, hF2, St.le_sub (by repeat' (first | exact rfl | exact trivial | constructor))⟩
theorem extend_m (m : Nat) (f t : Tb) (same : Bool) (ar room : Nat) (h : MOk f t) (har : ar ≤ 6) (hroom : room ≤ 100000) : ∀ (kk : Nat) (l r : List Int) (X : SV) (hx : Heap) (ds : List Dp), FH X hx ds → okQ f t same l r → l.length + kk = ar →
    ds.length + (exS (qB f t same) f.attrs.length t.attrs.length kk l r).length ≤ room →
    Ab.Call Tryz.prog 91 [.op m 0, IL l, IL r] ((m, .svs (MC f t same ar X room)) :: hx) (fun v h' => v = SB true ∧ ∃ X' hx', FH X' hx' (ds ++ (exS (qB f t same) f.attrs.length t.attrs.length kk l r).map (mkD f t)) ∧ h' = (m, .svs (MC f t same ar X' room)) :: hx')
  | 0, l, r, X, hx, ds, hF, hq, hk, hb => by
    have e1 : ((l.length : Nat) : Int) = ((ar : Nat) : Int) := by omega
    refine Call.mono (Q := fun v h' => v = SB true ∧ h' = (m, .svs (MC f t same ar X room)) :: hx) ?_ fun v h' ⟨h1, h2⟩ => ⟨h1, X, hx, by simpa [exS] using hF, h2⟩
    clear hF hb
    obtain ⟨fn, fa, frs⟩ := f
    obtain ⟨tn, ta, trs⟩ := t
    refine Call.enter' (N := 118) (rs := [.tmp 6]) Tryz.func91 rfl rfl rfl (by decide) rfl ?_; simp only [argT]; have hD : (0 : Nat) = 0 := rfl
    repeat' first | (refine SW.seq_k fun K hK => ?_) | ((first | refine SW.region ?_ | refine SW.cond ?_ | refine SW.ret ?_); try simp only [go_sem, hD, e1, true_implies]) | (apply hK; clear hK K)
    refine retQ_le (fun M w0 D N a w r => r) ?_
    simp only [resL_tmp, resL_nil, tupOf, go_sem, hD]
  | kk + 1, l, r, X, hx, ds, hF, hq, hk, hb => by
    have e1 : ¬ ((l.length : Nat) : Int) = ((ar : Nat) : Int) := by omega
    have IH := extend_m m f t same ar room h har hroom kk
    have ho := ext_out m f t same ar room h har hroom kk l r hq hk IH X hx ds hF hb
    have hat := h.at_
    have haf := h.af
    have hfc := fst_cases (l := l) (fun x hx => ⟨(hq.inl x hx).1, by have := (hq.inl x hx).2; omega⟩)
    rw [exS_eq]
    generalize A15.stZ (qB f t same) f.attrs.length t.attrs.length kk l r (fstX l) = W at *
    clear IH
    have hfl := hq.fst_le
    generalize fstX l = a at *
    clear hb hF
    obtain ⟨fn, fa, frs⟩ := f
    obtain ⟨tn, ta, trs⟩ := t
    simp only at *
    rcases hfc with ⟨h0, rfl⟩ | ⟨h0, h1⟩
    · have z0 : ¬ (0 : Int) < ((l.length : Nat) : Int) := by omega
      refine Call.enter' (N := 118) (rs := [.tmp 6]) Tryz.func91 rfl rfl rfl (by decide) rfl ?_; simp only [argT]; have hD : (0 : Nat) = 0 := rfl
      repeat' first | (refine SW.seq_k fun K hK => ?_) | ((first | refine SW.region ?_ | refine SW.cond ?_ | refine SW.skip ?_); try simp only [go_sem, hD, e1, z0, true_implies]) | (apply hK; clear hK K)
      refine Ab.SW.cut _ (Ab.SW.le (St.le_sub (by repeat' (first | exact rfl | exact trivial | constructor))) ho) ?_
      rintro S' ⟨X2, hx2, hF3, hle⟩
      try simp only [go_sem, hD]
      (first | apply hK | (clear hK K; apply hK) | (clear hK K; clear hK K; apply hK)); clear hK K
      refine Ab.SW.le hle ?_
      clear hle ho
      repeat' first | (refine SW.seq_k fun K hK => ?_) | ((first | refine SW.region ?_ | refine SW.ret ?_); try simp only [go_sem, hD, true_implies]) | (apply hK; clear hK K)
      refine retQ_le (fun M w0 D N a w r => r) ?_
      simp only [resL_tmp, resL_nil, tupOf, go_sem, hD]
      exact ⟨X2, hx2, hF3, rfl⟩
    · have z0 : (0 : Int) < ((l.length : Nat) : Int) := by omega
      have z1 : (0 : Int) ≤ ((l.length : Nat) : Int) - 1 := by omega
      have z2 : ((l.length : Nat) : Int) - 1 < ((l.length : Nat) : Int) := by omega
      have z3 : (((l.length : Nat) : Int) - 1).toNat = l.length - 1 := by omega
      have z4 : IntKind.i64.wrap (((l.length : Nat) : Int) - 1) = ((l.length : Nat) : Int) - 1 := by rw [i64_wrap (by omega) (by omega)]
      have fi : iF l (l.length - 1) = [I64 (l.getD (l.length - 1) 0)] := rfl
      have z5 : IntKind.i64.wrap (l.getD (l.length - 1) 0 + 1) = ((a : Nat) : Int) := by rw [i64_wrap (by omega) (by omega)]; omega
      generalize l.getD (l.length - 1) 0 = x at *
      refine Call.enter' (N := 118) (rs := [.tmp 6]) Tryz.func91 rfl rfl rfl (by decide) rfl ?_; simp only [argT]; have hD : (0 : Nat) = 0 := rfl
      repeat' first | (refine SW.seq_k fun K hK => ?_) | ((first | refine SW.region ?_ | refine SW.cond ?_ | refine SW.skip ?_); try simp only [go_sem, hD, e1, z0, z1, z2, z3, z4, z5, fi, true_implies]) | (apply hK; clear hK K)
      refine Ab.SW.cut _ (Ab.SW.le (St.le_sub (by repeat' (first | exact rfl | exact trivial | constructor))) ho) ?_
      rintro S' ⟨X2, hx2, hF3, hle⟩
      try simp only [go_sem, hD]
      (first | apply hK | (clear hK K; apply hK) | (clear hK K; clear hK K; apply hK)); clear hK K
      refine Ab.SW.le hle ?_
      clear hle ho
      repeat' first | (refine SW.seq_k fun K hK => ?_) | ((first | refine SW.region ?_ | refine SW.ret ?_); try simp only [go_sem, hD, true_implies]) | (apply hK; clear hK K)
      refine retQ_le (fun M w0 D N a w r => r) ?_
      simp only [resL_tmp, resL_nil, tupOf, go_sem, hD]
      exact ⟨X2, hx2, hF3, rfl⟩
end Go.Proofs.YtpidncgibgiidaaGreat
namespace Go.Ab
open Go
theorem Call.nilA [Gl] {P : Program} {f : FuncId} {args : List SV} {h : Heap} {Q : SV → Heap → Prop} (i : Nat) {sz : Nat} {g : Nat → List SV} (hi : i < args.length) (ha : args.getD i .any = .sc (.slice none 0 0)) (hc : Call P f (args.set i (.fl 0 sz g)) h Q) : Call P f args h Q := by
  refine Call.le (fun c hc => hc) (fun M w vs own hr => ⟨own, by simpa using hr.1, fun j hj => ?_⟩) hc
  rw [getD_set hi]
  have h0 := hr.2 j (by simpa using hj)
  by_cases hij : i = j
  · subst hij
    rw [if_pos rfl]
    rw [ha] at h0
    exact Rep.fl_nil h0
  · rw [if_neg hij]; exact h0
end Go.Ab
namespace Go.Ab.A15
open Go Go.Ab Go.Ab.A34
def pairP (db : List Tb) (ar i k : Nat) : List Dp := srtD ((exS (qB (db.getD i t0) (db.getD k t0) (decide ((i : Int) = (k : Int)))) (db.getD i t0).attrs.length (db.getD k t0).attrs.length ar [] []).map (mkD (db.getD i t0) (db.getD k t0)))
def rowP (db : List Tb) (ar i k : Nat) : List Dp := (rg k db.length).flatMap (pairP db ar i)
def allP (db : List Tb) (ar i : Nat) : List Dp := (rg i db.length).flatMap fun i => rowP db ar i 0
theorem rowP_step {db : List Tb} {ar i k : Nat} (h : k < db.length) : rowP db ar i k = pairP db ar i k ++ rowP db ar i (k + 1) := by
  unfold rowP
  rw [rg_step h, List.flatMap_cons]
theorem rowP_end {db : List Tb} {ar i k : Nat} (h : db.length ≤ k) : rowP db ar i k = [] := by
  unfold rowP
  rw [rg_end h]
  rfl
theorem allP_step {db : List Tb} {ar i : Nat} (h : i < db.length) : allP db ar i = rowP db ar i 0 ++ allP db ar (i + 1) := by
  unfold allP
  rw [rg_step h, List.flatMap_cons]
theorem allP_end {db : List Tb} {ar i : Nat} (h : db.length ≤ i) : allP db ar i = [] := by
  unfold allP
  rw [rg_end h]
  rfl
theorem mkD_nodup (f t : Tb) {l : List Pr} (h : l.Nodup) : (l.map (mkD f t)).Nodup := by
  rw [List.Nodup, List.pairwise_map]
  refine h.imp fun {p p'} hne e => hne ?_
  unfold mkD at e
  obtain ⟨_, _, e1, e2⟩ := dp_eq.1 e
  exact Prod.ext e1 e2
theorem srtD_perm (l : List Dp) : (srtD l).Perm l := List.mergeSort_perm l _
theorem srtD_len (l : List Dp) : (srtD l).length = l.length := (srtD_perm l).length_eq
theorem len_le6 {f t : Tb} {same : Bool} {ar : Nat} {p : Pr} (h : p ∈ exS (qB f t same) f.attrs.length t.attrs.length ar [] []) : p.1.length ≤ ar ∧ p.2.length ≤ ar := by
  obtain ⟨h1, h2⟩ := (mem_ex (qB_pq f t same) (qB_nil f t same) ar p).1 h
  have := (qB_pq f t same).len h1
  omega
theorem fl_dCs (l : List Dp) : flCells (dpF l) l.length = dCs l := by
  have e : l = (List.range l.length).map fun i => l.getD i d0 := by
    refine List.ext_getElem (by simp) fun i h1 h2 => ?_
    simp [List.getD_eq_getElem?_getD, h1]
  unfold flCells
  conv => rhs; rw [e]
  unfold dCs
  rw [List.flatMap_map]
  rfl
theorem dCs_all (l : List Dp) : (dCs l).all single = true := by
  rw [List.all_eq_true]
  intro x hx
  obtain ⟨d, _, hd⟩ := List.mem_flatMap.1 hx
  simp only [dC, List.mem_cons, List.not_mem_nil, or_false] at hd
  rcases hd with rfl | rfl | rfl | rfl <;> rfl
theorem dCs_get [Gl] (l : List Dp) {p : Nat} (hp : p < l.length) : dpF l p = getN (.svs (dCs l)) (0 + p * 4) 4 := by
  have h4 : p * 4 + 4 ≤ l.length * 4 := by omega
  rw [getN_take _ _ _ (by rw [Blk.len_svs, dCs_len]; omega)]
  show _ = ((dCs l).drop (0 + p * 4)).take 4
  rw [Nat.zero_add]
  have h1 : l.take p ++ l.drop p = l := List.take_append_drop p l
  have h2 : l.drop p = l[p] :: l.drop (p + 1) := List.drop_eq_getElem_cons hp
  have h3 : dCs l = dCs (l.take p) ++ (dC l[p] ++ dCs (l.drop (p + 1))) := by
    conv => lhs; rw [← h1, h2]
    unfold dCs
    rw [List.flatMap_append, List.flatMap_cons]
  have h5 : (dCs (l.take p)).length = p * 4 := by rw [dCs_len, List.length_take]; omega
  rw [h3, List.drop_append_of_le_length (by omega), List.drop_of_length_le (by omega), List.nil_append]
  unfold dpF
  rw [List.getD_eq_getElem?_getD, List.getElem?_eq_getElem hp]
  rfl
end Go.Ab.A15
namespace Go.Proofs.YtpidncgibgiidaaGreat
open Go Go.Ab Go.Ab.A34 Go.Ab.A15 Go.Ab.A01
variable [Gl] [Tabs]
theorem sort_fr (m : Nat) (mc : Blk) (X : SV) (hx h0 : Heap) (ds : List Dp) (f t : ByteArray) (hF : FH X hx ds) (hf : ∀ d ∈ ds, d.f = f ∧ d.t = t) (hnd : ds.Nodup) (hl : ds.length ≤ 1000000000) (hs : ∀ d ∈ ds, OkS d) :
    Ab.Call Tryz.prog 92 [X, .fn (.func 93) [] []] ((m, mc) :: (hx ++ h0)) (fun r h' => r = .tup [] ∧ ∃ hx2, FH X hx2 (srtD ds) ∧ h' = hx2 ++ ((m, mc) :: h0)) := by
  rcases hF with ⟨rfl, rfl, rfl⟩ | ⟨b, rfl, rfl, hne⟩
  · exact Call.mono (Call.frameN (h1 := []) (h2 := (m, mc) :: h0) sort_dn) fun r h' ⟨h1, e, ⟨q1, q2⟩, _⟩ => ⟨q1, [], .inl ⟨by simp [srtD], rfl, rfl⟩, by rw [e, q2]⟩
  · refine Call.permN (h' := [(b, .svs (dCs ds))] ++ ((m, mc) :: h0)) ?_ List.perm_middle
    exact Call.mono (Call.frameN (h2 := (m, mc) :: h0) (sort_d b ds f t hf hne hnd hl hs)) fun r h' ⟨h1, e, ⟨q1, q2⟩, _⟩ => ⟨q1, [(b, .svs (dCs (srtD ds)))], .inr ⟨b, by rw [srtD_len], rfl, fun e2 => hne (List.eq_nil_of_length_eq_zero (by rw [← srtD_len, e2]; rfl))⟩, by rw [e, q2]⟩
end Go.Proofs.YtpidncgibgiidaaGreat
namespace Go.Ab.A15
open Go Go.Ab Go.Ab.A34
structure OkF (db : List Tb) (ar : Nat) : Prop where
  n : db.length ≤ 1000
  m : ∀ s ∈ db, ∀ t ∈ db, MOk s t
  tot : (allP db ar 0).length ≤ 2000
  ar : ar ≤ 6
theorem FH.acc {X : SV} {hp : Heap} {ds : List Dp} (h : FH X hp ds) : Acc 4 X hp [] ds.length (dCs ds) := by
  rcases h with ⟨rfl, rfl, rfl⟩ | ⟨b, rfl, rfl, _⟩
  · exact .nil 4 []
  · exact .inr ⟨b, _, by simp [fresh_nil], rfl, (dCs_len ds).symm, rfl, rfl, rfl⟩
theorem Acc.len40 [Gl] {x : SV} {hp h0 : Heap} {n : Nat} {cs : List SV} (h : Acc 4 x hp h0 n cs) : ∃ pre, lenSV false (some (40, 4, 80)) none x = .ok pre (I64 n) ∧ pre := by
  rcases h with ⟨rfl, rfl, rfl, rfl⟩ | ⟨b, blk, _, _, _, rfl, rfl, _⟩
  · exact ⟨_, rfl, by first | trivial | decide⟩
  · exact ⟨_, rfl, by first | trivial | decide⟩
theorem le_found [Gl] {t : List (Nat × SV)} {mb : Nat} {cs : List SV} {X : SV} {hx h0 hp : Heap} {ds : List Dp} (hF : FH X hx ds) (hc : cs.getD 8 .any = X) (hl : 8 < cs.length) (hs : ∀ x ∈ hp, x ∈ h0) (hn : ((hx ++ (mb, Blk.svs cs) :: h0).map (·.1)).Nodup) (hn2 : (hp.map (·.1)).Nodup) :
    (St.mk t (hx ++ (mb, .svs cs) :: h0)).le ⟨t, hp ++ [(mb, .svs (cs.set 8 (DpL ds)))]⟩ := by
  have pick : ∀ (k : Blk), mb ∉ h0.map (·.1) → (St.mk t ((mb, k) :: h0)).le ⟨t, hp ++ [(mb, k)]⟩ := fun k hm => by
    refine St.le_pick _ (fun x hx => ?_) ?_
    · rcases List.mem_append.1 hx with hx | hx
      · exact List.mem_cons_of_mem _ (hs x hx)
      · rw [List.mem_singleton.1 hx]; exact List.mem_cons_self
    · rw [List.map_append, List.nodup_append]
      refine ⟨hn2, by simp, fun a ha b hb e => hm ?_⟩
      simp only [List.map_cons, List.map_nil, List.mem_singleton] at hb
      rw [e, hb] at ha
      obtain ⟨y, hy, e2⟩ := List.mem_map.1 ha
      exact List.mem_map.2 ⟨y, hs y hy, e2⟩
  rcases hF with ⟨rfl, rfl, rfl⟩ | ⟨b, rfl, rfl, hne⟩
  · rw [List.nil_append, List.map_cons, List.nodup_cons] at hn
    have s1 := St.le_nilC (t := t) (h := (mb, .svs cs) :: h0) (c := mb) (j := 8) (sz := 4) (f := dpF []) (cs := cs) (by rw [find_cons, if_pos rfl]) hl hc
    rw [upd_cons, if_pos rfl] at s1
    exact s1.trans (pick _ hn.1)
  · rw [List.cons_append, List.nil_append, List.map_cons, List.map_cons, List.nodup_cons, List.nodup_cons] at hn
    have e1 : ¬ mb = b := fun e => hn.1 (by rw [e]; exact List.mem_cons_self)
    have s1 := St.le_freezeC (t := t) (h := (b, .svs (dCs ds)) :: (mb, .svs cs) :: h0) (c := mb) (j := 8) (b := b) (off := 0) (len := ds.length) (sz := 4) (k := .svs (dCs ds)) (cs := cs) (by rw [find_cons, if_neg (Ne.symm e1), find_cons, if_pos rfl]) e1 hl hc (by rw [find_cons, if_pos rfl]) (by rw [Blk.len_svs, dCs_len]; omega) (dpF ds) (fun p hp => dCs_get ds hp)
    rw [del_head, upd_cons, if_pos rfl] at s1
    exact s1.trans (pick _ hn.2.1)
theorem Acc.fr {sz n : Nat} {x : SV} {h h1 : Heap} {cs : List SV} (hA : Acc sz x h [] n cs) (hn : ((h ++ h1).map (·.1)).Nodup) : Acc sz x (h ++ h1) h1 n cs := by
  rcases hA with ⟨h1, h2, rfl, rfl⟩ | ⟨b, blk, hfr, hc, hl, rfl, rfl, hkM⟩
  · exact .inl ⟨h1, h2, rfl, rfl⟩
  · refine .inr ⟨b, blk, ?_, hc, hl, rfl, rfl, hkM⟩
    rw [List.cons_append, List.nil_append] at hn
    exact fresh_of_nodup hn
theorem Acc.alone [Gl] {sz n : Nat} {x : SV} {h h1 : Heap} {cs : List SV} (hA : Acc sz x h h1 n cs) : ∃ h', Acc sz x h' [] n cs ∧ ∀ t, (St.mk t h).le ⟨t, h'⟩ := by
  rcases hA with ⟨h1, h2, rfl, rfl⟩ | ⟨b, blk, hfr, hc, hl, rfl, rfl, hkM⟩
  · exact ⟨[], .inl ⟨h1, h2, rfl, rfl⟩, fun t => St.le_drop⟩
  · exact ⟨[(b, blk)], .inr ⟨b, blk, by simp [fresh_nil], hc, hl, rfl, rfl, hkM⟩, fun t => St.le_pick _ (fun x hx => by rw [List.mem_singleton.1 hx]; exact List.mem_cons_self) (by simp)⟩
theorem exS_mk {f t : Tb} {same : Bool} {ar : Nat} (har : ar ≤ 6) : ((exS (qB f t same) f.attrs.length t.attrs.length ar [] []).map (mkD f t)).Nodup ∧ (∀ d ∈ (exS (qB f t same) f.attrs.length t.attrs.length ar [] []).map (mkD f t), d.f = f.name ∧ d.t = t.name) ∧ (∀ d ∈ (exS (qB f t same) f.attrs.length t.attrs.length ar [] []).map (mkD f t), OkS d) := by
  refine ⟨mkD_nodup f t (nodup_exS (qB_pq f t same) ar [] [] rfl), fun d hd => ?_, fun d hd => ?_⟩
  · obtain ⟨p, _, rfl⟩ := List.mem_map.1 hd
    exact ⟨rfl, rfl⟩
  · obtain ⟨p, hp, rfl⟩ := List.mem_map.1 hd
    have := len_le6 hp
    exact ⟨by show p.1.length ≤ _; omega, by show p.2.length ≤ _; omega⟩
end Go.Ab.A15
namespace Go.Proofs.YtpidncgibgiidaaGreat
open Go Go.Ab Go.Ab.A34 Go.Ab.A15 Go.Ab.A01
variable [Gl] [Tabs]
theorem sea_in (db : List Tb) (ar i : Nat) (h : OkF db ar) (hil : i < db.length) (x : SV) (hp : Heap) (ds : List Dp) (hA : Acc 4 x hp [] ds.length (dCs ds)) (hb : ds.length + (rowP db ar i 0).length ≤ 2000) :
    Ab.SW Tryz.prog 56 (blk 2 Tryz.f47) (nrm fun S => ∃ x' hp', Acc 4 x' hp' [] (ds ++ rowP db ar i 0).length (dCs (ds ++ rowP db ar i 0)) ∧ S.le ⟨[(1, I64 ar), (2, .fp [TL db]), (6, x'), (13, TL db), (14, I64 db.length), (15, I64 i)], hp'⟩)
      ⟨[(1, I64 ar), (2, .fp [TL db]), (6, x), (7, I64 i), (8, .fp (tC (db.getD i t0))), (13, TL db), (14, I64 db.length), (15, I64 i), (21, TL db), (22, I64 db.length), (23, I64 (0 : Nat))], hp⟩ := by
  obtain ⟨A, hAe⟩ : ∃ A, A = ds ++ rowP db ar i 0 := ⟨_, rfl⟩
  have hAl : A.length ≤ 2000 := by rw [hAe, List.length_append]; exact hb
  rw [← hAe]
  have hn := h.n
  have har := h.ar
  conv => arg 3; whnf
  refine SW.block ?_
  obtain ⟨I, hI⟩ : ∃ I : Nat → St → Prop, ∀ k S, I k S ↔ (∃ (j : Nat) (x : SV) (hp : Heap) (ds : List Dp), k = db.length - j ∧ j ≤ db.length ∧ Acc 4 x hp [] ds.length (dCs ds) ∧ A = ds ++ rowP db ar i j ∧ S = ⟨[(1, I64 ar), (2, .fp [TL db]), (6, x), (7, I64 i), (8, .fp (tC (db.getD i t0))), (13, TL db), (14, I64 db.length), (15, I64 i), (21, TL db), (22, I64 db.length), (23, I64 j)], hp⟩) := ⟨fun k S => _, fun _ _ => Iff.rfl⟩
  refine SW.loop' I (db.length) ((hI _ _).2 ⟨0, x, hp, ds, rfl, Nat.zero_le _, hA, hAe, rfl⟩) (by repeat' (first | exact rfl | exact trivial | constructor)) ?_
  intro k S hIn
  obtain ⟨j, x, hp, ds, rfl, hi, hA2, hA3, rfl⟩ := (hI _ _).1 hIn
  clear hIn
  have ie : ((j : Nat) : Int).toNat = j := Int.toNat_natCast _
  have i0 : (0 : Int) ≤ ((j : Nat) : Int) := by omega
  clear hA hAe hb
  by_cases hlt : j < db.length
  · have hli : ((j : Nat) : Int) < (((db.length) : Nat) : Int) := by omega
    have w1 : IntKind.i64.wrap ((j : Int) + 1) = ((j + 1 : Nat) : Int) := by rw [i64_wrap (by omega) (by omega)]; omega
    rw [rowP_step hlt] at hA3
    have hm := h.m _ (getD_mem' t0 hil) _ (getD_mem' t0 hlt)
    have fj : tF db j = tC (db.getD j t0) := rfl
    have hsm : ∀ e : Bool, e = decide ((i : Int) = (j : Int)) → pairP db ar i j = srtD ((exS (qB (db.getD i t0) (db.getD j t0) e) (db.getD i t0).attrs.length (db.getD j t0).attrs.length ar [] []).map (mkD (db.getD i t0) (db.getD j t0))) := fun e he => by rw [he]; rfl
    have hY : rowP db ar i (j + 1) = rowP db ar i (j + 1) := rfl
    generalize hsmE : decide ((i : Int) = (j : Int)) = same at *
    have hpe := hsm _ rfl
    have hlen3 : ds.length + (pairP db ar i j).length ≤ 2000 := by
      rw [hA3] at hAl
      simp only [List.length_append] at hAl
      omega
    have hroom : ((2000 - ds.length : Nat) : Int) = 2000 - ((ds.length : Nat) : Int) := by omega
    have hw : IntKind.i64.wrap (2000 - ((ds.length : Nat) : Int)) = ((2000 - ds.length : Nat) : Int) := by rw [i64_wrap (by omega) (by omega)]; omega
    have hex := fun m => extend_m m (db.getD i t0) (db.getD j t0) same ar (2000 - ds.length) hm har (by omega) ar [] [] SN [] [] (.inl ⟨rfl, rfl, rfl⟩) (Or.inl ⟨rfl, rfl⟩) (by simp) (by
      have h1 := hlen3
      rw [hpe, srtD_len, List.length_map] at h1
      simp only [List.length_nil, Nat.zero_add]
      omega)
    obtain ⟨k1, k2, k3⟩ := exS_mk (f := db.getD i t0) (t := db.getD j t0) (same := same) har
    rw [hpe] at hA3 hlen3
    clear hpe hsm
    rw [← List.append_assoc] at hA3
    generalize (exS (qB (db.getD i t0) (db.getD j t0) same) (db.getD i t0).attrs.length (db.getD j t0).attrs.length ar [] []).map (mkD (db.getD i t0) (db.getD j t0)) = E at *
    generalize db.getD i t0 = f at *
    generalize db.getD j t0 = t at *
    obtain ⟨fn, fa, frs⟩ := f
    obtain ⟨tn, ta, trs⟩ := t
    simp only at *
    have hD : (0 : Nat) = 0 := rfl
    obtain ⟨pre, hlx, hpre⟩ := Acc.len40 hA2
    repeat' first | (refine SW.seq_k fun K hK => ?_) | (refine SW.block ?_) | ((first | refine SW.region ?_ | refine SW.cond ?_ | refine SW.skip ?_ | (refine allF_i fun b hb => ?_; replace hD := And.intro hb hD; clear hb; try simp only [fresh_cons, fresh_nil, and_true, ne_eq, neF] at hD)); try simp only [go_sem, hD, hli, ie, i0, w1, fj, hsmE, hw, hlx, hpre, true_implies]) | (apply hK; clear hK K)
    obtain ⟨mb, rfl⟩ : ∃ x, x = b := ⟨_, rfl⟩
    obtain ⟨tb, rfl⟩ : ∃ x, x = b := ⟨_, rfl⟩
    have hc1 : Ab.Call Tryz.prog 91 [.op mb 0, SN, SN] ((mb, .svs (MC ⟨fn, fa, frs⟩ ⟨tn, ta, trs⟩ same ar SN (2000 - ds.length : Nat))) :: (tb, .svs [Str tn, SL ta, RL trs]) :: hp) (fun v h' => v = SB true ∧ ∃ X' hx', FH X' hx' E ∧ h' = (mb, .svs (MC ⟨fn, fa, frs⟩ ⟨tn, ta, trs⟩ same ar X' (2000 - ds.length : Nat))) :: (hx' ++ ((tb, .svs [Str tn, SL ta, RL trs]) :: hp))) := by
      refine Call.nilA (sz := 1) (g := iF []) 1 (by simp) rfl ?_
      refine Call.nilA (sz := 1) (g := iF []) 2 (by simp) rfl ?_
      exact Call.mono (Call.frameN (h2 := (tb, .svs [Str tn, SL ta, RL trs]) :: hp) (hex mb)) fun v h' ⟨h1, e, ⟨q1, X', hx', q2, q3⟩, _⟩ => ⟨q1, X', hx', q2, by rw [e, q3]; rfl⟩
    refine Call.mono hc1 ?_
    rintro v h' ⟨rfl, X2, hx2, hF2, rfl⟩
    clear hc1 hex
    try simp only [go_sem, hD]
    repeat' first | (refine SW.seq_k fun K hK => ?_) | ((first | refine SW.region ?_ | refine SW.cond ?_ | refine SW.skip ?_); try simp only [go_sem, hD, hli, ie, i0, w1, true_implies]) | (apply hK; clear hK K)
    refine Call.mono (sort_fr mb _ X2 hx2 ((tb, .svs [Str tn, SL ta, RL trs]) :: hp) E fn tn hF2 k2 k1 (by rw [srtD_len] at hlen3; omega) k3) ?_
    rintro v h' ⟨rfl, hx3, hF3, rfl⟩
    clear hF2
    try simp only [go_sem, hD]
    (first | apply hK | (clear hK K; apply hK) | (clear hK K; clear hK K; apply hK)); clear hK K
    refine SW.nd fun hnd => ?_
    have hpn : (hp.map (·.1)).Nodup := by
      have h1 : ((hx3.map (·.1)) ++ (mb :: tb :: hp.map (·.1))).Nodup := by simpa using hnd
      exact (List.nodup_cons.1 (List.nodup_cons.1 (List.nodup_append.1 h1).2.1).2).2
    refine Ab.SW.le (le_found (cs := MC ⟨fn, fa, frs⟩ ⟨tn, ta, trs⟩ same ar X2 (2000 - ds.length : Nat)) hF3 rfl (by show 8 < 10; omega) (fun x hx => List.mem_cons_of_mem _ hx) hnd hpn) ?_
    clear hnd
    refine SW.nd fun hnd => ?_
    have hA5 : Acc 4 x (hp ++ [(mb, .svs [Str fn, SL fa, RL frs, Str tn, SL ta, RL trs, SB same, I64 ar, DpL (srtD E), I64 (2000 - ds.length : Nat)])]) [(mb, .svs [Str fn, SL fa, RL frs, Str tn, SL ta, RL trs, SB same, I64 ar, DpL (srtD E), I64 (2000 - ds.length : Nat)])] ds.length (dCs ds) := Acc.fr hA2 hnd
    have hsrc : ∀ H, srcCells (DpL (srtD E)) H = some ((srtD E).length, dCs (srtD E)) := fun H => by
      show some (_, flCells (dpF (srtD E)) (srtD E).length) = _
      rw [fl_dCs]
    have hcl : (dCs (srtD E)).length = (srtD E).length * 4 := dCs_len _
    have hb1 : (ds.length + (srtD E).length) * 80 ≤ 140737488355328 := by omega
    have hb2 : ds.length + (srtD E).length ≤ 140737488355328 := by omega
    have hall := dCs_all (srtD E)
    have hAc : dCs (ds ++ srtD E) = dCs ds ++ dCs (srtD E) := by unfold dCs; rw [List.flatMap_append]
    have hAn : (ds ++ srtD E).length = ds.length + (srtD E).length := List.length_append
    have hfd : Heap.find (hp ++ [(mb, .svs [Str fn, SL fa, RL frs, Str tn, SL ta, RL trs, SB same, I64 ar, DpL (srtD E), I64 (2000 - ds.length : Nat)])]) mb = some (.svs [Str fn, SL fa, RL frs, Str tn, SL ta, RL trs, SB same, I64 ar, DpL (srtD E), I64 (2000 - ds.length : Nat)]) := find_of_mem hnd (List.mem_append_right _ (List.mem_singleton.2 rfl))
    clear hnd hF3 hA2 k1 k2 k3
    generalize hG : srtD E = G at *
    repeat' first | ((with_reducible refine appK_accS hA5 ?_ (hsrc _) ?_ hcl hall ?_ ?_ hb1 hb2 ?_); (iterate 4 (first | rfl | exact Nat.succ_pos _)); (intro x2 hp2 hA6); (try simp only [go_sem, hD])) | (refine SW.region ?_; try simp only [go_sem, hD, hli, ie, i0, w1, hfd, true_implies]) | (apply hK; clear hK K)
    obtain ⟨hp3, hA7, hle⟩ := Acc.alone hA6
    refine Rnd.le (hle _) ?_
    refine Rnd.sub (db.length - (j + 1)) (by omega) ((hI _ _).2 ⟨j + 1, x2, hp3, (ds ++ G), rfl, by omega, by rw [hAn, hAc]; exact hA7, hA3, rfl⟩) (by repeat' (first | exact rfl | exact trivial | constructor))
  · have hli : ¬ ((j : Nat) : Int) < (((db.length) : Nat) : Int) := by omega
    rw [rowP_end (by omega), List.append_nil] at hA3
    subst hA3
    have hD : (0 : Nat) = 0 := rfl
    repeat' first | (refine SW.seq_k fun K hK => ?_) | ((first | refine SW.region ?_ | refine SW.cond ?_ | refine SW.exit ?_); try simp only [go_sem, hD, hli, true_implies]) | (apply hK; clear hK K)
    exact ⟨x, hp, hA2, St.le_sub (by repeat' (first | exact rfl | exact trivial | constructor))⟩
theorem search_p (db : List Tb) (ar : Nat) (h : OkF db ar) : Ab.Call Tryz.prog 47 [DB db, I64 ar] [] (fun r h' => ∃ x, r = .tup [x, I64 0] ∧ Acc 4 x h' [] (allP db ar 0).length (dCs (allP db ar 0))) := by
  have hn := h.n
  have htot := h.tot
  refine Call.enter' (N := 56) (rs := [.tmp 4, .tmp 5]) Tryz.func47 rfl rfl rfl (by decide) rfl ?_; simp only [argT]; have hD : (0 : Nat) = 0 := rfl
  repeat' first | (refine SW.seq_k fun K hK => ?_) | ((first | refine SW.region ?_ | (refine allF_i fun b hb => ?_; replace hD := And.intro hb hD; clear hb; try simp only [fresh_cons, fresh_nil, and_true, ne_eq, neF] at hD)); try simp only [go_sem, hD, true_implies]) | (apply hK; clear hK K)
  obtain ⟨xb, rfl⟩ : ∃ x, x = b := ⟨_, rfl⟩
  refine Ab.SW.le (S' := ⟨[(1, I64 ar), (2, .fp [TL db]), (6, SN), (13, TL db), (14, I64 db.length), (15, I64 (0 : Nat))], []⟩) ?_ ?_
  · refine St.le.trans (St.le_freezeP (i := 2) (b := xb) (off := 0) (n := 1) (k := .svs [TL db]) rfl (by simp [find_cons, hD]) (by exact Nat.le_refl 1)) ?_
    simp only [getN, Blk.get, go_sem, hD]
    exact St.le_sub (by repeat' (first | exact rfl | exact trivial | constructor))
  clear hD
  have hD : (0 : Nat) = 0 := rfl
  refine SW.block ?_
  obtain ⟨A, hAe⟩ : ∃ A, A = allP db ar 0 := ⟨_, rfl⟩
  have hAl : A.length ≤ 2000 := by rw [hAe]; exact htot
  have hAe0 := hAe
  obtain ⟨I, hI⟩ : ∃ I : Nat → St → Prop, ∀ k S, I k S ↔ (∃ (i : Nat) (x : SV) (hp : Heap) (ds : List Dp), k = db.length - i ∧ i ≤ db.length ∧ Acc 4 x hp [] ds.length (dCs ds) ∧ A = ds ++ allP db ar i ∧ S = ⟨[(1, I64 ar), (2, .fp [TL db]), (6, x), (13, TL db), (14, I64 db.length), (15, I64 i)], hp⟩) := ⟨fun k S => _, fun _ _ => Iff.rfl⟩
  refine SW.loop' I (db.length) ((hI _ _).2 ⟨0, SN, [], [], rfl, Nat.zero_le _, .nil 4 [], hAe, rfl⟩) (by repeat' (first | exact rfl | exact trivial | constructor)) ?_
  intro k S hIn
  obtain ⟨i, x, hp, ds, rfl, hi, hA2, hA3, rfl⟩ := (hI _ _).1 hIn
  clear hIn
  have ie : ((i : Nat) : Int).toNat = i := Int.toNat_natCast _
  have i0 : (0 : Int) ≤ ((i : Nat) : Int) := by omega
  clear hAe
  by_cases hlt : i < db.length
  · have hli : ((i : Nat) : Int) < (((db.length) : Nat) : Int) := by omega
    have w1 : IntKind.i64.wrap ((i : Int) + 1) = ((i + 1 : Nat) : Int) := by rw [i64_wrap (by omega) (by omega)]; omega
    rw [allP_step hlt, ← List.append_assoc] at hA3
    have fi : tF db i = tC (db.getD i t0) := rfl
    have hlen3 : ds.length + (rowP db ar i 0).length ≤ 2000 := by
      rw [hA3] at hAl
      simp only [List.length_append] at hAl
      omega
    have hin := sea_in db ar i h hlt x hp ds hA2 hlen3
    generalize rowP db ar i 0 = W at *
    clear hA2 hlen3
    generalize db.getD i t0 = f at *
    obtain ⟨fn, fa, frs⟩ := f
    repeat' first | (refine SW.seq_k fun K hK => ?_) | ((first | refine SW.region ?_ | refine SW.cond ?_ | refine SW.skip ?_); try simp only [go_sem, hD, hli, ie, i0, w1, fi, true_implies]) | (apply hK; clear hK K)
    refine SW.block ?_
    repeat' first | (refine SW.seq_k fun K hK => ?_) | ((first | refine SW.region ?_ | (refine allF_i fun b hb => ?_; replace hD := And.intro hb hD; clear hb; try simp only [fresh_cons, fresh_nil, and_true, ne_eq, neF] at hD)); try simp only [go_sem, hD, hli, ie, i0, w1, fi, true_implies]) | (apply hK; clear hK K)
    obtain ⟨fb, rfl⟩ : ∃ x, x = b := ⟨_, rfl⟩
    refine Ab.SW.cut _ (Ab.SW.le ((St.le_freezeP (i := 8) (b := fb) (off := 0) (n := 3) (k := .svs (tC ⟨fn, fa, frs⟩)) rfl (by rw [find_cons, if_pos rfl]) (by exact Nat.le_refl 3)).trans ?_) hin) ?_
    · rw [del_head]
      simp only [getN, Blk.get, go_sem, hD]
      exact St.le_sub (by repeat' (first | exact rfl | exact trivial | constructor))
    rintro S' ⟨x2, hp2, hA4, hle⟩
    try simp only [go_sem, hD]
    (first | apply hK | (clear hK K; apply hK) | (clear hK K; clear hK K; apply hK)); clear hK K
    refine Ab.SW.le hle ?_
    clear hle hin
    clear hD
    have hD : (0 : Nat) = 0 := rfl
    repeat' (refine SW.region ?_; try simp only [go_sem, hD, hli, ie, i0, w1, fi, true_implies])
    refine Rnd.sub (db.length - (i + 1)) (by omega) ((hI _ _).2 ⟨i + 1, x2, hp2, (ds ++ W), rfl, by omega, hA4, hA3, rfl⟩) (by repeat' (first | exact rfl | exact trivial | constructor))
  · have hli : ¬ ((i : Nat) : Int) < (((db.length) : Nat) : Int) := by omega
    rw [allP_end (by omega), List.append_nil] at hA3
    subst hA3
    rw [hAe0] at hA2
    repeat' first | (refine SW.seq_k fun K hK => ?_) | ((first | refine SW.region ?_ | refine SW.cond ?_ | refine SW.exit ?_ | refine SW.ret ?_); try simp only [go_sem, hD, hli, true_implies]) | (apply hK; clear hK K) | (clear hK K; apply hK; clear hK K)
    refine retQ_le (fun M w0 D N a w r => r) ?_
    simp only [resL_tmp, resL_nil, tupOf, go_sem, hD]
    exact ⟨x, rfl, hA2⟩
end Go.Proofs.YtpidncgibgiidaaGreat
namespace Go.Ab.A15
open Go Go.Ab Go.Ab.A34
open Classical in
noncomputable def qR (db : List Tb) (f t : Tb) (l r : List Int) : Bool := decide (CanD ⟨f.name, l, t.name, r⟩) && hldB db ⟨f.name, l, t.name, r⟩
def lvB (q : List Int → List Int → Bool) (nt : Nat) (p : Pr) (a b : Nat) : List Pr := (rg b nt).flatMap fun (b : Nat) => if q (p.1 ++ [(a : Int)]) (p.2 ++ [(b : Int)]) then [(p.1 ++ [(a : Int)], p.2 ++ [(b : Int)])] else []
def lvA (q : List Int → List Int → Bool) (nf nt : Nat) (p : Pr) (a : Nat) : List Pr := (rg a nf).flatMap fun (a : Nat) => lvB q nt p a 0
theorem lvB_step {q : List Int → List Int → Bool} {nt : Nat} {p : Pr} {a b : Nat} (h : b < nt) : lvB q nt p a b = (if q (p.1 ++ [(a : Int)]) (p.2 ++ [(b : Int)]) then [(p.1 ++ [(a : Int)], p.2 ++ [(b : Int)])] else []) ++ lvB q nt p a (b + 1) := by
  unfold lvB
  rw [rg_step h, List.flatMap_cons]
theorem lvB_end {q : List Int → List Int → Bool} {nt : Nat} {p : Pr} {a b : Nat} (h : nt ≤ b) : lvB q nt p a b = [] := by
  unfold lvB
  rw [rg_end h]
  rfl
theorem lvA_step {q : List Int → List Int → Bool} {nf nt : Nat} {p : Pr} {a : Nat} (h : a < nf) : lvA q nf nt p a = lvB q nt p a 0 ++ lvA q nf nt p (a + 1) := by
  unfold lvA
  rw [rg_step h, List.flatMap_cons]
theorem lvA_end {q : List Int → List Int → Bool} {nf nt : Nat} {p : Pr} {a : Nat} (h : nf ≤ a) : lvA q nf nt p a = [] := by
  unfold lvA
  rw [rg_end h]
  rfl
theorem nd3 {h : Heap} {b1 b2 c : Nat} (f1 : fresh h b1) (f2 : fresh h b2) (f3 : fresh h c) (e1 : ¬ b1 = b2) (e2 : ¬ b1 = c) (e3 : ¬ b2 = c) (hn : (h.map (·.1)).Nodup) : (b1 :: b2 :: c :: h.map (·.1)).Nodup := by
  rw [List.nodup_cons, List.nodup_cons, List.nodup_cons]
  refine ⟨fun hm => ?_, fun hm => ?_, not_map_of_fresh f3, hn⟩
  · rcases List.mem_cons.1 hm with e | hm
    · exact e1 e
    · rcases List.mem_cons.1 hm with e | hm
      · exact e2 e
      · exact not_map_of_fresh f1 hm
  · rcases List.mem_cons.1 hm with e | hm
    · exact e3 e
    · exact not_map_of_fresh f2 hm
structure OkH (db : List Tb) (f t : Tb) (most : Nat) : Prop where
  n : db.length ≤ 1000
  ok : OkDb db
  af : f.attrs.length ≤ 100
  at_ : t.attrs.length ≤ 100
  m : most ≤ 6
end Go.Ab.A15
namespace Go.Proofs.YtpidncgibgiidaaGreat
open Go Go.Ab Go.Ab.A34 Go.Ab.A15 Go.Ab.A01
variable [Gl] [Tabs]
open Classical in
theorem hol_b (db : List Tb) (f t : Tb) (most : Nat) (h : OkH db f t most) (x : SV) (now : List Dp) (kk i a : Nat) (p : Pr) (hi : i < now.length) (hp : now.getD i d0 = mkD f t p) (hpl : p.1.length ≤ 10 ∧ p.2.length ≤ 10) (hnow : now.length ≤ 10000) (ha : a < f.attrs.length) (x2 : SV) (hh h1 : Heap) (ms : List Dp) (hA : Acc 4 x2 hh h1 ms.length (dCs ms)) (hb : ms.length + (lvB (qR db f t) t.attrs.length p a 0).length ≤ 10000) :
    Ab.SW Tryz.prog 130 (blk 6 Tryz.f49) (nrm fun S => ∃ x' h', Acc 4 x' h' h1 (ms ++ (lvB (qR db f t) t.attrs.length p a 0).map (mkD f t)).length (dCs (ms ++ (lvB (qR db f t) t.attrs.length p a 0).map (mkD f t))) ∧ S.le ⟨[(3, I64 most), (4, .fp [TL db]), (5, .fp (tC f)), (6, .fp (tC t)), (9, x), (10, DpL now), (11, I64 kk), (12, x'), (13, I64 i), (14, I64 a)], h'⟩)
      ⟨[(3, I64 most), (4, .fp [TL db]), (5, .fp (tC f)), (6, .fp (tC t)), (9, x), (10, DpL now), (11, I64 kk), (12, x2), (13, I64 i), (14, I64 a), (15, I64 (0 : Nat))], hh⟩ := by
  obtain ⟨A, hAe⟩ : ∃ A, A = ms ++ (lvB (qR db f t) t.attrs.length p a 0).map (mkD f t) := ⟨_, rfl⟩
  have hAl : A.length ≤ 10000 := by rw [hAe, List.length_append, List.length_map]; exact hb
  rw [← hAe]
  have hat := h.at_
  have haf := h.af
  have hdn := h.n
  have hok := h.ok
  conv => arg 3; whnf
  refine SW.block ?_
  obtain ⟨I, hI⟩ : ∃ I : Nat → St → Prop, ∀ k S, I k S ↔ (∃ (j : Nat) (x2 : SV) (hh : Heap) (ms : List Dp), k = t.attrs.length - j ∧ j ≤ t.attrs.length ∧ Acc 4 x2 hh h1 ms.length (dCs ms) ∧ A = ms ++ (lvB (qR db f t) t.attrs.length p a j).map (mkD f t) ∧ S = ⟨[(3, I64 most), (4, .fp [TL db]), (5, .fp (tC f)), (6, .fp (tC t)), (9, x), (10, DpL now), (11, I64 kk), (12, x2), (13, I64 i), (14, I64 a), (15, I64 j)], hh⟩) := ⟨fun k S => _, fun _ _ => Iff.rfl⟩
  refine SW.loop' I (t.attrs.length) ((hI _ _).2 ⟨0, x2, hh, ms, rfl, Nat.zero_le _, hA, hAe, rfl⟩) (by repeat' (first | exact rfl | exact trivial | constructor)) ?_
  intro k S hIn
  obtain ⟨j, x2, hh, ms, rfl, hi, hA2, hA3, rfl⟩ := (hI _ _).1 hIn
  clear hIn
  have ie : ((j : Nat) : Int).toNat = j := Int.toNat_natCast _
  have i0 : (0 : Int) ≤ ((j : Nat) : Int) := by omega
  clear hA hAe hb
  by_cases hlt : j < t.attrs.length
  · have hli : ((j : Nat) : Int) < (((t.attrs.length) : Nat) : Int) := by omega
    have w1 : IntKind.i64.wrap ((j : Int) + 1) = ((j + 1 : Nat) : Int) := by rw [i64_wrap (by omega) (by omega)]; omega
    rw [lvB_step hlt] at hA3
    have hin : ((i : Nat) : Int) < ((now.length : Nat) : Int) := by omega
    have hi0 : (0 : Int) ≤ ((i : Nat) : Int) := by omega
    have hie : ((i : Nat) : Int).toNat = i := Int.toNat_natCast _
    have fi : dpF now i = dC (mkD f t p) := by unfold dpF; rw [hp]
    have hY : lvB (qR db f t) t.attrs.length p a (j + 1) = lvB (qR db f t) t.attrs.length p a (j + 1) := rfl
    have hdd : mkD f t (p.1 ++ [(a : Int)], p.2 ++ [(j : Int)]) = ⟨f.name, p.1 ++ [(a : Int)], t.name, p.2 ++ [(j : Int)]⟩ := rfl
    have hs1 : (p.1 ++ [(a : Int)]).length ≤ 11 := by rw [List.length_append, List.length_singleton]; omega
    have hs2 : (p.2 ++ [(j : Int)]).length ≤ 11 := by rw [List.length_append, List.length_singleton]; omega
    have cc := cand_r ⟨f.name, p.1 ++ [(a : Int)], t.name, p.2 ++ [(j : Int)]⟩ ⟨by show (p.1 ++ [(a : Int)]).length ≤ _; omega, by show (p.2 ++ [(j : Int)]).length ≤ _; omega⟩
    have ch := holds_r db ⟨f.name, p.1 ++ [(a : Int)], t.name, p.2 ++ [(j : Int)]⟩ (by omega) hok ⟨by show (p.1 ++ [(a : Int)]).length ≤ _; omega, by show (p.2 ++ [(j : Int)]).length ≤ _; omega⟩
    have hq : qR db f t (p.1 ++ [(a : Int)]) (p.2 ++ [(j : Int)]) = (decide (CanD ⟨f.name, p.1 ++ [(a : Int)], t.name, p.2 ++ [(j : Int)]⟩) && hldB db ⟨f.name, p.1 ++ [(a : Int)], t.name, p.2 ++ [(j : Int)]⟩) := rfl
    rw [hq] at hA3
    clear hq
    have hil : iC (p.1 ++ [(a : Int)]) = iC p.1 ++ [I64 a] := by rw [iC, List.map_append]; rfl
    have hir : iC (p.2 ++ [(j : Int)]) = iC p.2 ++ [I64 j] := by rw [iC, List.map_append]; rfl
    have hgl : p.1.length + 1 = (p.1 ++ [(a : Int)]).length := by simp
    have hgr : p.2.length + 1 = (p.2 ++ [(j : Int)]).length := by simp
    have hf1 : flCells (iF p.1) p.1.length = iC p.1 := fl_map p.1
    have hf2 : flCells (iF p.2) p.2.length = iC p.2 := fl_map p.2
    have ha1 := iC_all p.1
    have ha2 := iC_all p.2
    have hl1 : (iC p.1).length = p.1.length := List.length_map _
    have hl2 : (iC p.2).length = p.2.length := List.length_map _
    have hb1 : p.1.length * 8 ≤ 140737488355328 := by omega
    have hb2 : p.2.length * 8 ≤ 140737488355328 := by omega
    have hb3 : p.1.length ≤ 140737488355328 := by omega
    have hb4 : p.2.length ≤ 140737488355328 := by omega
    have hb5 : (p.1.length + 1) * 8 ≤ 140737488355328 := by omega
    have hb6 : (p.2.length + 1) * 8 ≤ 140737488355328 := by omega
    generalize decide (CanD ⟨f.name, p.1 ++ [(a : Int)], t.name, p.2 ++ [(j : Int)]⟩) = z1 at *
    generalize hldB db ⟨f.name, p.1 ++ [(a : Int)], t.name, p.2 ++ [(j : Int)]⟩ = z2 at *
    generalize hYe : lvB (qR db f t) t.attrs.length p a (j + 1) = Y at *
    generalize p.1 ++ [(a : Int)] = l' at *
    generalize p.2 ++ [(j : Int)] = r' at *
    generalize qR db f t = q at *
    obtain ⟨p1, p2⟩ := p
    obtain ⟨fn, fa, frs⟩ := f
    obtain ⟨tn, ta, trs⟩ := t
    simp only [mkD] at *
    generalize iC p1 = C1 at *
    generalize iC p2 = C2 at *
    have hD : (0 : Nat) = 0 := rfl
    repeat' first | (refine SW.seq_k fun K hK => ?_) | (refine SW.block ?_) | ((first | refine SW.region ?_ | refine SW.cond ?_ | refine SW.skip ?_); try simp only [go_sem, hD, hli, ie, i0, w1, true_implies]) | (apply hK; clear hK K)
    refine SW.nd fun hnd => ?_
    refine Ab.SW.cut (fun S' => S'.le ⟨[(16, .fp (dC ⟨fn, l', tn, r'⟩)), (3, I64 most), (4, .fp [TL db]), (5, .fp (tC ⟨fn, fa, frs⟩)), (6, .fp (tC ⟨tn, ta, trs⟩)), (9, x), (10, DpL now), (11, I64 kk), (12, x2), (13, I64 i), (14, I64 a), (15, I64 j)], hh⟩) ?_ (fun S' hS' => ?_)
    · clear cc ch
      repeat' first | (with_reducible refine And.intro (by omega) ?_) | ((first | refine SW.regionP (id := 16) (Checked.mixed Tryz.checked) ((.fre 0 [0, 1, 24, 26] (.fre 1 [1, 24, 26] (.fre 3 [3, 5, 6, 7, 8, 11, 20, 23, 24, 26] (.fre 4 [4, 5, 6, 7, 8, 11, 20, 23, 24, 26] (.fre 5 [5, 6, 7, 8, 11, 20, 23, 24, 26] (.fre 6 [6, 7, 8, 11, 20, 23, 24, 26] (.fre 7 [7, 8, 11, 20, 23, 24, 26] (.fre 9 [9, 10, 11, 20, 23, 24, 26] (.fre 12 [12, 13, 24, 26] (.fre 13 [13, 24, 26] (.fre 15 [15, 17, 18, 19, 20, 23, 24, 26] (.fre 16 [16, 17, 18, 19, 20, 23, 24, 26] (.fre 17 [17, 18, 19, 20, 23, 24, 26] (.fre 18 [18, 19, 20, 23, 24, 26] (.fre 19 [19, 20, 23, 24, 26] (.fre 21 [21, 22, 23, 24, 26] (.fst 2 [2, 8, 11, 20, 23, 24, 26] (.fst 8 [8, 11, 20, 23, 24, 26] (.fst 10 [10, 11, 20, 23, 24, 26] (.fst 11 [11, 20, 23, 24, 26] (.fst 14 [14, 20, 23, 24, 26] (.fst 20 [20, 23, 24, 26] (.fst 22 [22, 23, 24, 26] (.fst 23 [23, 24, 26] (.fre 24 [24, 26] (.fst 25 [25, 26] (.alt 26 .done .nil))))))))))))))))))))))))))) : OP) (by kernel_rfl) ?_ | (refine allF_i fun b hb => ?_; replace hD := And.intro hb hD; clear hb; try simp only [fresh_cons, fresh_nil, and_true, ne_eq, neF] at hD) | simp only [appK, appOsK]); try simp only [go_sem, hD, hin, hi0, hie, fi, hf1, hf2, ha1, ha2, hl1, hl2, hb1, hb2, hb3, hb4, hb5, hb6, true_implies])
      all_goals
        obtain ⟨eb, rfl⟩ : ∃ x, x = b := ⟨_, rfl⟩
        refine nrm_i ((St.le_dp (c := eb) (la := l') (lb := r') hh (by rw [find_cons, if_pos rfl]) (by simp [find_cons, hD, hil]) (by simp [find_cons, hD, hir]) hgl hgr (by intro x hx; repeat (first | exact hx | apply List.mem_cons_of_mem)) (nd3 (by simp [hD]) (by simp [hD]) (by simp [hD]) (by simp [hD]) (by simp [hD]) (by simp [hD]) hnd)).trans ((St.le_freezeP (i := 16) (b := eb) (off := 0) (n := 4) (k := .svs (dC ⟨fn, l', tn, r'⟩)) rfl (by rw [find_cons, if_pos rfl]) (by exact Nat.le_refl 4)).trans ?_))
        rw [del_head]
        simp only [getN, Blk.get, go_sem, hD]
        exact St.le_sub (by repeat' (first | exact rfl | exact trivial | constructor))
    · clear hil hir hgl hgr hf1 hf2 ha1 ha2 hl1 hl2 hb1 hb2 hb3 hb4 hb5 hb6 hin hi0 hie fi
      try simp only [go_sem, hD]
      (first | apply hK | (clear hK K; apply hK) | (clear hK K; clear hK K; apply hK)); clear hK K
      refine Ab.SW.le hS' ?_
      clear hS' hnd
      cases z1 with
      | false =>
        rw [Bool.false_and, if_neg (by simp), List.nil_append] at hA3
        repeat' first | (refine SW.seq_k fun K hK => ?_) | ((first | refine SW.region ?_ | refine SW.cond ?_ | refine SW.skip ?_ | refine Call.of_pure (cc) ?_); try simp only [go_sem, hD, hli, ie, i0, w1, true_implies]) | (apply hK; clear hK K)
        refine Rnd.sub (ta.length - (j + 1)) (by omega) ((hI _ _).2 ⟨j + 1, x2, hh, ms, rfl, by omega, hA2, by rw [hYe]; exact hA3, rfl⟩) (by repeat' (first | exact rfl | exact trivial | constructor))
      | true =>
        rw [Bool.true_and] at hA3
        cases z2 with
        | false =>
          rw [if_neg (by simp), List.nil_append] at hA3
          repeat' first | (refine SW.seq_k fun K hK => ?_) | ((first | refine SW.region ?_ | refine SW.cond ?_ | refine SW.skip ?_ | refine Call.of_pure (cc) ?_ | refine Call.of_pure (ch) ?_); try simp only [go_sem, hD, hli, ie, i0, w1, true_implies]) | (apply hK; clear hK K)
          refine Rnd.sub (ta.length - (j + 1)) (by omega) ((hI _ _).2 ⟨j + 1, x2, hh, ms, rfl, by omega, hA2, by rw [hYe]; exact hA3, rfl⟩) (by repeat' (first | exact rfl | exact trivial | constructor))
        | true =>
          rw [if_pos rfl] at hA3
          have hml : ms.length + 1 ≤ 10000 := by
            rw [hA3] at hAl
            simp only [List.length_append, List.length_map, List.length_cons, List.length_nil] at hAl
            omega
          have hm1 : (ms.length + 1) * 80 ≤ 140737488355328 := by omega
          have hm2 : ms.length + 1 ≤ 140737488355328 := by omega
          have hcs : dCs (ms ++ [(⟨fn, l', tn, r'⟩ : Dp)]) = dCs ms ++ [Str fn, IL l', Str tn, IL r'] := dCs_snoc ms _
          have hcl : (ms ++ [(⟨fn, l', tn, r'⟩ : Dp)]).length = ms.length + 1 := by simp
          have hA3' : A = (ms ++ [(⟨fn, l', tn, r'⟩ : Dp)]) ++ Y.map fun p => (⟨fn, p.1, tn, p.2⟩ : Dp) := by rw [hA3]; simp [mkD]
          repeat' first | ((with_reducible refine appK_acc hA2 ?_ ?_ ?_ ?_ ?_ ?_ hm1 hm2 ?_); (simp [hD]); (rfl); (rfl); (rfl); (exact Nat.succ_pos _); (rfl); (intro x3 b3 blk3 f1 f2 f3 f4 f5 f6 h3 hh3); (obtain ⟨h4, hA4, hle4⟩ := Acc.after f1 f4 f5 f6 hh3); (clear f1 f2 f3 f4 f5 f6 hh3); (try simp only [go_sem, hD])) | (refine SW.seq_k fun K hK => ?_) | ((first | refine SW.region ?_ | refine SW.cond ?_ | refine Call.of_pure (cc) ?_ | refine Call.of_pure (ch) ?_ | (refine allF_i fun b hb => ?_; replace hD := And.intro hb hD; clear hb; try simp only [fresh_cons, fresh_nil, and_true, ne_eq, neF] at hD)); try simp only [go_sem, hD, hli, ie, i0, w1, true_implies]) | (apply hK; clear hK K)
          refine Rnd.le (hle4 _) ?_
          refine Rnd.sub (ta.length - (j + 1)) (by omega) ((hI _ _).2 ⟨j + 1, x3, h4, (ms ++ [(⟨fn, l', tn, r'⟩ : Dp)]), rfl, by omega, by rw [hcs, hcl]; exact hA4, by rw [hYe]; exact hA3', rfl⟩) (by repeat' (first | exact rfl | exact trivial | constructor))
  · have hli : ¬ ((j : Nat) : Int) < (((t.attrs.length) : Nat) : Int) := by omega
    rw [lvB_end (by omega), List.map_nil, List.append_nil] at hA3
    subst hA3
    obtain ⟨fn, fa, frs⟩ := f
    obtain ⟨tn, ta, trs⟩ := t
    simp only at *
    have hD : (0 : Nat) = 0 := rfl
    repeat' first | (refine SW.seq_k fun K hK => ?_) | ((first | refine SW.region ?_ | refine SW.cond ?_ | refine SW.exit ?_); try simp only [go_sem, hD, hli, true_implies]) | (apply hK; clear hK K)
    exact ⟨x2, hh, hA2, St.le_sub (by repeat' (first | exact rfl | exact trivial | constructor))⟩
end Go.Proofs.YtpidncgibgiidaaGreat
