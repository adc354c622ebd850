/- Minimal sets, transversals, keys (plain). -/
import Derived.Test.YtmcmphmhjikgkaaGreatDoorA1
set_option linter.unusedSectionVars false
set_option linter.unusedSimpArgs false
set_option linter.unusedVariables false
namespace Go.Ab.A20
open Go Go.Ab
/-- The number of members, of a small set. -/
def popN (x : Nat) : Nat := x % 2 + x / 2 % 2 + x / 4 % 2 + x / 8 % 2 + x / 16 % 2 + x / 32 % 2
/-- The place in the order. -/
def keyN (x : Nat) : Nat := popN x * 64 + x
theorem keyN_inj {x y : Nat} (hx : x < 64) (hy : y < 64) (h : keyN x = keyN y) : x = y := by
  unfold keyN at h
  omega
theorem keyN_fin : ∀ x y : Fin 64, dif x.val y.val = 0 → keyN x.val ≤ keyN y.val := by decide +kernel
theorem keyN_sb {x y : Nat} (hx : x < 64) (hy : y < 64) (h : Sb x y) : keyN x ≤ keyN y := keyN_fin ⟨x, hx⟩ ⟨y, hy⟩ h
/-- All sets of a list are small. -/
def Sm (l : List Nat) : Prop := ∀ x ∈ l, x < 64
/-- Minimal sets of a list that stands in order. -/
def redL : List Nat → List Nat → List Nat
  | [], out => out
  | e :: r, out => redL r (if out.any (fun f => decide (f &&& e = f)) = true then out else out ++ [e])
/-- No set contains another one. -/
def MinIn (l : List Nat) (x : Nat) : Prop := x ∈ l ∧ ∀ y ∈ l, Sb y x → y = x
structure RInv (l r out : List Nat) : Prop where
  sub : ∀ f ∈ out, f ∈ l
  cov : ∀ p ∈ l, p ∈ r ∨ ∃ f ∈ out, Sb f p
  srt : out.Pairwise fun a b => keyN a < keyN b
  le : ∀ f ∈ out, ∀ e ∈ r, keyN f ≤ keyN e
  anti : ∀ f ∈ out, ∀ g ∈ out, Sb f g → f = g
theorem any_sb {out : List Nat} {e : Nat} : out.any (fun f => decide (f &&& e = f)) = true ↔ ∃ f ∈ out, Sb f e := by
  rw [List.any_eq_true]
  constructor
  · rintro ⟨f, hf, h⟩
    exact ⟨f, hf, dif_zero.2 (of_decide_eq_true h)⟩
  · rintro ⟨f, hf, h⟩
    exact ⟨f, hf, decide_eq_true (dif_zero.1 h)⟩
theorem redL_inv {l : List Nat} (hl : Sm l) : ∀ (r out : List Nat), (∀ e ∈ r, e ∈ l) → r.Pairwise (fun a b => keyN a ≤ keyN b) → RInv l r out → RInv l [] (redL r out)
  | [], out, _, _, h => h
  | e :: r, out, hr, hs, h => by
    have hs2 := List.pairwise_cons.1 hs
    unfold redL
    refine redL_inv hl r _ (fun x hx => hr x (List.mem_cons_of_mem _ hx)) hs2.2 ?_
    have hel := hr e List.mem_cons_self
    split
    · rename_i ha
      obtain ⟨f, hf, hfe⟩ := any_sb.1 ha
      refine ⟨h.sub, fun p hp => ?_, h.srt, fun f hf e' he' => h.le f hf e' (List.mem_cons_of_mem _ he'), h.anti⟩
      rcases h.cov p hp with h1 | h1
      · rcases List.mem_cons.1 h1 with rfl | h1
        · exact .inr ⟨f, hf, hfe⟩
        · exact .inl h1
      · exact .inr h1
    · rename_i ha
      have hna : ∀ f ∈ out, ¬ Sb f e := fun f hf hfe => ha (any_sb.2 ⟨f, hf, hfe⟩)
      have hlt : ∀ f ∈ out, keyN f < keyN e := fun f hf => by
        have h1 := h.le f hf e List.mem_cons_self
        rcases Nat.lt_or_eq_of_le h1 with h2 | h2
        · exact h2
        · exact absurd (keyN_inj (hl f (h.sub f hf)) (hl e hel) h2 ▸ sb_refl _) (hna f hf)
      refine ⟨fun f hf => ?_, fun p hp => ?_, ?_, fun f hf e' he' => ?_, fun f hf g hg hfg => ?_⟩
      · rcases List.mem_append.1 hf with hf | hf
        · exact h.sub f hf
        · rw [List.mem_singleton.1 hf]; exact hel
      · rcases h.cov p hp with h1 | ⟨f, hf, hfp⟩
        · rcases List.mem_cons.1 h1 with rfl | h1
          · exact .inr ⟨p, List.mem_append_right _ (List.mem_singleton.2 rfl), sb_refl _⟩
          · exact .inl h1
        · exact .inr ⟨f, List.mem_append_left _ hf, hfp⟩
      · rw [List.pairwise_append]
        exact ⟨h.srt, List.pairwise_singleton _ _, fun a ha b hb => by rw [List.mem_singleton.1 hb]; exact hlt a ha⟩
      · rcases List.mem_append.1 hf with hf | hf
        · exact h.le f hf e' (List.mem_cons_of_mem _ he')
        · rw [List.mem_singleton.1 hf]; exact hs2.1 e' he'
      · rcases List.mem_append.1 hf with hf1 | hf1 <;> rcases List.mem_append.1 hg with hg1 | hg1
        · exact h.anti f hf1 g hg1 hfg
        · rw [List.mem_singleton] at hg1; subst hg1; exact absurd hfg (hna f hf1)
        · rw [List.mem_singleton] at hf1; subst hf1
          have h1 := hlt g hg1
          have h2 := keyN_sb (hl f hel) (hl g (h.sub g hg1)) hfg
          omega
        · rw [List.mem_singleton] at hf1 hg1; rw [hf1, hg1]
theorem redL_ok {l : List Nat} (hl : Sm l) (s : List Nat) (hp : ∀ x, x ∈ s ↔ x ∈ l) (hs : s.Pairwise fun a b => keyN a ≤ keyN b) : RInv l [] (redL s []) :=
  redL_inv hl s [] (fun e he => (hp e).1 he) hs ⟨fun f hf => (by cases hf), fun p hp' => .inl ((hp p).2 hp'), .nil, fun f hf => (by cases hf), fun f hf => (by cases hf)⟩
theorem mem_red {l out : List Nat} (h : RInv l [] out) (x : Nat) : x ∈ out ↔ MinIn l x := by
  have cov : ∀ p ∈ l, ∃ f ∈ out, Sb f p := fun p hp => (h.cov p hp).elim (fun x => by cases x) id
  constructor
  · intro hx
    refine ⟨h.sub x hx, fun y hy hyx => ?_⟩
    obtain ⟨f, hf, hfy⟩ := cov y hy
    have : f = x := h.anti f hf x hx (sb_trans hfy hyx)
    subst this
    exact sb_eq hyx hfy
  · intro ⟨hx, hm⟩
    obtain ⟨f, hf, hfx⟩ := cov x hx
    rw [← hm f (h.sub f hf) hfx]
    exact hf
/-- A list in order is told by its members. -/
theorem srt_eq {l m : List Nat} (hl : l.Pairwise fun a b => keyN a < keyN b) (hm : m.Pairwise fun a b => keyN a < keyN b) (h : ∀ x, x ∈ l ↔ x ∈ m) : l = m := by
  induction l generalizing m with
  | nil =>
    cases m with
    | nil => rfl
    | cons b m => exact absurd ((h b).2 List.mem_cons_self) (by simp)
  | cons a l ih =>
    cases m with
    | nil => exact absurd ((h a).1 List.mem_cons_self) (by simp)
    | cons b m =>
      have h1 := List.pairwise_cons.1 hl
      have h2 := List.pairwise_cons.1 hm
      have hab : a = b := by
        rcases List.mem_cons.1 ((h a).1 List.mem_cons_self) with e | e
        · exact e
        · rcases List.mem_cons.1 ((h b).2 List.mem_cons_self) with e2 | e2
          · exact e2.symm
          · have := h1.1 b e2
            have := h2.1 a e
            omega
      subst hab
      rw [ih h1.2 h2.2 fun x => ?_]
      constructor
      · intro hx
        rcases List.mem_cons.1 ((h x).1 (List.mem_cons_of_mem _ hx)) with e | e
        · subst e; have := h1.1 _ hx; omega
        · exact e
      · intro hx
        rcases List.mem_cons.1 ((h x).2 (List.mem_cons_of_mem _ hx)) with e | e
        · subst e; have := h2.1 _ hx; omega
        · exact e
/-- A set meets all edges. -/
def Tr (E : List Nat) (t : Nat) : Prop := ∀ e ∈ E, e &&& t ≠ 0
/-- A minimal transversal. -/
def MinTr (E : List Nat) (t : Nat) : Prop := Tr E t ∧ ∀ u, Sb u t → Tr E u → u = t
theorem meet_mono {e t u : Nat} (h : Sb t u) (ht : e &&& t ≠ 0) : e &&& u ≠ 0 := by
  intro h0
  apply ht
  refine Nat.eq_of_testBit_eq fun i => ?_
  have := congrArg (fun x => x.testBit i) h0
  simp only [Nat.testBit_and, Nat.zero_testBit] at this ⊢
  cases he : e.testBit i
  · rfl
  · cases ht2 : t.testBit i
    · rfl
    · rw [he, sb_bit.1 h i ht2] at this
      exact this
theorem tr_mono {E : List Nat} {t u : Nat} (h : Sb t u) (ht : Tr E t) : Tr E u := fun e he => meet_mono h (ht e he)
theorem min_tr {E : List Nat} : ∀ (t : Nat), Tr E t → ∃ u, Sb u t ∧ MinTr E u := by
  intro t
  induction t using Nat.strongRecOn with
  | ind t ih =>
    intro ht
    by_cases h : ∃ u, Sb u t ∧ Tr E u ∧ u ≠ t
    · obtain ⟨u, h1, h2, h3⟩ := h
      obtain ⟨v, h4, h5⟩ := ih u (Nat.lt_of_le_of_ne (sb_le h1) h3) h2
      exact ⟨v, sb_trans h4 h1, h5⟩
    · exact ⟨t, sb_refl t, ht, fun u h1 h2 => Classical.byContradiction fun h3 => h ⟨u, h1, h2, h3⟩⟩
/-- The members of a set, one by one. -/
def bitsL (e : Nat) : List Nat := ((List.range 6).filter fun i => e.testBit i).map fun i => 2 ^ i
/-- Transversals of one edge more. -/
def stepF (l : List Nat) (e : Nat) : List Nat := l.flatMap fun s => if s &&& e = 0 then (bitsL e).map fun b => s ||| b else [s]
theorem mem_bitsL {e b : Nat} : b ∈ bitsL e ↔ ∃ i, i < 6 ∧ e.testBit i = true ∧ b = 2 ^ i := by
  unfold bitsL
  simp only [List.mem_map, List.mem_filter, List.mem_range]
  constructor
  · rintro ⟨i, ⟨h1, h2⟩, h3⟩; exact ⟨i, h1, h2, h3.symm⟩
  · rintro ⟨i, h1, h2, h3⟩; exact ⟨i, ⟨h1, h2⟩, h3.symm⟩
theorem bit_sb {i t : Nat} : Sb (2 ^ i) t ↔ t.testBit i = true := by
  rw [sb_bit]
  constructor
  · intro h; exact h i (by rw [Nat.testBit_two_pow]; simp)
  · intro h j hj
    rw [Nat.testBit_two_pow] at hj
    have : i = j := of_decide_eq_true hj
    rw [← this]; exact h
theorem meet_bit {e t : Nat} : e &&& t ≠ 0 ↔ ∃ i, e.testBit i = true ∧ t.testBit i = true := by
  constructor
  · intro h
    apply Classical.byContradiction
    intro hn
    apply h
    refine Nat.eq_of_testBit_eq fun i => ?_
    rw [Nat.testBit_and, Nat.zero_testBit]
    cases he : e.testBit i
    · rfl
    · cases ht : t.testBit i
      · rfl
      · exact absurd ⟨i, he, ht⟩ hn
  · rintro ⟨i, h1, h2⟩ h0
    have := congrArg (fun x => x.testBit i) h0
    simp only [Nat.testBit_and, Nat.zero_testBit, h1, h2] at this
    simp at this
theorem bit64 {e i : Nat} (he : e < 64) (h : e.testBit i = true) : i < 6 := by
  apply Classical.byContradiction
  intro hn
  have : e < 2 ^ i := Nat.lt_of_lt_of_le he (show 2 ^ 6 ≤ 2 ^ i from Nat.pow_le_pow_right (by omega) (by omega))
  rw [Nat.testBit_lt_two_pow this] at h
  cases h
theorem or64 {a b : Nat} (ha : a < 64) (hb : b < 64) : a ||| b < 64 := Nat.or_lt_two_pow (n := 6) ha hb
theorem stepF_sm {l : List Nat} {e : Nat} (hl : Sm l) : Sm (stepF l e) := fun x hx => by
  obtain ⟨s, hs, hx⟩ := List.mem_flatMap.1 hx
  split at hx
  · obtain ⟨b, hb, rfl⟩ := List.mem_map.1 hx
    obtain ⟨i, hi, _, rfl⟩ := mem_bitsL.1 hb
    exact or64 (hl s hs) (show 2 ^ i < 2 ^ 6 from Nat.pow_lt_pow_right (by omega) hi)
  · rw [List.mem_singleton.1 hx]; exact hl s hs
/-- One edge more: the minimal ones are the minimal transversals. -/
theorem stepF_min {E l : List Nat} {e : Nat} (he : e < 64) (hl : ∀ t, t ∈ l ↔ MinTr E t) (t : Nat) : MinIn (stepF l e) t ↔ MinTr (e :: E) t := by
  have hA : ∀ n ∈ stepF l e, Tr (e :: E) n := fun n hn => by
    obtain ⟨s, hs, hn⟩ := List.mem_flatMap.1 hn
    have hsT := ((hl s).1 hs).1
    split at hn
    · obtain ⟨b, hb, rfl⟩ := List.mem_map.1 hn
      obtain ⟨i, _, hi, rfl⟩ := mem_bitsL.1 hb
      intro x hx
      rcases List.mem_cons.1 hx with rfl | hx
      · exact meet_bit.2 ⟨i, hi, by rw [Nat.testBit_or, Nat.testBit_two_pow]; simp⟩
      · exact meet_mono (sb_l s _) (hsT x hx)
    · rename_i h0
      rw [List.mem_singleton.1 hn]
      intro x hx
      rcases List.mem_cons.1 hx with rfl | hx
      · rw [Nat.and_comm]; exact h0
      · exact hsT x hx
  have hB : ∀ t, Tr (e :: E) t → ∃ n ∈ stepF l e, Sb n t := fun t ht => by
    obtain ⟨s, hst, hs⟩ := min_tr (E := E) t (fun x hx => ht x (List.mem_cons_of_mem _ hx))
    by_cases h0 : s &&& e = 0
    · obtain ⟨i, h1, h2⟩ := meet_bit.1 (ht e List.mem_cons_self)
      refine ⟨s ||| 2 ^ i, List.mem_flatMap.2 ⟨s, (hl s).2 hs, ?_⟩, sb_or.2 ⟨hst, bit_sb.2 h2⟩⟩
      rw [if_pos h0]
      exact List.mem_map.2 ⟨_, mem_bitsL.2 ⟨i, bit64 he h1, h1, rfl⟩, rfl⟩
    · refine ⟨s, List.mem_flatMap.2 ⟨s, (hl s).2 hs, ?_⟩, hst⟩
      rw [if_neg h0]
      exact List.mem_singleton.2 rfl
  constructor
  · intro ⟨h1, h2⟩
    refine ⟨hA t h1, fun u hu hT => ?_⟩
    obtain ⟨n, hn, hnu⟩ := hB u hT
    have := h2 n hn (sb_trans hnu hu)
    subst this
    exact sb_eq hu hnu
  · intro ⟨h1, h2⟩
    obtain ⟨n, hn, hnt⟩ := hB t h1
    have := h2 n hnt (hA n hn)
    subst this
    exact ⟨hn, fun y hy hyt => h2 y hyt (hA y hy)⟩
/-- Minimal edges suffice. -/
theorem tr_red {E F : List Nat} (hF : ∀ x, x ∈ F ↔ MinIn E x) (hE : Sm E) (t : Nat) : Tr F t ↔ Tr E t := by
  constructor
  · intro h e he
    have : ∀ e, e ∈ E → ∃ f, MinIn E f ∧ Sb f e := by
      intro e
      induction e using Nat.strongRecOn with
      | ind e ih =>
        intro he
        by_cases h : ∃ y ∈ E, Sb y e ∧ y ≠ e
        · obtain ⟨y, h1, h2, h3⟩ := h
          obtain ⟨f, h4, h5⟩ := ih y (Nat.lt_of_le_of_ne (sb_le h2) h3) h1
          exact ⟨f, h4, sb_trans h5 h2⟩
        · exact ⟨e, ⟨he, fun y hy hye => Classical.byContradiction fun hn => h ⟨y, hy, hye, hn⟩⟩, sb_refl e⟩
    obtain ⟨f, hf, hfe⟩ := this e he
    have h1 := h f ((hF f).2 hf)
    rw [Nat.and_comm] at h1 ⊢
    exact meet_mono hfe h1
  · intro h e he
    exact h e ((hF e).1 he).1
theorem minTr_congr {E F : List Nat} (h : ∀ t, Tr F t ↔ Tr E t) (t : Nat) : MinTr F t ↔ MinTr E t := by
  unfold MinTr
  rw [h]
  constructor
  · exact fun ⟨a, b⟩ => ⟨a, fun u hu hT => b u hu ((h u).2 hT)⟩
  · exact fun ⟨a, b⟩ => ⟨a, fun u hu hT => b u hu ((h u).1 hT)⟩
end Go.Ab.A20
