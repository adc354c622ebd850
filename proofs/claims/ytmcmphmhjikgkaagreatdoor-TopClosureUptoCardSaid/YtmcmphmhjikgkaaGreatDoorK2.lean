/- Keys are the minimal transversals of the complements of the antikeys (plain). -/
import Derived.Test.YtmcmphmhjikgkaaGreatDoorK1
set_option linter.unusedSectionVars false
set_option linter.unusedSimpArgs false
set_option linter.unusedVariables false
namespace Go.Ab.A20
open Go Go.Ab
/-- The universe. -/
abbrev fullN (n : Nat) : Nat := 2 ^ n - 1
theorem full_bit (n i : Nat) : (fullN n).testBit i = decide (i < n) := Nat.testBit_two_pow_sub_one ..
theorem sb_full {n t : Nat} : Sb t (fullN n) ↔ t < 2 ^ n := by
  constructor
  · intro h
    have := sb_le h
    have := Nat.two_pow_pos n
    unfold fullN at *
    omega
  · intro h
    rw [sb_bit]
    intro i hi
    rw [full_bit, decide_eq_true_eq]
    apply Classical.byContradiction
    intro hn
    have : t < 2 ^ i := Nat.lt_of_lt_of_le h (Nat.pow_le_pow_right (by omega) (by omega))
    rw [Nat.testBit_lt_two_pow this] at hi
    cases hi
/-- Whether a set determines everything. -/
def sup (n : Nat) (l : List D2) (s : Nat) : Bool := decide (cl l s = fullN n)
/-- Which subsets of the universe do. -/
def supS (n : Nat) (l : List D2) : List Bool := (List.range (2 ^ n)).map fun s => sup n l s
/-- The list is one of dependencies of the universe. -/
def In2 (n : Nat) (l : List D2) : Prop := ∀ d ∈ l, d.1 < 2 ^ n ∧ d.2 < 2 ^ n
theorem in2_ok {n : Nat} {l : List D2} (hn : n ≤ 31) (h : In2 n l) : Ok2 l := fun d hd => by
  have := h d hd
  have : 2 ^ n ≤ 2 ^ 31 := Nat.pow_le_pow_right (by omega) hn
  omega
theorem or_n {n a b : Nat} (ha : a < 2 ^ n) (hb : b < 2 ^ n) : a ||| b < 2 ^ n := Nat.or_lt_two_pow ha hb
theorem cl_n {n : Nat} {l : List D2} (h : In2 n l) {s : Nat} (hs : s < 2 ^ n) : cl l s < 2 ^ n := by
  rw [← sb_full] at hs ⊢
  exact cl_min (fun d hd _ => sb_full.2 (h d hd).2) hs
/-- More attributes determine as much. -/
theorem cl_mono {n : Nat} (hn : n ≤ 31) {l : List D2} (h : In2 n l) {s t : Nat} (hst : Sb s t) (ht : t < 2 ^ n) : Sb (cl l s) (cl l t) := by
  have : 2 ^ n ≤ 2 ^ 31 := Nat.pow_le_pow_right (by omega) hn
  exact cl_min (cl_clo (in2_ok hn h) (by omega)) (sb_trans hst (cl_sb l t))
theorem sup_mono {n : Nat} (hn : n ≤ 31) {l : List D2} (h : In2 n l) {s t : Nat} (hst : Sb s t) (ht : t < 2 ^ n) (hs : sup n l s = true) : sup n l t = true := by
  unfold sup at *
  rw [decide_eq_true_eq] at *
  have h1 := cl_mono hn h hst ht
  rw [hs] at h1
  exact sb_eq (sb_full.2 (cl_n h ht)) h1
/-- A set with one attribute more or less. -/
abbrev flip (s a : Nat) : Nat := s ^^^ 2 ^ a
theorem flip_bit (s a i : Nat) : (flip s a).testBit i = (s.testBit i ^^ decide (a = i)) := by rw [Nat.testBit_xor, Nat.testBit_two_pow]
theorem flip_n {n s a : Nat} (hs : s < 2 ^ n) (ha : a < n) : flip s a < 2 ^ n := Nat.xor_lt_two_pow hs (Nat.pow_lt_pow_right (by omega) ha)
/-- A set that nothing can be taken from (added to). -/
def extB (n : Nat) (L : List Bool) (want : Bool) (s : Nat) : Bool :=
  (L.getD s false == want) && (List.range n).all fun a => !((decide (flip s a < s) == want) && (L.getD (flip s a) false == want))
def extF (n : Nat) (L : List Bool) (want : Bool) : List Nat := (List.range L.length).filter fun s => extB n L want s
theorem supS_len (n : Nat) (l : List D2) : (supS n l).length = 2 ^ n := by unfold supS; simp
theorem supS_at {n : Nat} {l : List D2} {s : Nat} (hs : s < 2 ^ n) : (supS n l).getD s false = sup n l s := by
  unfold supS
  simp [List.getD_eq_getElem?_getD, hs]
theorem flip_lt {s a : Nat} : flip s a < s ↔ s.testBit a = true := by
  constructor
  · intro h
    apply Classical.byContradiction
    intro hn
    have hn : s.testBit a = false := by simpa using hn
    have : Sb s (flip s a) := sb_bit.2 fun i hi => by
      rw [flip_bit, hi]
      by_cases e : a = i
      · subst e; rw [hn] at hi; cases hi
      · simp [e]
    have := sb_le this
    omega
  · intro h
    have h1 : Sb (flip s a) s := sb_bit.2 fun i hi => by
      rw [flip_bit] at hi
      by_cases e : a = i
      · subst e; exact h
      · simpa [e] using hi
    rcases Nat.lt_or_eq_of_le (sb_le h1) with h2 | h2
    · exact h2
    · have := congrArg (fun x => x.testBit a) h2
      simp only [flip_bit, h] at this
      simp at this
theorem flip_sb {s a : Nat} (h : s.testBit a = true) : Sb (flip s a) s := sb_bit.2 fun i hi => by
  rw [flip_bit] at hi
  by_cases e : a = i
  · subst e; exact h
  · simpa [e] using hi
theorem sb_flip {s a : Nat} (h : s.testBit a = false) : Sb s (flip s a) := sb_bit.2 fun i hi => by
  rw [flip_bit, hi]
  by_cases e : a = i
  · subst e; rw [h] at hi; cases hi
  · simp [e]
/-- A part that lacks something lies in the set without one attribute. -/
theorem sb_ne {u k : Nat} (h : Sb u k) (hne : u ≠ k) : ∃ a, k.testBit a = true ∧ Sb u (flip k a) := by
  apply Classical.byContradiction
  intro hn
  apply hne
  refine sb_eq h (sb_bit.2 fun i hi => ?_)
  apply Classical.byContradiction
  intro hu
  refine hn ⟨i, hi, sb_bit.2 fun j hj => ?_⟩
  rw [flip_bit, sb_bit.1 h j hj]
  by_cases e : i = j
  · subst e; exact absurd hj hu
  · simp [e]
theorem ne_sb {m u : Nat} (h : Sb m u) (hne : m ≠ u) : ∃ a, m.testBit a = false ∧ u.testBit a = true ∧ Sb (flip m a) u := by
  apply Classical.byContradiction
  intro hn
  apply hne
  refine sb_eq h (sb_bit.2 fun i hi => ?_)
  apply Classical.byContradiction
  intro hu
  refine hn ⟨i, by simpa using hu, hi, sb_bit.2 fun j hj => ?_⟩
  rw [flip_bit] at hj
  by_cases e : i = j
  · subst e; exact hi
  · exact sb_bit.1 h j (by simpa [e] using hj)
theorem lt_of_bit {n s a : Nat} (hs : s < 2 ^ n) (h : s.testBit a = true) : a < n := by
  apply Classical.byContradiction
  intro hn
  have : s < 2 ^ a := Nat.lt_of_lt_of_le hs (Nat.pow_le_pow_right (by omega) (by omega))
  rw [Nat.testBit_lt_two_pow this] at h
  cases h
/-- A key. -/
def IsKey (n : Nat) (l : List D2) (k : Nat) : Prop := k < 2 ^ n ∧ sup n l k = true ∧ ∀ a, k.testBit a = true → sup n l (flip k a) = false
/-- An antikey. -/
def IsAnti (n : Nat) (l : List D2) (m : Nat) : Prop := m < 2 ^ n ∧ sup n l m = false ∧ ∀ a, a < n → m.testBit a = false → sup n l (flip m a) = true
theorem ext_key {n : Nat} {l : List D2} (k : Nat) : k ∈ extF n (supS n l) true ↔ IsKey n l k := by
  unfold extF extB IsKey
  rw [List.mem_filter, List.mem_range, supS_len, Bool.and_eq_true, List.all_eq_true]
  constructor
  · rintro ⟨h1, h2, h3⟩
    rw [supS_at h1] at h2
    refine ⟨h1, by simpa using h2, fun a ha => ?_⟩
    have han := lt_of_bit h1 ha
    have := h3 a (List.mem_range.2 han)
    rw [supS_at (flip_n h1 han), decide_eq_true (flip_lt.2 ha)] at this
    simpa using this
  · rintro ⟨h1, h2, h3⟩
    refine ⟨h1, by rw [supS_at h1, h2]; rfl, fun a ha => ?_⟩
    have han := List.mem_range.1 ha
    rw [supS_at (flip_n h1 han)]
    by_cases hb : k.testBit a = true
    · rw [h3 a hb]; simp
    · rw [decide_eq_false (fun h => hb (flip_lt.1 h))]; rfl
theorem ext_anti {n : Nat} {l : List D2} (m : Nat) : m ∈ extF n (supS n l) false ↔ IsAnti n l m := by
  unfold extF extB IsAnti
  rw [List.mem_filter, List.mem_range, supS_len, Bool.and_eq_true, List.all_eq_true]
  constructor
  · rintro ⟨h1, h2, h3⟩
    rw [supS_at h1] at h2
    refine ⟨h1, by simpa using h2, fun a han ha => ?_⟩
    have := h3 a (List.mem_range.2 han)
    rw [supS_at (flip_n h1 han), decide_eq_false (fun h => by rw [flip_lt.1 h] at ha; cases ha)] at this
    simpa using this
  · rintro ⟨h1, h2, h3⟩
    refine ⟨h1, by rw [supS_at h1, h2]; rfl, fun a ha => ?_⟩
    have han := List.mem_range.1 ha
    rw [supS_at (flip_n h1 han)]
    cases hb : m.testBit a
    · rw [h3 a han hb]; simp
    · rw [decide_eq_true (flip_lt.2 hb)]; rfl
/-- What is not a superkey lies in an antikey. -/
theorem in_anti {n : Nat} (hn : n ≤ 31) {l : List D2} (h : In2 n l) : ∀ (g t : Nat), 2 ^ n ≤ g + t → t < 2 ^ n → sup n l t = false → ∃ m, IsAnti n l m ∧ Sb t m
  | 0, t, hg, ht, hs => by omega
  | g + 1, t, hg, ht, hs => by
    by_cases hm : IsAnti n l t
    · exact ⟨t, hm, sb_refl t⟩
    · have : ∃ a, a < n ∧ t.testBit a = false ∧ sup n l (flip t a) = false := by
        apply Classical.byContradiction
        intro hx
        refine hm ⟨ht, hs, fun a ha hb => ?_⟩
        apply Classical.byContradiction
        intro hc
        exact hx ⟨a, ha, hb, by simpa using hc⟩
      obtain ⟨a, ha, hb, hc⟩ := this
      have h1 := sb_flip hb
      have h2 : t < flip t a := by
        rcases Nat.lt_or_eq_of_le (sb_le h1) with h3 | h3
        · exact h3
        · have := congrArg (fun x => x.testBit a) h3
          simp only [flip_bit, hb] at this
          simp at this
      obtain ⟨m, h3, h4⟩ := in_anti hn h g (flip t a) (by omega) (flip_n ht ha) hc
      exact ⟨m, h3, sb_trans h1 h4⟩
/-- The edges: complements of antikeys. -/
def edgeS (n : Nat) (A : List Nat) : List Nat := A.map fun m => dif (fullN n) m
theorem tr_sup {n : Nat} (hn : n ≤ 31) {l : List D2} (h : In2 n l) {A : List Nat} (hA : ∀ m, m ∈ A ↔ IsAnti n l m) {t : Nat} (ht : t < 2 ^ n) : Tr (edgeS n A) t ↔ sup n l t = true := by
  constructor
  · intro hT
    apply Classical.byContradiction
    intro hs
    obtain ⟨m, h1, h2⟩ := in_anti hn h (2 ^ n) t (by omega) ht (by simpa using hs)
    obtain ⟨i, h3, h4⟩ := meet_bit.1 (hT (dif (fullN n) m) (List.mem_map.2 ⟨m, (hA m).2 h1, rfl⟩))
    rw [dif_bit, Bool.and_eq_true, Bool.not_eq_true'] at h3
    rw [sb_bit.1 h2 i h4] at h3
    cases h3.2
  · intro hs e he
    obtain ⟨m, hm, rfl⟩ := List.mem_map.1 he
    have h1 := (hA m).1 hm
    apply Classical.byContradiction
    intro h0
    have h0 : dif (fullN n) m &&& t = 0 := by simpa using h0
    have h2 : Sb t m := sb_bit.2 fun i hi => by
      have := congrArg (fun x => x.testBit i) h0
      simp only [Nat.testBit_and, dif_bit, full_bit, hi, Nat.zero_testBit, decide_eq_true (lt_of_bit ht hi)] at this
      simpa using this
    have h3 := sup_mono hn h h2 h1.1 hs
    rw [h1.2.1] at h3
    cases h3
theorem edge_n {n : Nat} {A : List Nat} : ∀ e ∈ edgeS n A, e < 2 ^ n := fun e he => by
  obtain ⟨m, hm, rfl⟩ := List.mem_map.1 he
  rw [← sb_full]
  exact sb_bit.2 fun i hi => by
    rw [dif_bit, Bool.and_eq_true] at hi
    exact hi.1
/-- The keys are the minimal transversals. -/
theorem key_tr {n : Nat} (hn : n ≤ 31) {l : List D2} (h : In2 n l) {A : List Nat} (hA : ∀ m, m ∈ A ↔ IsAnti n l m) (k : Nat) : IsKey n l k ↔ MinTr (edgeS n A) k := by
  constructor
  · rintro ⟨h1, h2, h3⟩
    refine ⟨(tr_sup hn h hA h1).2 h2, fun u hu hT => ?_⟩
    apply Classical.byContradiction
    intro hne
    obtain ⟨a, h4, h5⟩ := sb_ne hu hne
    have h6 := Nat.lt_of_le_of_lt (sb_le hu) h1
    have h7 := sup_mono hn h h5 (flip_n h1 (lt_of_bit h1 h4)) ((tr_sup hn h hA h6).1 hT)
    rw [h3 a h4] at h7
    cases h7
  · rintro ⟨h1, h2⟩
    have hk : k < 2 ^ n := by
      have h3 : Sb (k &&& fullN n) k := sb_bit.2 fun i hi => by
        rw [Nat.testBit_and, Bool.and_eq_true] at hi
        exact hi.1
      have h4 : Tr (edgeS n A) (k &&& fullN n) := fun e he => by
        obtain ⟨i, h5, h6⟩ := meet_bit.1 (h1 e he)
        refine meet_bit.2 ⟨i, h5, ?_⟩
        rw [Nat.testBit_and, h6, full_bit, decide_eq_true (lt_of_bit (edge_n e he) h5)]
        rfl
      rw [← h2 _ h3 h4, ← sb_full]
      exact sb_bit.2 fun i hi => by
        rw [Nat.testBit_and, Bool.and_eq_true] at hi
        exact hi.2
    refine ⟨hk, (tr_sup hn h hA hk).1 h1, fun a ha => ?_⟩
    apply Classical.byContradiction
    intro hs
    have h3 := flip_n hk (lt_of_bit hk ha)
    have h4 := h2 _ (flip_sb ha) ((tr_sup hn h hA h3).2 (by simpa using hs))
    have := flip_lt.2 ha
    omega
end Go.Ab.A20
