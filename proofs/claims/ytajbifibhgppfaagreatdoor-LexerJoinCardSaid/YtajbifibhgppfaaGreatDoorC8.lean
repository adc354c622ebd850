/- Plain law of tokens: tokens with white space and comments between them; tokens joined. -/
import Derived.Test.YtajbifibhgppfaaGreatDoorM4
import Derived.Test.YtajbifibhgppfaaGreatDoorM3
set_option linter.unusedSimpArgs false
set_option linter.unusedVariables false
set_option linter.unusedSectionVars false
namespace Go.Ab.A05
open Go Go.Ab Go.Ab.A01 Go.Proofs.YtajbifibhgppfaaGreatDoor
/-- A valid token without a position. -/
def Pl (t : Tok) : Prop := vTok t = true ∧ t.line = 0 ∧ t.col = 0
theorem strip_Pl {t : Tok} (h : Pl t) : strip t = t := by
  obtain ⟨k, s, v, ln, cl⟩ := t
  obtain ⟨_, h1, h2⟩ := h
  simp only at h1 h2
  subst h1 h2
  rfl
theorem plain_Pl (l : List Tok) : ∀ t ∈ plainS l, Pl t ∧ ∃ u ∈ l, u.text = t.text ∧ u.val = t.val := by
  intro t ht
  unfold plainS at ht
  obtain ⟨u, hu, rfl⟩ := List.mem_map.1 ht
  obtain ⟨h1, h2⟩ := List.mem_filter.1 hu
  exact ⟨⟨h2, rfl, rfl⟩, u, h1, rfl, rfl⟩
theorem plain_len (l : List Tok) : (plainS l).length ≤ l.length := by
  unfold plainS
  rw [List.length_map]
  exact List.length_filter_le _ _
theorem core_strip (t : Tok) : strip t = ⟨(core t).1, (core t).2.1, (core t).2.2, 0, 0⟩ := rfl
/-- What was read is the list again. -/
theorem plain_of_core {T L : List Tok} (hL : ∀ t ∈ L, Pl t) (h : T.map core = L.map core) : plainS T = L := by
  have hv : ∀ t ∈ T, vTok t = true := fun t ht => by
    have h1 : core t ∈ T.map core := List.mem_map.2 ⟨t, ht, rfl⟩
    rw [h] at h1
    obtain ⟨u, hu, e⟩ := List.mem_map.1 h1
    have h2 := (hL u hu).1
    have e2 : vTok t = vTok u := by
      have a1 : u.kind = t.kind := congrArg (fun x => x.1) e
      have a2 : u.text = t.text := congrArg (fun x => x.2.1) e
      have a3 : u.val = t.val := congrArg (fun x => x.2.2) e
      unfold vTok
      rw [a1, a2, a3]
    rw [e2]; exact h2
  unfold plainS
  rw [List.filter_eq_self.2 hv]
  have e1 : T.map strip = (T.map core).map fun c => (⟨c.1, c.2.1, c.2.2, 0, 0⟩ : Tok) := by rw [List.map_map]; rfl
  have e2 : L.map strip = (L.map core).map fun c => (⟨c.1, c.2.1, c.2.2, 0, 0⟩ : Tok) := by rw [List.map_map]; rfl
  rw [e1, h, ← e2]
  conv => rhs; rw [← List.map_id L]
  exact List.map_congr_left fun t ht => strip_Pl (hL t ht)

/-- The strings that stand between tokens. -/
def spSet : List (List UInt8) := [[32], [10], [9, 32], [35, 32, 34, 120, 10], [10, 35, 10]]
theorem sp_skip : ∀ z ∈ spSet, Skip z := by
  intro z hz
  have w32 : white 32 = true := rfl
  have w10 : white 10 = true := rfl
  have w9 : white 9 = true := rfl
  have s10 : Skip [10] := skip_white w10 skip_nil
  simp only [spSet, List.mem_cons, List.not_mem_nil, or_false] at hz
  rcases hz with rfl | rfl | rfl | rfl | rfl
  · exact skip_white w32 skip_nil
  · exact s10
  · exact skip_white w9 (skip_white w32 skip_nil)
  · exact skip_hash (z' := [32, 34, 120]) (z := []) (by decide) s10
  · exact skip_white w10 (skip_hash (z' := []) (z := []) (by decide) s10)
theorem sp_next (l : List UInt8) : ∀ z ∈ spSet, ∀ c w y, z ++ y = c :: w → nextB l c = false := by
  intro z hz c w y h
  have hc : c = 32 ∨ c = 10 ∨ c = 9 ∨ c = 35 := by
    simp only [spSet, List.mem_cons, List.not_mem_nil, or_false] at hz
    rcases hz with rfl | rfl | rfl | rfl | rfl <;> (injection h with h _; rw [← h]; decide)
  unfold nextB
  split
  · rcases hc with rfl | rfl | rfl | rfl <;> rfl
  · split
    · rcases hc with rfl | rfl | rfl | rfl <;> simp
    · split
      · rfl
      · rcases hc with rfl | rfl | rfl | rfl <;> rfl
/-- Tokens, each followed by one of these. -/
def spL (f : Nat → List UInt8) : List Tok → Nat → List UInt8
  | [], _ => []
  | t :: r, i => t.text.data.toList ++ (f i ++ spL f r (i + 1))
def spI (f : Nat → List UInt8) : List Tok → Nat → List It
  | [], _ => []
  | t :: r, i => ⟨t.text.data.toList, f i, t.kind, t.val⟩ :: spI f r (i + 1)
theorem spI_L (f : Nat → List UInt8) : ∀ (l : List Tok) (i : Nat), itL (spI f l i) = spL f l i
  | [], _ => rfl
  | t :: r, i => by
    show t.text.data.toList ++ (f i ++ itL (spI f r (i + 1))) = _
    rw [spI_L f r (i + 1)]
    rfl
theorem spI_ok (f : Nat → List UInt8) (hf : ∀ i, f i ∈ spSet) : ∀ (l : List Tok) (i : Nat), (∀ t ∈ l, vTok t = true) → ItOk (spI f l i)
  | [], _, _ => trivial
  | t :: r, i, h => by
    have h1 := h t (List.mem_cons_self ..)
    unfold vTok vtok at h1
    exact ⟨of_decide_eq_true h1, sp_skip _ (hf i), fun c w e => sp_next _ _ (hf i) c w _ e, spI_ok f hf r (i + 1) (fun u hu => h u (List.mem_cons_of_mem _ hu))⟩
theorem spI_core (f : Nat → List UInt8) : ∀ (l : List Tok) (i : Nat), (spI f l i).map (fun a => (a.kind, mkB a.text, a.val)) = l.map core
  | [], _ => rfl
  | t :: r, i => by
    show (t.kind, mkB t.text.data.toList, t.val) :: (spI f r (i + 1)).map _ = core t :: r.map core
    rw [spI_core f r (i + 1), mkB_list]
    rfl
/-- **White space and comments between tokens change nothing but positions.** -/
theorem space_law (f : Nat → List UInt8) (hf : ∀ i, f i ∈ spSet) (L : List Tok) (hL : ∀ t ∈ L, Pl t) (hs : (spL f L 0).length ≤ 65536) : ∃ T, tokensS (mkB (spL f L 0)) = (T, 0, 0, 0) ∧ plainS T = L ∧ T.map core = L.map core := by
  obtain ⟨T, h1, h2⟩ := lex_items (spL f L 0).length (spL f L 0) (spI f L 0) 0 [] (by rw [List.drop_zero, spI_L]) (by omega) (spI_ok f hf L 0 fun t ht => (hL t ht).1)
  refine ⟨T, ?_, plain_of_core hL (by rw [h2, spI_core]), by rw [h2, spI_core]⟩
  unfold tokensS
  rw [mkB_size, if_neg (by omega), mkB_L, h1]
  rfl
/-- The texts are those of the list. -/
theorem core_text {T L : List Tok} (h : T.map core = L.map core) : T.length = L.length ∧ ∀ t ∈ T, ∃ u ∈ L, u.text = t.text := by
  refine ⟨by have := congrArg List.length h; rwa [List.length_map, List.length_map] at this, fun t ht => ?_⟩
  have h1 : core t ∈ T.map core := List.mem_map.2 ⟨t, ht, rfl⟩
  rw [h] at h1
  obtain ⟨u, hu, e⟩ := List.mem_map.1 h1
  exact ⟨u, hu, congrArg (fun x => x.2.1) e⟩
theorem spL_len (f : Nat → List UInt8) (hf : ∀ i, (f i).length ≤ 5) : ∀ (l : List Tok) (i : Nat), (∀ t ∈ l, t.text.size ≤ 1000) → (spL f l i).length ≤ 1005 * l.length
  | [], _, _ => Nat.le_refl _
  | t :: r, i, h => by
    have h1 := h t (List.mem_cons_self ..)
    have h2 := spL_len f hf r (i + 1) (fun u hu => h u (List.mem_cons_of_mem _ hu))
    have h3 := hf i
    show (t.text.data.toList ++ (f i ++ spL f r (i + 1))).length ≤ 1005 * (r.length + 1)
    rw [List.length_append, List.length_append, len_list]
    omega
end Go.Ab.A05
