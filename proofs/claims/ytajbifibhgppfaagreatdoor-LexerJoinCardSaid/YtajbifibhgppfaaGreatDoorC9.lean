/- Plain law of tokens: tokens joined. -/
import Derived.Test.YtajbifibhgppfaaGreatDoorC8
set_option linter.unusedSimpArgs false
set_option linter.unusedVariables false
set_option linter.unusedSectionVars false
namespace Go.Ab.A05
open Go Go.Ab Go.Ab.A01 Go.Proofs.YtajbifibhgppfaaGreatDoor
/-- The tokens behind a token. -/
def jl : Option Tok → List Tok → List UInt8
  | _, [] => []
  | p, t :: r => sepS p t ++ (t.text.data.toList ++ jl (some t) r)
/-- The reference's words. -/
def sepQ : Option Tok → Tok → List UInt8
  | .none, _ => []
  | some a, t => if spaceS a.text.data.toList t.text.data.toList = true then [32] else []
def jq : Option Tok → List Tok → List UInt8
  | _, [] => []
  | p, t :: r => sepQ p t ++ (t.text.data.toList ++ jq (some t) r)
theorem joinR_jl : ∀ (l : List Tok) (acc : List UInt8) (p q : Option Tok), q = p.map strip → joinR l acc p = acc ++ jl q (plainS l)
  | [], acc, p, q, _ => (List.append_nil _).symm
  | t :: r, acc, p, q, h => by
    rw [joinR]
    by_cases hv : vTok t = true
    · rw [if_pos hv, joinR_jl r _ (some t) (some (strip t)) rfl]
      have e : plainS (t :: r) = strip t :: plainS r := by unfold plainS; rw [List.filter_cons, if_pos hv]; rfl
      have e2 : sepS q (strip t) = sepS p t := by subst h; cases p <;> rfl
      rw [e]
      show _ = acc ++ (sepS q (strip t) ++ (t.text.data.toList ++ jl (some (strip t)) (plainS r)))
      rw [e2]
      simp only [List.append_assoc]
    · rw [if_neg hv, joinR_jl r _ p q h]
      have e : plainS (t :: r) = plainS r := by unfold plainS; rw [List.filter_cons, if_neg hv]
      rw [e]
theorem join_jl (l : List Tok) : joinS l = jl .none (plainS l) := joinR_jl l [] .none .none rfl
theorem sepQ_S {p : Option Tok} {t : Tok} (hp : ∀ a, p = some a → vTok a = true ∧ a.text.size ≤ 1000) (ht : vTok t = true ∧ t.text.size ≤ 1000) : sepQ p t = sepS p t := by
  cases p with
  | none => rfl
  | some a =>
    obtain ⟨h1, h2⟩ := hp a rfl
    have a1 : tokenS a.text.data.toList = some (a.kind, a.val) := by unfold vTok vtok at h1; exact of_decide_eq_true h1
    have a2 : tokenS t.text.data.toList = some (t.kind, t.val) := by have := ht.1; unfold vTok vtok at this; exact of_decide_eq_true this
    have e := space_glue a1 a2 (by rw [len_list, len_list]; omega)
    show (if spaceS _ _ = true then [32] else []) = if glueT a t = true then [32] else []
    rw [e]
    rfl
theorem jq_jl : ∀ (l : List Tok) (p : Option Tok), (∀ a, p = some a → vTok a = true ∧ a.text.size ≤ 1000) → (∀ t ∈ l, vTok t = true ∧ t.text.size ≤ 1000) → jq p l = jl p l
  | [], _, _, _ => rfl
  | t :: r, p, hp, h => by
    have ht := h t (List.mem_cons_self ..)
    show sepQ p t ++ (t.text.data.toList ++ jq (some t) r) = sepS p t ++ (t.text.data.toList ++ jl (some t) r)
    rw [sepQ_S hp ht, jq_jl r (some t) (fun a e => by cases e; exact ht) (fun u hu => h u (List.mem_cons_of_mem _ hu))]
/-- What stands behind a token. -/
def nsep (t : Tok) : List Tok → List UInt8
  | [] => []
  | u :: _ => sepS (some t) u
def jI : List Tok → List It
  | [] => []
  | t :: r => ⟨t.text.data.toList, nsep t r, t.kind, t.val⟩ :: jI r
theorem jl_some : ∀ (l : List Tok) (t : Tok), jl (some t) l = nsep t l ++ itL (jI l)
  | [], _ => rfl
  | u :: r, t => by
    show sepS (some t) u ++ (u.text.data.toList ++ jl (some u) r) = sepS (some t) u ++ (u.text.data.toList ++ (nsep u r ++ itL (jI r)))
    rw [jl_some r u]
theorem jl_none (l : List Tok) : jl .none l = itL (jI l) := by
  cases l with
  | nil => rfl
  | cons t r =>
    show [] ++ (t.text.data.toList ++ jl (some t) r) = t.text.data.toList ++ (nsep t r ++ itL (jI r))
    rw [jl_some r t]
    rfl
theorem jI_core : ∀ (l : List Tok), (jI l).map (fun a => (a.kind, mkB a.text, a.val)) = l.map core
  | [] => rfl
  | t :: r => by
    show (t.kind, mkB t.text.data.toList, t.val) :: (jI r).map _ = core t :: r.map core
    rw [jI_core r, mkB_list]
    rfl
theorem jI_ok : ∀ (l : List Tok), (∀ t ∈ l, vTok t = true) → ItOk (jI l)
  | [], _ => trivial
  | t :: r, h => by
    have h1 := h t (List.mem_cons_self ..)
    unfold vTok vtok at h1
    have h1 := of_decide_eq_true h1
    refine ⟨h1, ?_, ?_, jI_ok r (fun u hu => h u (List.mem_cons_of_mem _ hu))⟩
    · show Skip (nsep t r)
      cases r with
      | nil => exact skip_nil
      | cons u r =>
        show Skip (if glueT t u = true then [32] else [])
        split
        · exact skip_white rfl skip_nil
        · exact skip_nil
    · cases r with
      | nil =>
        intro c w e
        cases e
      | cons u r =>
        have h2 := h u (List.mem_cons_of_mem _ (List.mem_cons_self ..))
        unfold vTok vtok at h2
        have h2 := of_decide_eq_true h2
        intro c w e
        have e' : (if glueT t u = true then [32] else []) ++ (u.text.data.toList ++ (nsep u r ++ itL (jI r))) = c :: w := e
        show nextB t.text.data.toList c = false
        by_cases hg : glueT t u = true
        · rw [if_pos hg] at e'
          exact sp_next _ [32] (by decide) c w _ e'
        · rw [if_neg hg, List.nil_append] at e'
          obtain ⟨c2, r2, e2, _⟩ := token_head h2
          have e0 : u.text.data.toList.getD 0 0 = c := by
            rw [e2, List.cons_append] at e'
            injection e' with e3 _
            rw [e2, ← e3]
            rfl
          have := glue_next h1 h2
          rw [e0] at this
          rw [this]
          exact Bool.eq_false_iff.2 hg
theorem jl_len : ∀ (l : List Tok) (p : Option Tok), (∀ t ∈ l, t.text.size ≤ 1000) → (jl p l).length ≤ 1001 * l.length
  | [], _, _ => Nat.le_refl _
  | t :: r, p, h => by
    have h1 := h t (List.mem_cons_self ..)
    have h2 := jl_len r (some t) (fun u hu => h u (List.mem_cons_of_mem _ hu))
    have h3 : (sepS p t).length ≤ 1 := by
      cases p with
      | none => exact Nat.zero_le _
      | some a =>
        show (if glueT a t = true then [32] else []).length ≤ 1
        split <;> simp
    show (sepS p t ++ (t.text.data.toList ++ jl (some t) r)).length ≤ 1001 * (r.length + 1)
    rw [List.length_append, List.length_append, len_list]
    omega
/-- **The joined text's tokens are the list.** -/
theorem join_law (l : List Tok) (hs : ∀ t ∈ l, t.text.size ≤ 1000) (hl : l.length ≤ 30) :
    (joinS l).length ≤ 30030 ∧ joinS l = jq .none (plainS l) ∧ ∃ T, tokensS (mkB (joinS l)) = (T, 0, 0, 0) ∧ plainS T = plainS l ∧ T.map core = (plainS l).map core := by
  have hp := plain_Pl l
  have hpl := plain_len l
  have hsz : ∀ t ∈ plainS l, t.text.size ≤ 1000 := fun t ht => by
    obtain ⟨_, u, hu, e, _⟩ := hp t ht
    rw [← e]
    exact hs u hu
  have hlen := jl_len (plainS l) .none hsz
  rw [join_jl]
  generalize plainS l = L at *
  refine ⟨by omega, (jq_jl L .none (fun a e => by cases e) (fun t ht => ⟨(hp t ht).1.1, hsz t ht⟩)).symm, ?_⟩
  obtain ⟨T, h1, h2⟩ := lex_items (jl .none L).length (jl .none L) (jI L) 0 [] (by rw [List.drop_zero, jl_none]) (by omega) (jI_ok L fun t ht => (hp t ht).1.1)
  refine ⟨T, ?_, plain_of_core (fun t ht => (hp t ht).1) (by rw [h2, jI_core]), by rw [h2, jI_core]⟩
  unfold tokensS
  rw [mkB_size, if_neg (by omega), mkB_L, h1]
  rfl
end Go.Ab.A05
