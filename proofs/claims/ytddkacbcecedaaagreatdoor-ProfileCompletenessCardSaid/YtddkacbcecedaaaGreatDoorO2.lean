/- Plain law: insertion into a sorted list of values; cells of values. -/
import Derived.Test.YtddkacbcecedaaaGreatDoorH3
set_option linter.unusedSimpArgs false
set_option linter.unusedVariables false
set_option linter.unusedSectionVars false
namespace Go.Ab.A34
open Go Go.Ab Go.Proofs
theorem sortV_sorted (l : List V3) : (sortV l).Pairwise fun x y => cmp3 x y ≤ 0 := by
  have h := List.pairwise_mergeSort (le := fun x y => !(ltOf cmp3) y x) (fun a b c h1 h2 => by
    simp only [Bool.not_eq_true', ltOf_not] at *
    have := cmp3_tr a b c (by rw [cmp3_swap b a]; omega) (by rw [cmp3_swap c b]; omega)
    rw [cmp3_swap a c]
    omega) (fun a b => by
    rw [Bool.or_eq_true, Bool.not_eq_true', Bool.not_eq_true', ltOf_not, ltOf_not, cmp3_swap a b]
    omega) l
  refine h.imp fun {x y} h => ?_
  rw [Bool.not_eq_true', ltOf_not] at h
  rw [cmp3_swap y x]
  omega
theorem sorted_eq {l l' : List V3} (h : l.Pairwise fun x y => cmp3 x y ≤ 0) (h' : l'.Pairwise fun x y => cmp3 x y ≤ 0) (hp : l.Perm l') : l = l' :=
  List.Perm.eq_of_pairwise (le := fun x y => cmp3 x y ≤ 0) (fun a b _ _ h1 h2 => (cmp3_eq a b).1 (by rw [cmp3_swap a b] at h2; omega)) h h' hp
/-- A value put in its place. -/
theorem ins_sort {l a c : List V3} {v : V3} (hs : a ++ c = sortV l) (ha : ∀ y, a.getLast? = some y → cmp3 y v ≤ 0) (hcc : ∀ y ∈ c, cmp3 v y < 0) : a ++ v :: c = sortV (l ++ [v]) := by
  have h1 := sortV_sorted l
  rw [← hs, List.pairwise_append] at h1
  obtain ⟨p1, p2, p3⟩ := h1
  have ha2 : ∀ y ∈ a, cmp3 y v ≤ 0 := by
    rcases List.eq_nil_or_concat a with rfl | ⟨a', z, e⟩
    · intro y hy; cases hy
    · rw [List.concat_eq_append] at e
      subst e
      intro y hy
      have hz := ha z (by simp)
      rcases List.mem_append.1 hy with hy | hy
      · have := (List.pairwise_append.1 p1).2.2 y hy z (by simp)
        exact (cmp3_tr y z v this hz).1
      · rw [List.mem_singleton.1 hy]; exact hz
  refine sorted_eq ?_ (sortV_sorted _) ?_
  · rw [List.pairwise_append, List.pairwise_cons]
    refine ⟨p1, ⟨fun y hy => by have := hcc y hy; omega, p2⟩, fun x hx y hy => ?_⟩
    rcases List.mem_cons.1 hy with rfl | hy
    · exact ha2 x hx
    · exact p3 x hx y hy
  · refine List.Perm.trans ?_ (sortV_perm _).symm
    refine List.Perm.trans List.perm_middle ?_
    rw [hs]
    exact (List.Perm.cons v (sortV_perm l)).trans (List.perm_append_comm (l₁ := [v]) (l₂ := l))
theorem vCs_get : ∀ (L : List V3) (j : Nat), j < L.length → (vCs L).getD (j * 3) .any = I64 (L.getD j v0).1 ∧ (vCs L).getD (j * 3 + 1) .any = I64 (L.getD j v0).2.1 ∧ (vCs L).getD (j * 3 + 1 + 1) .any = Str (L.getD j v0).2.2
  | [], j, h => absurd h (by simp)
  | a :: L, 0, _ => ⟨rfl, rfl, rfl⟩
  | a :: L, j + 1, h => by
    have := vCs_get L j (by rw [List.length_cons] at h; omega)
    rw [show (j + 1) * 3 = j * 3 + 1 + 1 + 1 by omega]
    exact this
theorem vCs_set : ∀ (L : List V3) (j : Nat) (v : V3), j < L.length → (((vCs L).set (j * 3) (I64 v.1)).set (j * 3 + 1) (I64 v.2.1)).set (j * 3 + 1 + 1) (Str v.2.2) = vCs (L.set j v)
  | [], j, v, h => absurd h (by simp)
  | a :: L, 0, v, _ => rfl
  | a :: L, j + 1, v, h => by
    have := vCs_set L j v (by rw [List.length_cons] at h; omega)
    rw [show (j + 1) * 3 = j * 3 + 1 + 1 + 1 by omega]
    show I64 a.1 :: I64 a.2.1 :: Str a.2.2 :: _ = I64 a.1 :: I64 a.2.1 :: Str a.2.2 :: vCs (L.set j v)
    rw [← this]
    rfl
theorem mid_get (a c : List V3) (v : V3) : (a ++ v :: c).getD a.length v0 = v := by simp [List.getD_eq_getElem?_getD]
theorem mid_get' (a c : List V3) (y v : V3) : (a ++ [y] ++ v :: c).getD a.length v0 = y := by simp [List.getD_eq_getElem?_getD]
theorem mid_swap (a c : List V3) (y v : V3) : ((a ++ [y] ++ v :: c).set (a.length + 1) y).set a.length v = a ++ v :: y :: c := by simp
theorem mid_swap' (a c : List V3) (y v : V3) : ((a ++ [y] ++ v :: c).set a.length v).set (a.length + 1) y = a ++ v :: y :: c := by simp
end Go.Ab.A34
