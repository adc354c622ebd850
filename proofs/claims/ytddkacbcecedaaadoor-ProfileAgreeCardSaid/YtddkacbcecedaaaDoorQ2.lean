/- A histogram's numbers and values; the table of a reversed recipe. -/
import Derived.Test.YtddkacbcecedaaaDoorM5
import Derived.Test.YtddkacbcecedaaaDoorM3
import Derived.Test.YtddkacbcecedaaaDoorM7
set_option linter.unusedSimpArgs false
set_option linter.unusedVariables false
set_option linter.unusedSectionVars false
namespace Go.Proofs.YtddkacbcecedaaaDoor
open Go Go.Ab Go.Ab.A34
theorem sum_snoc (l : List Int) (n : Int) : (l ++ [n]).sum = l.sum + n := by
  rw [List.sum_append]
  simp
theorem hAdd_sum (acc : List (V3 × Int)) (v : V3) : (nums (hAdd acc v)).sum = (nums acc).sum + 1 := by
  rcases List.eq_nil_or_concat acc with rfl | ⟨R, ⟨u, n⟩, e⟩
  · rfl
  · rw [List.concat_eq_append] at e
    subst e
    by_cases h : u = v
    · subst h
      rw [hAdd_same]
      unfold nums
      rw [List.map_append, List.map_append, List.map_cons, List.map_nil, List.map_cons, List.map_nil, sum_snoc, sum_snoc]
      omega
    · rw [hAdd_new _ _ _ _ h]
      unfold nums
      rw [List.map_append, List.map_cons, List.map_nil, sum_snoc]
theorem hist_sum (l : List V3) : ∀ acc, (nums (l.foldl hAdd acc)).sum = (nums acc).sum + l.length := by
  induction l with
  | nil => intro acc; simp
  | cons v r ih =>
    intro acc
    rw [List.foldl_cons, ih, hAdd_sum, List.length_cons]
    omega
theorem cmp3_lt {x y z : V3} (h1 : cmp3 x y < 0) (h2 : cmp3 y z < 0) : cmp3 x z < 0 := by
  have := cmp3_tr x y z (by omega) (by omega)
  have h3 := this.1
  have h4 := this.2
  by_cases h : cmp3 x z = 0
  · have := h4 h
    omega
  · omega
theorem hist_asc (l : List V3) : ∀ acc, (l.Pairwise fun x y => cmp3 x y ≤ 0) → (∀ p ∈ acc, ∀ v ∈ l, cmp3 p.1 v ≤ 0) → ((vals acc).Pairwise fun x y => cmp3 x y < 0) → ((vals (l.foldl hAdd acc)).Pairwise fun x y => cmp3 x y < 0) := by
  induction l with
  | nil => intro acc _ _ h; exact h
  | cons v r ih =>
    intro acc hs hp ha
    rw [List.foldl_cons]
    have hs' := List.pairwise_cons.1 hs
    rcases List.eq_nil_or_concat acc with rfl | ⟨R, ⟨u, n⟩, e⟩
    · refine ih _ hs'.2 (fun p hp' w hw => ?_) ?_
      · rw [show hAdd [] v = [(v, 1)] from rfl] at hp'
        rw [List.mem_singleton.1 hp']
        exact hs'.1 w hw
      · exact List.pairwise_singleton _ _
    · rw [List.concat_eq_append] at e
      subst e
      by_cases h : u = v
      · subst h
        rw [hAdd_same]
        refine ih _ hs'.2 (fun p hp' w hw => ?_) ?_
        · rcases List.mem_append.1 hp' with h1 | h1
          · exact hp p (List.mem_append_left _ h1) w (List.mem_cons_of_mem _ hw)
          · rw [List.mem_singleton.1 h1]
            exact hs'.1 w hw
        · unfold vals at *
          rw [List.map_append] at *
          exact ha
      · rw [hAdd_new _ _ _ _ h]
        refine ih _ hs'.2 (fun p hp' w hw => ?_) ?_
        · rcases List.mem_append.1 hp' with h1 | h1
          · exact hp p h1 w (List.mem_cons_of_mem _ hw)
          · rw [List.mem_singleton.1 h1]
            exact hs'.1 w hw
        · have hu : cmp3 u v < 0 := by
            have h1 := hp (u, n) (List.mem_append_right _ List.mem_cons_self) v List.mem_cons_self
            have h2 : cmp3 u v ≠ 0 := fun e => h ((cmp3_eq u v).1 e)
            simp only at h1
            omega
          unfold vals at ha ⊢
          have ha2 := ha
          rw [List.map_append, List.pairwise_append] at ha2
          rw [List.map_append, List.pairwise_append]
          refine ⟨ha, List.pairwise_singleton _ _, fun x hx y hy => ?_⟩
          obtain rfl : y = v := by simpa using hy
          rw [List.map_append, List.mem_append] at hx
          rcases hx with hx | hx
          · exact cmp3_lt (ha2.2.2 x hx u (by simp)) hu
          · obtain rfl : x = u := by simpa using hx
            exact hu
theorem prof_fold (L : List (V3 × Int)) : ∀ c, (L.foldl stepC c).rows = c.rows ∧ (L.foldl stepC c).distinct = c.distinct ∧ (L.foldl stepC c).times = (nums L).foldl max c.times := by
  induction L with
  | nil => intro c; exact ⟨rfl, rfl, rfl⟩
  | cons p r ih =>
    intro c
    rw [List.foldl_cons]
    have := ih (stepC c p)
    refine ⟨this.1, this.2.1, this.2.2.trans ?_⟩
    unfold nums
    rw [List.map_cons, List.foldl_cons]
    congr 1
    show (if c.times < p.2 then p.2 else c.times) = max c.times p.2
    omega
def back (x : Rc) : Rc := ⟨x.attrs, x.gap, x.rows.reverse⟩
theorem tab_col (x : Rc) (a : Nat) (ha : a < (x.attrs % 6).toNat) : (tabS x).rows.map (fun r => r.2.getD a v0) = x.rows.map fun r => codeV (r.getD a 0) := by
  unfold tabS wideS
  simp only [List.map_map]
  refine List.ext_getElem (by simp) fun i h1 h2 => ?_
  have h3 : i < x.rows.length := by simpa using h2
  simp [rowS, List.getD_eq_getElem?_getD, ha, h3]
theorem back_col (x : Rc) (a : Nat) (ha : a < (x.attrs % 6).toNat) : colS (tabS (back x)) a = colS (tabS x) a := by
  unfold colS
  rw [tab_col x a ha, tab_col (back x) a ha]
  refine sort_is (sortV_sorted _) (List.Perm.trans ?_ (sortV_perm _).symm)
  exact (List.reverse_perm x.rows).map _
theorem back_prof (x : Rc) (a : Nat) (ha : a < (x.attrs % 6).toNat) : profS (tabS (back x)) a = profS (tabS x) a := by
  unfold profS
  rw [back_col x a ha]
  have e : (tabS (back x)).rows.length = (tabS x).rows.length := by simp [tabS, wideS, back]
  rw [e]
theorem code_okV (c : Int) : okV (codeV c) = true := by
  have e := emp_nil
  unfold codeV
  repeat' split
  all_goals (unfold okV vok; simp [e])
  all_goals decide
theorem nm_ok : ∀ n, n < 6 → namesB (nm8.take n) = true := by decide +kernel
theorem tab_valid (x : Rc) (h : x.rows.length ≤ 1000) : validS (tabS x) = 0 := by
  have hn : (x.attrs % 6).toNat < 6 := by omega
  have hal : (nm8.take (x.attrs % 6).toNat).length = (x.attrs % 6).toNat := by
    rw [List.length_take]
    have : nm8.length = 8 := rfl
    omega
  obtain ⟨g, hg⟩ : ∃ g, g = 1 + x.gap % 3 := ⟨_, rfl⟩
  have hg1 : 1 ≤ g := by omega
  have hr : ∀ (k j : Nat) (p : Int), p < 1 + (j : Int) * g → rowsV (x.attrs % 6).toNat p ((List.range' j k).map fun i => rowS x.gap (x.attrs % 6).toNat i (x.rows.getD i [])) = 0 := fun k => by
    induction k with
    | zero => intro j p _; rfl
    | succ k ih =>
      intro j p hp
      have e1 : (rowS x.gap (x.attrs % 6).toNat j (x.rows.getD j [])).1 = 1 + (j : Int) * g := by rw [hg]; rfl
      rw [List.range'_succ, List.map_cons, rowsV, e1, if_neg (by omega), if_neg (by simp [rowS]), if_pos (by
        rw [List.all_eq_true]
        intro v hv
        unfold rowS at hv
        obtain ⟨c, _, rfl⟩ := List.mem_map.1 hv
        exact code_okV _)]
      refine ih (j + 1) _ ?_
      have : ((j + 1 : Nat) : Int) * g = (j : Int) * g + g := by rw [Int.natCast_add, Int.add_mul]; simp
      rw [this]
      omega
  have hlen : (tabS x).rows.length = x.rows.length := by simp [tabS, wideS]
  unfold validS
  rw [if_pos (show nameB (tabS x).name.data.toList = true from name_r1), if_neg (show ¬ (16 < (tabS x).attrs.length ∨ 1000 < (tabS x).rows.length) by rw [hlen]; show ¬ (16 < (nm8.take (x.attrs % 6).toNat).length ∨ _); rw [hal]; omega), if_pos (show namesB (tabS x).attrs = true from nm_ok _ hn)]
  show rowsV (nm8.take (x.attrs % 6).toNat).length 0 ((List.range x.rows.length).map fun i => rowS x.gap (x.attrs % 6).toNat i (x.rows.getD i [])) = 0
  rw [List.range_eq_range', hal]
  exact hr _ 0 0 (by omega)
end Go.Proofs.YtddkacbcecedaaaDoor
