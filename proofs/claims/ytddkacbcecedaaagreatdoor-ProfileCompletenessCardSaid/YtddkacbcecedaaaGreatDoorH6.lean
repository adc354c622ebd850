/- Contracts: profiles. -/
import Derived.Test.YtddkacbcecedaaaGreatDoorH5
set_option linter.unusedSimpArgs false
set_option linter.unusedVariables false
set_option linter.unusedSectionVars false
namespace Go.Ab.A34
open Go Go.Ab Go.Proofs
/-- Cells of a list. -/
def fC {α : Type} (enc : α → List SV) (l : List α) : List SV := l.flatMap enc
theorem fC_snoc {α : Type} {enc : α → List SV} (l : List α) (x : α) : fC enc l ++ enc x = fC enc (l ++ [x]) := by unfold fC; rw [List.flatMap_append]; simp
theorem fC_len {α : Type} {enc : α → List SV} {k : Nat} (hk : ∀ x, (enc x).length = k) (l : List α) : l.length * k = (fC enc l).length := by
  unfold fC
  induction l with
  | nil => simp
  | cons a r ih => rw [List.flatMap_cons, List.length_append, ← ih, hk, List.length_cons, Nat.add_mul, Nat.one_mul, Nat.add_comm]
theorem fC_at {α : Type} {enc : α → List SV} {k : Nat} (hk : ∀ x, (enc x).length = k) (d : α) : ∀ (l : List α) (j : Nat), j < l.length → enc (l.getD j d) = ((fC enc l).drop (j * k)).take k
  | [], j, h => absurd h (by simp)
  | a :: l, 0, _ => by
    unfold fC
    rw [Nat.zero_mul, List.drop_zero, List.flatMap_cons, List.take_append_of_le_length (by rw [hk]; exact Nat.le_refl _), List.take_of_length_le (by rw [hk]; exact Nat.le_refl _)]
    rfl
  | a :: l, j + 1, h => by
    have := fC_at hk d l j (by rw [List.length_cons] at h; omega)
    unfold fC at *
    rw [List.flatMap_cons, show (j + 1) * k = (enc a).length + j * k by rw [hk, Nat.add_mul, Nat.one_mul, Nat.add_comm], ← List.drop_drop, List.drop_left]
    exact this
/-- A profile. -/
structure Co where
  rows : Int
  nulls : Int
  distinct : Int
  least : V3
  greatest : V3
  common : V3
  times : Int
  numbers : Int
  texts : Int
abbrev coC (c : Co) : List SV := [I64 c.rows, I64 c.nulls, I64 c.distinct, I64 c.least.1, I64 c.least.2.1, Str c.least.2.2, I64 c.greatest.1, I64 c.greatest.2.1, Str c.greatest.2.2, I64 c.common.1, I64 c.common.2.1, Str c.common.2.2, I64 c.times, I64 c.numbers, I64 c.texts]
abbrev CO (c : Co) : SV := .agg (coC c)
def co0 : Co := ⟨0, 0, 0, v0, v0, v0, 0, 0, 0⟩
/-- One value more. -/
def stepC (c : Co) (p : V3 × Int) : Co :=
  ⟨c.rows, if p.1.1 = 0 then p.2 else c.nulls, c.distinct, if ¬ p.1.1 = 0 ∧ c.least.1 = 0 then p.1 else c.least, if p.1.1 = 0 then c.greatest else p.1, if c.times < p.2 then p.1 else c.common, if c.times < p.2 then p.2 else c.times, if p.1.1 = 1 then c.numbers + p.2 else c.numbers, if p.1.1 = 2 then c.texts + p.2 else c.texts⟩
def profS (t : Tb) (a : Nat) : Co := (histS (colS t a)).foldl stepC ⟨t.rows.length, 0, (histS (colS t a)).length, v0, v0, v0, 0, 0, 0⟩
theorem hist_inv (l : List V3) : ∀ (acc : List (V3 × Int)) (n : Nat), acc.length ≤ n → (∀ p ∈ acc, 1 ≤ p.2 ∧ p.2 ≤ n) → (l.foldl hAdd acc).length ≤ n + l.length ∧ ∀ p ∈ l.foldl hAdd acc, 1 ≤ p.2 ∧ p.2 ≤ n + l.length := by
  induction l with
  | nil => intro acc n h1 h2; exact ⟨by simpa using h1, by simpa using h2⟩
  | cons v l ih =>
    intro acc n h1 h2
    rw [List.foldl_cons]
    have h3 := hAdd_len acc v
    have := ih (hAdd acc v) (n + 1) (by omega) (fun p hp => by
      unfold hAdd at hp
      split at hp
      · rw [List.mem_singleton.1 hp]; simp; omega
      · rename_i hne
        have hm : acc.getLastD (v0, 0) ∈ acc := by
          rw [List.getLastD_eq_getLast?, List.getLast?_eq_some_getLast hne]
          exact List.getLast_mem hne
        have hb := h2 _ hm
        split at hp
        · rcases List.mem_append.1 hp with hp | hp
          · have := h2 p (List.dropLast_subset _ hp); omega
          · rw [List.mem_singleton.1 hp]; simp only; omega
        · rcases List.mem_append.1 hp with hp | hp
          · have := h2 p hp; omega
          · rw [List.mem_singleton.1 hp]; simp; omega)
    rw [List.length_cons]
    refine ⟨by omega, fun p hp => ?_⟩
    have := this.2 p hp
    omega
theorem hist_bound (l : List V3) : (histS l).length ≤ l.length ∧ ∀ p ∈ histS l, 1 ≤ p.2 ∧ p.2 ≤ l.length := by
  have := hist_inv l [] 0 (by simp) (fun p hp => by cases hp)
  simpa [histS] using this
end Go.Ab.A34
namespace Go.Proofs.YtddkacbcecedaaaGreatDoor
open Go Go.Ab Go.Ab.A34
variable [Gl] [Tabs]

set_option maxHeartbeats 4000000 in
set_option maxRecDepth 20000 in
theorem profile_p (t : Tb) (a : Nat) (hl : t.rows.length ≤ 1000000) (ha : ∀ r ∈ t.rows, a < r.2.length) : PCall Tryz.prog 29 [TB t, I64 a] (CO (profS t a)) := by
  have co := column_p t a hl ha
  have hcl : (colS t a).length ≤ 1000000 := by unfold colS; rw [sortV_len, List.length_map]; exact hl
  have hh := histogram_p (colS t a) hcl
  obtain ⟨hb1, hb2⟩ := hist_bound (colS t a)
  obtain ⟨X, hX⟩ : ∃ X, X = profS t a := ⟨_, rfl⟩
  rw [← hX]
  unfold profS at hX
  generalize histS (colS t a) = H at *
  generalize colS t a = C at *
  have hvl : (vals H).length = H.length := by simp [vals]
  have hnl : (nums H).length = H.length := by simp [nums]
  rw [← hvl] at hX
  obtain ⟨nm, ats, l⟩ := t
  simp only at hl ha hX
  refine Call.enter' (N := 76) (rs := [.cell 4 62]) Tryz.func29 rfl rfl rfl (by decide) rfl ?_; simp only [argT]; have hD : (0 : Nat) = 0 := rfl
  repeat' first | (with_reducible refine And.intro (by omega) ?_) | (refine SW.seq_k fun K hK => ?_) | (refine SW.block ?_) | ((first | refine SW.region ?_ | refine SW.regionD (Checked.mixed Tryz.checked) (by kernel_rfl) ?_ | refine SW.cond ?_ | refine SW.skip ?_ | refine SW.exit ?_ | refine SW.ret ?_ | refine Call.of_pure (co) ?_ | refine ⟨_, co, ?_⟩ | refine Call.of_pure (hh) ?_ | refine ⟨_, hh, ?_⟩ | (refine allF_i fun b hb => ?_; replace hD := And.intro hb hD; clear hb; try simp only [fresh_cons, fresh_nil, and_true, ne_eq, neF] at hD) | simp only [appK, appOsK]); try simp only [go_sem, hD]) | (refine And.intro (by omega) ?_) | (refine ifI (fun hc => ?_) (fun hc => ?_) <;> first | (exfalso; omega) | skip) | ((first | apply hK | ((iterate 1 (clear hK K)); apply hK) | ((iterate 2 (clear hK K)); apply hK) | ((iterate 3 (clear hK K)); apply hK) | ((iterate 4 (clear hK K)); apply hK) | ((iterate 5 (clear hK K)); apply hK)); clear hK K)
  obtain ⟨cb, rfl⟩ : ∃ x, x = b := ⟨_, rfl⟩
  obtain ⟨rb, rfl⟩ : ∃ x, x = b := ⟨_, rfl⟩
  have h1 : ¬ cb = rb := by simp [hD]
  have h2 : ¬ rb = cb := by simp [hD]
  refine Ab.SW.le (St.le_pick [(cb, .svs (coC ⟨l.length, 0, (vals H).length, v0, v0, v0, 0, 0, 0⟩)), (rb, .svs (coC co0))] ?_ ?_) ?_
  · repeat' (first | exact (fun x hx => (List.not_mem_nil hx).elim) | refine List.forall_mem_cons.2 ⟨?_, ?_⟩ | exact List.mem_cons_self | apply List.mem_cons_of_mem)
  · simp [fresh_cons, fresh_nil, hD]
  clear hD
  have hD : (cb = rb) = False ∧ (rb = cb) = False := ⟨eq_false h1, eq_false h2⟩
  obtain ⟨I, hI⟩ : ∃ I : Nat → St → Prop, ∀ k S, I k S ↔ (∃ (i : Nat) (c : Co), k = (vals H).length - i ∧ i ≤ (vals H).length ∧ X = (H.drop i).foldl stepC c ∧ 0 ≤ c.numbers ∧ c.numbers ≤ i * 1000000 ∧ 0 ≤ c.texts ∧ c.texts ≤ i * 1000000 ∧ S = ⟨[(4, .op rb 0), (5, VL (vals H)), (6, NL (nums H)), (7, .op cb 0), (24, VL (vals H)), (25, I64 (vals H).length), (26, I64 i)], [(cb, .svs (coC c)), (rb, .svs (coC co0))]⟩) := ⟨fun k S => _, fun _ _ => Iff.rfl⟩
  refine SW.loop' I ((vals H).length) ((hI _ _).2 ⟨0, _, rfl, Nat.zero_le _, hX, Int.le_refl _, by simp, Int.le_refl _, by simp, rfl⟩) (by repeat' (first | exact rfl | exact trivial | exact int_eq (by omega) | exact int_eq (by (rw [i64_wrap] <;> omega)) | constructor)) ?_
  intro k S hIn
  obtain ⟨i, c, rfl, hi, hC, n1, n2, n3, n4, rfl⟩ := (hI _ _).1 hIn
  clear hIn
  have ie : ((i : Nat) : Int).toNat = i := Int.toNat_natCast _
  have i0 : (0 : Int) ≤ ((i : Nat) : Int) := by omega
  clear hX
  obtain ⟨cr, cu, cd, ⟨lk, ln, lt⟩, ⟨gk, gn, gt⟩, ⟨mk, mn, mt⟩, ti, nb, tx⟩ := c
  simp only at n1 n2 n3 n4
  by_cases hlt : i < (vals H).length
  · have hli : ((i : Nat) : Int) < ((((vals H).length) : Nat) : Int) := by omega
    have w1 : IntKind.i64.wrap ((i : Int) + 1) = ((i + 1 : Nat) : Int) := by rw [i64_wrap (by omega) (by omega)]; omega
    have hlt2 : i < H.length := by omega
    have hn2 : ((i : Nat) : Int) < (((nums H).length : Nat) : Int) := by omega
    obtain ⟨⟨vk, vn, vt⟩, n, hv⟩ : ∃ v n, H.getD i (v0, 0) = (v, n) := ⟨_, _, rfl⟩
    have hg : H.getD i (v0, 0) = H[i] := by simp [List.getD_eq_getElem?_getD, hlt2]
    have hd : H.drop i = ((vk, vn, vt), n) :: H.drop (i + 1) := by rw [List.drop_eq_getElem_cons hlt2, ← hg, hv]
    have tv : vF (vals H) i = [I64 vk, I64 vn, Str vt] := by
      unfold vF vals
      rw [List.getD_eq_getElem?_getD, List.getElem?_map, List.getElem?_eq_getElem hlt2, ← hg, hv]
      rfl
    have tn : (nums H).getD i 0 = n := by
      unfold nums
      rw [List.getD_eq_getElem?_getD, List.getElem?_map, List.getElem?_eq_getElem hlt2, ← hg, hv]
      rfl
    have hbn := hb2 _ (getD_mem (v0, 0) hlt2)
    rw [hv] at hbn
    simp only at hbn
    have wn : IntKind.i64.wrap (nb + n) = nb + n := by rw [i64_wrap (by omega) (by omega)]
    have wt : IntKind.i64.wrap (tx + n) = tx + n := by rw [i64_wrap (by omega) (by omega)]
    rw [hd, List.foldl_cons] at hC
    have hk : ((vk = 0) = True ∧ (vk = 1) = False ∧ (vk = 2) = False) ∨ ((vk = 0) = False ∧ (vk = 1) = True ∧ (vk = 2) = False) ∨ ((vk = 0) = False ∧ (vk = 1) = False ∧ (vk = 2) = True) ∨ ((vk = 0) = False ∧ (vk = 1) = False ∧ (vk = 2) = False) := by
      simp only [eq_iff_iff, iff_true, iff_false]
      omega
    have ht := Classical.propComplete (ti < n)
    have hlk := Classical.propComplete (lk = 0)
    have hC0 := hC
    rcases hk with ⟨q0, q1, q2⟩ | ⟨q0, q1, q2⟩ | ⟨q0, q1, q2⟩ | ⟨q0, q1, q2⟩ <;> rcases ht with q3 | q3 <;> rcases hlk with q4 | q4
    all_goals
      simp only [stepC, q0, q1, q2, q3, q4, not_true, not_false_eq_true, and_true, true_and, and_self, false_and, and_false, if_true, if_false] at hC
      repeat' first | (with_reducible refine And.intro (by omega) ?_) | (refine SW.seq_k fun K hK => ?_) | (refine SW.block ?_) | ((first | refine SW.region ?_ | refine SW.regionD (Checked.mixed Tryz.checked) (by kernel_rfl) ?_ | refine SW.cond ?_ | refine SW.skip ?_ | refine SW.exit ?_ | refine SW.ret ?_ | (refine allF_i fun b hb => ?_; replace hD := And.intro hb hD; clear hb; try simp only [fresh_cons, fresh_nil, and_true, ne_eq, neF] at hD) | simp only [appK, appOsK]); try simp only [go_sem, hD, hli, ie, i0, w1, hn2, tv, tn, wn, wt, q0, q1, q2, q3, q4]) | (refine And.intro (by omega) ?_) | (refine ifI (fun hc => ?_) (fun hc => ?_) <;> first | (exfalso; omega) | skip) | ((first | apply hK | ((iterate 1 (clear hK K)); apply hK) | ((iterate 2 (clear hK K)); apply hK) | ((iterate 3 (clear hK K)); apply hK) | ((iterate 4 (clear hK K)); apply hK) | ((iterate 5 (clear hK K)); apply hK)); clear hK K)
      refine Rnd.le (St.le_pick _ ?_ ?_) (Rnd.sub ((vals H).length - (i + 1)) (by omega) ((hI _ _).2 ⟨i + 1, _, rfl, by omega, hC, by simp only; omega, by simp only; omega, by simp only; omega, by simp only; omega, rfl⟩) (by repeat' (first | exact rfl | exact trivial | exact int_eq (by omega) | exact int_eq (by (rw [i64_wrap] <;> omega)) | constructor)))
      · repeat' (first | exact (fun x hx => (List.not_mem_nil hx).elim) | refine List.forall_mem_cons.2 ⟨?_, ?_⟩ | exact List.mem_cons_self | apply List.mem_cons_of_mem)
      · simp [fresh_cons, fresh_nil, hD]
  · have hli : ¬ ((i : Nat) : Int) < ((((vals H).length) : Nat) : Int) := by omega
    rw [List.drop_of_length_le (by omega)] at hC
    have hC2 : X = ⟨cr, cu, cd, (lk, ln, lt), (gk, gn, gt), (mk, mn, mt), ti, nb, tx⟩ := hC
    subst hC2
    repeat' first | (with_reducible refine And.intro (by omega) ?_) | (refine SW.seq_k fun K hK => ?_) | (refine SW.block ?_) | ((first | refine SW.region ?_ | refine SW.regionD (Checked.mixed Tryz.checked) (by kernel_rfl) ?_ | refine SW.cond ?_ | refine SW.skip ?_ | refine SW.exit ?_ | refine SW.ret ?_ | (refine allF_i fun b hb => ?_; replace hD := And.intro hb hD; clear hb; try simp only [fresh_cons, fresh_nil, and_true, ne_eq, neF] at hD) | simp only [appK, appOsK]); try simp only [go_sem, hD, hli]) | (refine And.intro (by omega) ?_) | (refine ifI (fun hc => ?_) (fun hc => ?_) <;> first | (exfalso; omega) | skip) | ((first | apply hK | ((iterate 1 (clear hK K)); apply hK) | ((iterate 2 (clear hK K)); apply hK) | ((iterate 3 (clear hK K)); apply hK) | ((iterate 4 (clear hK K)); apply hK) | ((iterate 5 (clear hK K)); apply hK)); clear hK K)
    apply ret_cell (i := 4) (n := 15); exact rfl; (simp only [go_sem, hD]; try rfl); (first | exact Nat.le_refl _ | decide); simp only [resL_tmp, resL_cellE, resC_ok, resL_nil, tupOf, getN, go_sem, hD]
end Go.Proofs.YtddkacbcecedaaaGreatDoor
