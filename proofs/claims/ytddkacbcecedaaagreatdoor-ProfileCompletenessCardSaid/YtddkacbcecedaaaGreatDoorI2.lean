/- Contracts: quartiles and outliers of the program. -/
import Derived.Test.YtddkacbcecedaaaGreatDoorI1
set_option linter.unusedSimpArgs false
set_option linter.unusedVariables false
set_option linter.unusedSectionVars false
namespace Go.Ab.A34
open Go Go.Ab Go.Proofs
def nC1 (n : Int) : List SV := [I64 n]
theorem nC1_len (n : Int) : (nC1 n).length = 1 := rfl
/-- The numbers of a column. -/
def numsOf (C : List V3) : List Int := (C.filter fun v => decide (v.1 = 1)).map fun v => v.2.1
theorem numsOf_snoc (C : List V3) (v : V3) : numsOf (C ++ [v]) = if v.1 = 1 then numsOf C ++ [v.2.1] else numsOf C := by
  unfold numsOf
  rw [List.filter_append, List.map_append]
  by_cases h : v.1 = 1
  · rw [if_pos h]; simp [h]
  · rw [if_neg h]; simp [h]
theorem numsOf_le (C : List V3) : (numsOf C).length ≤ C.length := by
  unfold numsOf
  rw [List.length_map]
  exact List.length_filter_le _ _
def q1S (L : List Int) : Int := L.getD ((L.length - 1) / 4) 0
def q3S (L : List Int) : Int := L.getD (3 * (L.length - 1) / 4) 0
/-- A value is far outside. -/
def outB (q1 q3 : Int) (v : V3) : Bool := decide (v.1 = 1) && ((decide (v.2.1 < q1) && farI (q1 - v.2.1) (q3 - q1)) || (decide (q3 < v.2.1) && farI (v.2.1 - q3) (q3 - q1)))
def outRows (q1 q3 : Int) (a : Nat) (l : List R3) : List Int := (l.filter fun r => outB q1 q3 (r.2.getD a v0)).map (·.1)
theorem outRows_snoc (q1 q3 : Int) (a : Nat) (l : List R3) (r : R3) : outRows q1 q3 a (l ++ [r]) = if outB q1 q3 (r.2.getD a v0) = true then outRows q1 q3 a l ++ [r.1] else outRows q1 q3 a l := by
  unfold outRows
  rw [List.filter_append, List.map_append]
  by_cases h : outB q1 q3 (r.2.getD a v0) = true
  · rw [if_pos h, List.filter_cons_of_pos (by exact h)]; rfl
  · rw [if_neg h, List.filter_cons_of_neg (by exact h)]; simp
theorem outRows_le (q1 q3 : Int) (a : Nat) (l : List R3) : (outRows q1 q3 a l).length ≤ l.length := by
  unfold outRows
  rw [List.length_map]
  exact List.length_filter_le _ _
/-- The rows with outliers. -/
def outS (t : Tb) (a : Nat) : List Int := if (numsOf (colS t a)).length < 4 then [] else outRows (q1S (numsOf (colS t a))) (q3S (numsOf (colS t a))) a t.rows
theorem nums_sorted : ∀ {C : List V3}, (C.Pairwise fun x y => cmp3 x y ≤ 0) → (numsOf C).Pairwise (· ≤ ·) := fun {C} h => by
  unfold numsOf
  rw [List.pairwise_map]
  refine (h.filter _).imp_of_mem ?_
  intro x y hx hy hxy
  have h1 := of_decide_eq_true (List.mem_filter.1 hx).2
  have h2 := of_decide_eq_true (List.mem_filter.1 hy).2
  unfold cmp3 at hxy
  rw [cmpV_lex, h1, h2] at hxy
  unfold lex at hxy
  rw [if_pos (sgn_zero.2 rfl)] at hxy
  rcases sgn_cases x.2.1 y.2.1 with ⟨_, h⟩ | ⟨_, h⟩ | ⟨h, _⟩
  · omega
  · omega
  · rw [h] at hxy
    simp at hxy
theorem quart_le {L : List Int} (h : L.Pairwise (· ≤ ·)) (h4 : 4 ≤ L.length) : q1S L ≤ q3S L := by
  unfold q1S q3S
  have i1 : (L.length - 1) / 4 < L.length := by omega
  have i2 : 3 * (L.length - 1) / 4 < L.length := by omega
  rw [List.getD_eq_getElem?_getD, List.getD_eq_getElem?_getD, List.getElem?_eq_getElem i1, List.getElem?_eq_getElem i2]
  simp only [Option.getD_some]
  exact List.pairwise_iff_getElem.1 h _ _ i1 i2 (by omega)
theorem col_mem {t : Tb} {a : Nat} (ha : ∀ r ∈ t.rows, a < r.2.length) {P : V3 → Prop} (hP : ∀ r ∈ t.rows, ∀ v ∈ r.2, P v) : ∀ v ∈ colS t a, P v := fun v hv => by
  unfold colS at hv
  rw [(sortV_perm _).mem_iff] at hv
  obtain ⟨r, hr, rfl⟩ := List.mem_map.1 hv
  exact hP r hr _ (getD_mem v0 (ha r hr))
theorem numsOf_mem {C : List V3} {P : Int → Prop} (hP : ∀ v ∈ C, P v.2.1) : ∀ n ∈ numsOf C, P n := fun n hn => by
  unfold numsOf at hn
  obtain ⟨v, hv, rfl⟩ := List.mem_map.1 hn
  exact hP v (List.mem_filter.1 hv).1
theorem fC1_get : ∀ (L : List Int) (j : Nat), j < L.length → (fC nC1 L).getD j .any = I64 (L.getD j 0)
  | [], j, h => absurd h (by simp)
  | a :: L, 0, _ => rfl
  | a :: L, j + 1, h => fC1_get L j (by rw [List.length_cons] at h; omega)
end Go.Ab.A34
namespace Go.Proofs.YtddkacbcecedaaaGreatDoor
open Go Go.Ab Go.Ab.A34
variable [Gl] [Tabs]

theorem out_p_bad (t : Tb) (a : Int) (h : ¬ chkS t a = 0) : PCall Tryz.prog 13 [TB t, I64 a] (.tup [NL [], I64 (chkS t a)]) := by
  have va := checked_p t a
  generalize chkS t a = e at *
  refine Call.enter' (N := 121) (rs := [.tmp 4, .tmp 5]) Tryz.func13 rfl rfl rfl (by decide) rfl ?_; simp only [argT]; have hD : (0 : Nat) = 0 := rfl
  repeat' first | (with_reducible refine And.intro (by omega) ?_) | (refine SW.seq_k fun K hK => ?_) | (refine SW.block ?_) | ((first | refine SW.region ?_ | refine SW.regionD (Checked.mixed Tryz.checked) (by kernel_rfl) ?_ | refine SW.cond ?_ | refine SW.skip ?_ | refine SW.exit ?_ | refine SW.ret ?_ | refine Call.of_pure (va) ?_ | refine ⟨_, va, ?_⟩ | (refine allF_i fun b hb => ?_; replace hD := And.intro hb hD; clear hb; try simp only [fresh_cons, fresh_nil, and_true, ne_eq, neF] at hD) | simp only [appK, appOsK]); try simp only [go_sem, hD, h]) | (refine And.intro (by omega) ?_) | (refine ifI (fun hc => ?_) (fun hc => ?_) <;> first | (exfalso; omega) | skip) | ((first | apply hK | ((iterate 1 (clear hK K)); apply hK) | ((iterate 2 (clear hK K)); apply hK) | ((iterate 3 (clear hK K)); apply hK) | ((iterate 4 (clear hK K)); apply hK) | ((iterate 5 (clear hK K)); apply hK)); clear hK K)
  refine retQ_le (St.le_nil_fl (i := 4) (sz := 1) (f := fun j => [I64 (([] : List Int).getD j 0)]) rfl) ?_
  simp only [resL_tmp, resL_nil, tupOf, go_sem, hD]
  rfl

set_option maxHeartbeats 4000000 in
set_option maxRecDepth 20000 in
theorem out_p (t : Tb) (a : Nat) (h : chkS t a = 0) (h64 : ∀ r ∈ t.rows, ∀ v ∈ r.2, In64 v.2.1) : PCall Tryz.prog 13 [TB t, I64 a] (.tup [NL (outS t a), I64 0]) := by
  have va := checked_p t a
  rw [h] at va
  obtain ⟨h1, h2, h3⟩ := chk_ok h
  obtain ⟨r1, r2, r3⟩ := valid_rows h1
  have hal : ∀ r ∈ t.rows, a < r.2.length := fun r hr => by have := r3 r hr; omega
  have co := column_p t a (by omega) hal
  have hcl : (colS t a).length ≤ 1000 := by unfold colS; rw [sortV_len, List.length_map]; exact r1
  have hso := nums_sorted (sortV_sorted (t.rows.map fun r => r.2.getD a v0))
  have hin := numsOf_mem (col_mem hal h64)
  obtain ⟨X, hX⟩ : ∃ X, X = outS t a := ⟨_, rfl⟩
  rw [← hX]
  unfold outS at hX
  change List.Pairwise _ (numsOf (colS t a)) at hso
  generalize colS t a = C at *
  obtain ⟨nm, ats, l⟩ := t
  simp only at hX hal r1 h64 r3 ⊢
  clear h h1 h2 h3
  refine Call.enter' (N := 121) (rs := [.tmp 4, .tmp 5]) Tryz.func13 rfl rfl rfl (by decide) rfl ?_; simp only [argT]; have hD : (0 : Nat) = 0 := rfl
  repeat' first | (with_reducible refine And.intro (by omega) ?_) | (refine SW.seq_k fun K hK => ?_) | (refine SW.block ?_) | ((first | refine SW.region ?_ | refine SW.regionD (Checked.mixed Tryz.checked) (by kernel_rfl) ?_ | refine SW.cond ?_ | refine SW.skip ?_ | refine SW.exit ?_ | refine SW.ret ?_ | refine Call.of_pure (va) ?_ | refine ⟨_, va, ?_⟩ | refine Call.of_pure (co) ?_ | refine ⟨_, co, ?_⟩ | (refine allF_i fun b hb => ?_; replace hD := And.intro hb hD; clear hb; try simp only [fresh_cons, fresh_nil, and_true, ne_eq, neF] at hD) | simp only [appK, appOsK]); try simp only [go_sem, hD]) | (refine And.intro (by omega) ?_) | (refine ifI (fun hc => ?_) (fun hc => ?_) <;> first | (exfalso; omega) | skip) | ((first | apply hK | ((iterate 1 (clear hK K)); apply hK) | ((iterate 2 (clear hK K)); apply hK) | ((iterate 3 (clear hK K)); apply hK) | ((iterate 4 (clear hK K)); apply hK) | ((iterate 5 (clear hK K)); apply hK)); clear hK K)
  obtain ⟨tb, rfl⟩ : ∃ x, x = b := ⟨_, rfl⟩
  obtain ⟨I, hI⟩ : ∃ I : Nat → St → Prop, ∀ k S, I k S ↔ (∃ (i : Nat) (x : SV) (h : Heap), k = C.length - i ∧ i ≤ C.length ∧ Acc 1 x h [(tb, .svs [Str nm, SL ats, RL l])] (numsOf (C.take i)).length (fC nC1 (numsOf (C.take i))) ∧ S = ⟨[(1, I64 a), (2, .op tb 0), (7, x), (28, VL C), (29, I64 C.length), (30, I64 i)], h⟩) := ⟨fun k S => _, fun _ _ => Iff.rfl⟩
  refine SW.loop' I (C.length) ((hI _ _).2 ⟨0, _, _, rfl, Nat.zero_le _, .nil _ _, rfl⟩) (by repeat' (first | exact rfl | exact trivial | exact int_eq (by omega) | exact int_eq (by (rw [i64_wrap] <;> omega)) | constructor)) ?_
  intro k S hIn
  obtain ⟨i, x, h, rfl, hi, hB, rfl⟩ := (hI _ _).1 hIn
  clear hIn
  have ie : ((i : Nat) : Int).toNat = i := Int.toNat_natCast _
  have i0 : (0 : Int) ≤ ((i : Nat) : Int) := by omega
  by_cases hlt : i < C.length
  · have hli : ((i : Nat) : Int) < (((C.length) : Nat) : Int) := by omega
    have w1 : IntKind.i64.wrap ((i : Int) + 1) = ((i + 1 : Nat) : Int) := by rw [i64_wrap (by omega) (by omega)]; omega
    have hg : C.getD i v0 = C[i] := by simp [List.getD_eq_getElem?_getD, hlt]
    have htk : C.take (i + 1) = C.take i ++ [C.getD i v0] := by rw [List.take_add_one, List.getElem?_eq_getElem hlt, hg]; rfl
    obtain ⟨vk, vn, vt, hv⟩ : ∃ k n t, C.getD i v0 = (k, n, t) := ⟨_, _, _, rfl⟩
    have tv : vF C i = [I64 vk, I64 vn, Str vt] := by unfold vF; rw [hv]
    have hsn := numsOf_snoc (C.take i) (C.getD i v0)
    rw [← htk, hv] at hsn
    have hlen := numsOf_le (C.take i)
    rw [List.length_take] at hlen
    generalize numsOf (C.take i) = L at *
    by_cases hk : vk = 1
    · simp only [hk, if_true] at hsn
      have ba : (L.length + 1) * 8 ≤ 140737488355328 := by omega
      rcases hB.casesH with ⟨e0, e1, rfl, rfl⟩ | ⟨g, hgf, e0, rfl, hle⟩
      · have hLn : L = [] := List.eq_nil_of_length_eq_zero e0
        subst hLn
        repeat' first | (with_reducible refine And.intro (by omega) ?_) | (refine SW.seq_k fun K hK => ?_) | (refine SW.block ?_) | ((first | refine SW.region ?_ | refine SW.regionD (Checked.mixed Tryz.checked) (by kernel_rfl) ?_ | refine SW.cond ?_ | refine SW.skip ?_ | refine SW.exit ?_ | refine SW.ret ?_ | (refine allF_i fun b hb => ?_; replace hD := And.intro hb hD; clear hb; try simp only [fresh_cons, fresh_nil, and_true, ne_eq, neF] at hD) | simp only [appK, appOsK]); try simp only [go_sem, hD, hli, ie, i0, w1, tv, hk, ba, true_implies]) | (refine And.intro (by omega) ?_) | (refine ifI (fun hc => ?_) (fun hc => ?_) <;> first | (exfalso; omega) | skip) | ((first | apply hK | ((iterate 1 (clear hK K)); apply hK) | ((iterate 2 (clear hK K)); apply hK) | ((iterate 3 (clear hK K)); apply hK) | ((iterate 4 (clear hK K)); apply hK) | ((iterate 5 (clear hK K)); apply hK)); clear hK K)
        refine Rnd.le (St.le_pick _ ?_ ?_) (Rnd.sub (C.length - (i + 1)) (by omega) ((hI _ _).2 ⟨i + 1, _, [(b, .ints .i64 [vn]), (tb, .svs [Str nm, SL ats, RL l])], rfl, by omega, (by rw [hsn]; exact .inr ⟨b, .ints .i64 [vn], by simp [fresh_cons, fresh_nil, hD], rfl, rfl, rfl, rfl⟩), rfl⟩) (by repeat' (first | exact rfl | exact trivial | exact int_eq (by omega) | exact int_eq (by (rw [i64_wrap] <;> omega)) | constructor)))
        · repeat' (first | exact (fun x hx => (List.not_mem_nil hx).elim) | refine List.forall_mem_cons.2 ⟨?_, ?_⟩ | exact List.mem_cons_self | apply List.mem_cons_of_mem)
        · simp [fresh_cons, fresh_nil, hD]
      · refine Ab.SW.le (hle _) ?_
        have hgt : ¬ g = tb := fun e => hgf.1.1 e.symm
        repeat' first | (with_reducible refine And.intro (by omega) ?_) | (refine SW.seq_k fun K hK => ?_) | (refine SW.block ?_) | ((first | refine SW.region ?_ | refine SW.regionD (Checked.mixed Tryz.checked) (by kernel_rfl) ?_ | refine SW.cond ?_ | refine SW.skip ?_ | refine SW.exit ?_ | refine SW.ret ?_ | (refine allF_i fun b hb => ?_; replace hD := And.intro hb hD; clear hb; try simp only [fresh_cons, fresh_nil, and_true, ne_eq, neF] at hD) | simp only [appK, appOsK]); try simp only [go_sem, hD, hli, ie, i0, w1, tv, hk, ba, true_implies, hgt, e0]) | (refine And.intro (by omega) ?_) | (refine ifI (fun hc => ?_) (fun hc => ?_) <;> first | (exfalso; omega) | skip) | ((first | apply hK | ((iterate 1 (clear hK K)); apply hK) | ((iterate 2 (clear hK K)); apply hK) | ((iterate 3 (clear hK K)); apply hK) | ((iterate 4 (clear hK K)); apply hK) | ((iterate 5 (clear hK K)); apply hK)); clear hK K)
        refine Rnd.le (St.le_pick _ ?_ ?_) (Rnd.sub (C.length - (i + 1)) (by omega) ((hI _ _).2 ⟨i + 1, _, [(b, .svs (fC nC1 L ++ nC1 vn)), (tb, .svs [Str nm, SL ats, RL l])], rfl, by omega, (by rw [hsn, List.length_append, ← fC_snoc]; exact Acc.osH (by simp [fresh_cons, fresh_nil, hD]) (by rw [List.length_append, ← e0]; simp [nC1])), rfl⟩) (by repeat' (first | exact rfl | exact trivial | exact int_eq (by omega) | exact int_eq (by (rw [i64_wrap] <;> omega)) | constructor)))
        · repeat' (first | exact (fun x hx => (List.not_mem_nil hx).elim) | refine List.forall_mem_cons.2 ⟨?_, ?_⟩ | exact List.mem_cons_self | apply List.mem_cons_of_mem)
        · simp [fresh_cons, fresh_nil, hD]
    · simp only [hk, if_false] at hsn
      rcases hB.casesH with ⟨e0, e1, rfl, rfl⟩ | ⟨g, hgf, e0, rfl, hle⟩
      · repeat' first | (with_reducible refine And.intro (by omega) ?_) | (refine SW.seq_k fun K hK => ?_) | (refine SW.block ?_) | ((first | refine SW.region ?_ | refine SW.regionD (Checked.mixed Tryz.checked) (by kernel_rfl) ?_ | refine SW.cond ?_ | refine SW.skip ?_ | refine SW.exit ?_ | refine SW.ret ?_ | (refine allF_i fun b hb => ?_; replace hD := And.intro hb hD; clear hb; try simp only [fresh_cons, fresh_nil, and_true, ne_eq, neF] at hD) | simp only [appK, appOsK]); try simp only [go_sem, hD, hli, ie, i0, w1, tv, hk, true_implies]) | (refine And.intro (by omega) ?_) | (refine ifI (fun hc => ?_) (fun hc => ?_) <;> first | (exfalso; omega) | skip) | ((first | apply hK | ((iterate 1 (clear hK K)); apply hK) | ((iterate 2 (clear hK K)); apply hK) | ((iterate 3 (clear hK K)); apply hK) | ((iterate 4 (clear hK K)); apply hK) | ((iterate 5 (clear hK K)); apply hK)); clear hK K)
        refine Rnd.le (St.le_pick _ ?_ ?_) (Rnd.sub (C.length - (i + 1)) (by omega) ((hI _ _).2 ⟨i + 1, _, [(tb, .svs [Str nm, SL ats, RL l])], rfl, by omega, (by rw [hsn]; exact hB), rfl⟩) (by repeat' (first | exact rfl | exact trivial | exact int_eq (by omega) | exact int_eq (by (rw [i64_wrap] <;> omega)) | constructor)))
        · repeat' (first | exact (fun x hx => (List.not_mem_nil hx).elim) | refine List.forall_mem_cons.2 ⟨?_, ?_⟩ | exact List.mem_cons_self | apply List.mem_cons_of_mem)
        · simp [fresh_cons, fresh_nil, hD]
      · refine Ab.SW.le (hle _) ?_
        have hgt : ¬ g = tb := fun e => hgf.1.1 e.symm
        have hD := And.intro (eq_false hgt) hD
        repeat' first | (with_reducible refine And.intro (by omega) ?_) | (refine SW.seq_k fun K hK => ?_) | (refine SW.block ?_) | ((first | refine SW.region ?_ | refine SW.regionD (Checked.mixed Tryz.checked) (by kernel_rfl) ?_ | refine SW.cond ?_ | refine SW.skip ?_ | refine SW.exit ?_ | refine SW.ret ?_ | (refine allF_i fun b hb => ?_; replace hD := And.intro hb hD; clear hb; try simp only [fresh_cons, fresh_nil, and_true, ne_eq, neF] at hD) | simp only [appK, appOsK]); try simp only [go_sem, hD, hli, ie, i0, w1, tv, hk, true_implies, hgt, e0]) | (refine And.intro (by omega) ?_) | (refine ifI (fun hc => ?_) (fun hc => ?_) <;> first | (exfalso; omega) | skip) | ((first | apply hK | ((iterate 1 (clear hK K)); apply hK) | ((iterate 2 (clear hK K)); apply hK) | ((iterate 3 (clear hK K)); apply hK) | ((iterate 4 (clear hK K)); apply hK) | ((iterate 5 (clear hK K)); apply hK)); clear hK K)
        refine Rnd.le (St.le_pick _ ?_ ?_) (Rnd.sub (C.length - (i + 1)) (by omega) ((hI _ _).2 ⟨i + 1, _, [(g, .svs (fC nC1 L)), (tb, .svs [Str nm, SL ats, RL l])], rfl, by omega, (by rw [hsn]; exact Acc.osH hgf e0), rfl⟩) (by repeat' (first | exact rfl | exact trivial | exact int_eq (by omega) | exact int_eq (by (rw [i64_wrap] <;> omega)) | constructor)))
        · repeat' (first | exact (fun x hx => (List.not_mem_nil hx).elim) | refine List.forall_mem_cons.2 ⟨?_, ?_⟩ | exact List.mem_cons_self | apply List.mem_cons_of_mem)
        · simp [fresh_cons, fresh_nil, hD]
  · have hli : ¬ ((i : Nat) : Int) < (((C.length) : Nat) : Int) := by omega
    obtain rfl : i = C.length := by omega
    rw [List.take_length] at hB
    have hlen := numsOf_le C
    generalize numsOf C = L at *
    rcases hB.casesH with ⟨e0, e1, rfl, rfl⟩ | ⟨g, hgf, e0, rfl, hle⟩
    · rw [e0, if_pos (by omega)] at hX
      subst hX
      repeat' first | (with_reducible refine And.intro (by omega) ?_) | (refine SW.seq_k fun K hK => ?_) | (refine SW.block ?_) | ((first | refine SW.region ?_ | refine SW.regionD (Checked.mixed Tryz.checked) (by kernel_rfl) ?_ | refine SW.cond ?_ | refine SW.skip ?_ | refine SW.exit ?_ | refine SW.ret ?_ | (refine allF_i fun b hb => ?_; replace hD := And.intro hb hD; clear hb; try simp only [fresh_cons, fresh_nil, and_true, ne_eq, neF] at hD) | simp only [appK, appOsK]); try simp only [go_sem, hD, hli, true_implies]) | (refine And.intro (by omega) ?_) | (refine ifI (fun hc => ?_) (fun hc => ?_) <;> first | (exfalso; omega) | skip) | ((first | apply hK | ((iterate 1 (clear hK K)); apply hK) | ((iterate 2 (clear hK K)); apply hK) | ((iterate 3 (clear hK K)); apply hK) | ((iterate 4 (clear hK K)); apply hK) | ((iterate 5 (clear hK K)); apply hK)); clear hK K)
      refine retQ_le (St.le_nil_fl (i := 4) (sz := 1) (f := fun j => [I64 (([] : List Int).getD j 0)]) rfl) ?_
      simp only [resL_tmp, resL_nil, tupOf, go_sem, hD]
      rfl
    · refine Ab.SW.le (hle _) ?_
      have hgt : ¬ g = tb := fun e => hgf.1.1 e.symm
      by_cases hm4 : L.length < 4
      · rw [if_pos hm4] at hX
        subst hX
        have hm4i : ((L.length : Nat) : Int) < 4 := by omega
        repeat' first | (with_reducible refine And.intro (by omega) ?_) | (refine SW.seq_k fun K hK => ?_) | (refine SW.block ?_) | ((first | refine SW.region ?_ | refine SW.regionD (Checked.mixed Tryz.checked) (by kernel_rfl) ?_ | refine SW.cond ?_ | refine SW.skip ?_ | refine SW.exit ?_ | refine SW.ret ?_ | (refine allF_i fun b hb => ?_; replace hD := And.intro hb hD; clear hb; try simp only [fresh_cons, fresh_nil, and_true, ne_eq, neF] at hD) | simp only [appK, appOsK]); try simp only [go_sem, hD, hli, true_implies, hm4i, hgt]) | (refine And.intro (by omega) ?_) | (refine ifI (fun hc => ?_) (fun hc => ?_) <;> first | (exfalso; omega) | skip) | ((first | apply hK | ((iterate 1 (clear hK K)); apply hK) | ((iterate 2 (clear hK K)); apply hK) | ((iterate 3 (clear hK K)); apply hK) | ((iterate 4 (clear hK K)); apply hK) | ((iterate 5 (clear hK K)); apply hK)); clear hK K)
        refine retQ_le (St.le_nil_fl (i := 4) (sz := 1) (f := fun j => [I64 (([] : List Int).getD j 0)]) rfl) ?_
        simp only [resL_tmp, resL_nil, tupOf, go_sem, hD]
        rfl
      · rw [if_neg hm4] at hX
        have hm4i : ¬ ((L.length : Nat) : Int) < 4 := by omega
        have hle13 := quart_le hso (by omega)
        have j1 : IntKind.i64.wrap (((L.length : Nat) : Int) - 1) = ((L.length - 1 : Nat) : Int) := by rw [i64_wrap (by omega) (by omega)]; omega
        have d1 : IntKind.i64.wrap ((((L.length - 1 : Nat) : Int)).tdiv 4) = (((L.length - 1) / 4 : Nat) : Int) := by rw [Int.tdiv_eq_ediv_of_nonneg (by omega), i64_wrap (by omega) (by omega)]; omega
        have j2 : IntKind.i64.wrap (3 * ((L.length - 1 : Nat) : Int)) = ((3 * (L.length - 1) : Nat) : Int) := by rw [i64_wrap (by omega) (by omega)]; omega
        have d2 : IntKind.i64.wrap ((((3 * (L.length - 1) : Nat) : Int)).tdiv 4) = ((3 * (L.length - 1) / 4 : Nat) : Int) := by rw [Int.tdiv_eq_ediv_of_nonneg (by omega), i64_wrap (by omega) (by omega)]; omega
        have k1 : (((L.length - 1) / 4 : Nat) : Int).toNat = (L.length - 1) / 4 := Int.toNat_natCast _
        have k2 : ((3 * (L.length - 1) / 4 : Nat) : Int).toNat = 3 * (L.length - 1) / 4 := Int.toNat_natCast _
        have k3 : (0 : Int) ≤ (((L.length - 1) / 4 : Nat) : Int) := by omega
        have k4 : (0 : Int) ≤ ((3 * (L.length - 1) / 4 : Nat) : Int) := by omega
        have k5 : (((L.length - 1) / 4 : Nat) : Int) < ((L.length : Nat) : Int) := by omega
        have k6 : ((3 * (L.length - 1) / 4 : Nat) : Int) < ((L.length : Nat) : Int) := by omega
        have g1 : (fC nC1 L).getD ((L.length - 1) / 4) .any = I64 (q1S L) := fC1_get L _ (by omega)
        have g2 : (fC nC1 L).getD (3 * (L.length - 1) / 4) .any = I64 (q3S L) := fC1_get L _ (by omega)
        have c0 : (fC nC1 L).length = L.length := by rw [← e0, Nat.mul_one]
        have in1 : In64 (q1S L) := hin _ (getD_mem 0 (by omega))
        have in3 : In64 (q3S L) := hin _ (getD_mem 0 (by omega))
        generalize q1S L = q1 at *
        generalize q3S L = q3 at *
        unfold In64 at in1 in3
        have wd := u64_diff (a := q1) (b := q3) (by omega) (by omega)
        repeat' first | (with_reducible refine And.intro (by omega) ?_) | (refine SW.seq_k fun K hK => ?_) | (refine SW.block ?_) | ((first | refine SW.region ?_ | refine SW.regionZ (id := 14) (Checked.mixed Tryz.checked) ((.one 0 [0, 4, 5, 13, 14] (.one 1 [1, 2, 3, 4, 5, 13, 14] (.one 2 [2, 3, 4, 5, 13, 14] (.one 3 [3, 4, 5, 13, 14] (.one 4 [4, 5, 13, 14] (.one 5 [5, 13, 14] (.one 6 [6, 11, 12, 14] (.one 7 [7, 8, 9, 10, 11, 12, 14] (.one 8 [8, 9, 10, 11, 12, 14] (.one 9 [9, 10, 11, 12, 14] (.one 10 [10, 11, 12, 14] (.one 11 [11, 12, 14] (.one 12 [12, 14] (.one 13 [13, 14] (.one 14 [14] .done))))))))))))))) : OZ) (by kernel_rfl) ?_ | refine SW.regionD (Checked.mixed Tryz.checked) (by kernel_rfl) ?_ | refine SW.cond ?_ | refine SW.skip ?_ | refine SW.exit ?_ | refine SW.ret ?_ | (refine allF_i fun b hb => ?_; replace hD := And.intro hb hD; clear hb; try simp only [fresh_cons, fresh_nil, and_true, ne_eq, neF] at hD) | simp only [appK, appOsK]); try simp only [go_sem, hD, hli, true_implies, hm4i, hgt, j1, d1, j2, d2, k1, k2, k3, k4, k5, k6, g1, g2, c0, wd]) | (refine And.intro (by omega) ?_) | (refine ifI (fun hc => ?_) (fun hc => ?_) <;> first | (exfalso; omega) | skip) | ((first | apply hK | ((iterate 1 (clear hK K)); apply hK) | ((iterate 2 (clear hK K)); apply hK) | ((iterate 3 (clear hK K)); apply hK) | ((iterate 4 (clear hK K)); apply hK) | ((iterate 5 (clear hK K)); apply hK)); clear hK K) | (refine And.intro ?_ ?_)
        refine Ab.SW.le (St.le_pick [(tb, .svs [Str nm, SL ats, RL l])] ?_ ?_) ?_
        · repeat' (first | exact (fun x hx => (List.not_mem_nil hx).elim) | refine List.forall_mem_cons.2 ⟨?_, ?_⟩ | exact List.mem_cons_self | apply List.mem_cons_of_mem)
        · simp [fresh_cons, fresh_nil, hD]
        clear hD hB
        have hD : (0 : Nat) = 0 := rfl
        obtain ⟨I, hI⟩ : ∃ I : Nat → St → Prop, ∀ k S, I k S ↔ (∃ (j : Nat) (x : SV) (h : Heap), k = l.length - j ∧ j ≤ l.length ∧ Acc 1 x h [(tb, .svs [Str nm, SL ats, RL l])] (outRows q1 q3 a (l.take j)).length (fC nC1 (outRows q1 q3 a (l.take j))) ∧ S = ⟨[(1, I64 a), (2, .op tb 0), (11, I64 q1), (12, I64 q3), (13, U64 (q3 - q1)), (14, x), (66, RL l), (67, I64 l.length), (68, I64 j)], h⟩) := ⟨fun k S => _, fun _ _ => Iff.rfl⟩
        refine SW.loop' I (l.length) ((hI _ _).2 ⟨0, _, _, rfl, Nat.zero_le _, .nil _ _, rfl⟩) (by repeat' (first | exact rfl | exact trivial | exact int_eq (by omega) | exact int_eq (by (rw [i64_wrap] <;> omega)) | constructor)) ?_
        intro k S hIn
        obtain ⟨j, x, h, rfl, hi, hB, rfl⟩ := (hI _ _).1 hIn
        clear hIn
        have ie : ((j : Nat) : Int).toNat = j := Int.toNat_natCast _
        have i0 : (0 : Int) ≤ ((j : Nat) : Int) := by omega
        by_cases hlt : j < l.length
        · have hli : ((j : Nat) : Int) < (((l.length) : Nat) : Int) := by omega
          have w1 : IntKind.i64.wrap ((j : Int) + 1) = ((j + 1 : Nat) : Int) := by rw [i64_wrap (by omega) (by omega)]; omega
          have hg : l.getD j r0 = l[j] := by simp [List.getD_eq_getElem?_getD, hlt]
          have hm := getD_mem r0 hlt
          have htk : l.take (j + 1) = l.take j ++ [l.getD j r0] := by rw [List.take_add_one, List.getElem?_eq_getElem hlt, hg]; rfl
          have har := hal _ hm
          have h6 := h64 _ hm
          obtain ⟨id, vs, hr⟩ : ∃ id vs, l.getD j r0 = (id, vs) := ⟨_, _, rfl⟩
          have tf : rF l j = [I64 id, VL vs] := by unfold rF; rw [hr]; rfl
          have hsn := outRows_snoc q1 q3 a (l.take j) (l.getD j r0)
          rw [← htk, hr] at hsn
          rw [hr] at har h6
          simp only at har h6 hsn
          have h6v := h6 _ (getD_mem v0 har)
          obtain ⟨vk, vn, vt, hv⟩ : ∃ k n t, vs.getD a v0 = (k, n, t) := ⟨_, _, _, rfl⟩
          have tv : vF vs a = [I64 vk, I64 vn, Str vt] := by unfold vF; rw [hv]
          rw [hv] at hsn h6v
          unfold In64 at h6v
          simp only at h6v
          have hlen := outRows_le q1 q3 a (l.take j)
          rw [List.length_take] at hlen
          generalize outRows q1 q3 a (l.take j) = O at *
          have a0 : (0 : Int) ≤ ((a : Nat) : Int) := by omega
          have al : ((a : Nat) : Int) < ((vs.length : Nat) : Int) := by omega
          have ae : ((a : Nat) : Int).toNat = a := Int.toNat_natCast _
          have ba : (O.length + 1) * 8 ≤ 140737488355328 := by omega
          have three : (vn < q1 ∧ ¬ q3 < vn) ∨ (¬ vn < q1 ∧ q3 < vn) ∨ (¬ vn < q1 ∧ ¬ q3 < vn) := by omega
          rcases three with ⟨pa, pb⟩ | ⟨pa, pb⟩ | ⟨pa, pb⟩
          · have wf := u64_diff (a := vn) (b := q1) (by omega) (by omega)
            have fp := far_p (q1 - vn) (q3 - q1) (by omega) (by omega) (by omega) (by omega)
            have hO : outB q1 q3 (vk, vn, vt) = (decide (vk = 1) && farI (q1 - vn) (q3 - q1)) := by
              unfold outB
              simp only
              rw [decide_eq_true pa, decide_eq_false pb, Bool.true_and, Bool.false_and, Bool.or_false]
            generalize farI (q1 - vn) (q3 - q1) = f at *
            cases f with
            | false =>
              rw [Bool.and_false] at hO
              rw [hO, if_neg (by simp)] at hsn
              rcases hB.casesH with ⟨e0, e1, rfl, rfl⟩ | ⟨g2, hgf2, e2, rfl, hle2⟩
              · repeat' first | (with_reducible refine And.intro (by omega) ?_) | (refine SW.seq_k fun K hK => ?_) | (refine SW.block ?_) | ((first | refine SW.region ?_ | refine SW.regionD (Checked.mixed Tryz.checked) (by kernel_rfl) ?_ | refine SW.cond ?_ | refine SW.skip ?_ | refine SW.exit ?_ | refine SW.ret ?_ | refine Call.of_pure (fp) ?_ | refine ⟨_, fp, ?_⟩ | (refine allF_i fun b hb => ?_; replace hD := And.intro hb hD; clear hb; try simp only [fresh_cons, fresh_nil, and_true, ne_eq, neF] at hD) | simp only [appK, appOsK]); try simp only [go_sem, hD, hli, ie, i0, w1, tf, tv, a0, al, ae, ba, pa, pb, wf, wd, true_implies]) | (refine And.intro (by omega) ?_) | (refine ifI (fun hc => ?_) (fun hc => ?_) <;> first | (exfalso; omega) | skip) | ((first | apply hK | ((iterate 1 (clear hK K)); apply hK) | ((iterate 2 (clear hK K)); apply hK) | ((iterate 3 (clear hK K)); apply hK) | ((iterate 4 (clear hK K)); apply hK) | ((iterate 5 (clear hK K)); apply hK)); clear hK K)
                all_goals
                  refine Rnd.le (St.le_pick _ ?_ ?_) (Rnd.sub (l.length - (j + 1)) (by omega) ((hI _ _).2 ⟨j + 1, _, [(tb, .svs [Str nm, SL ats, RL l])], rfl, by omega, (by rw [hsn]; exact hB), rfl⟩) (by repeat' (first | exact rfl | exact trivial | exact int_eq (by omega) | exact int_eq (by (rw [i64_wrap] <;> omega)) | constructor)))
                  · repeat' (first | exact (fun x hx => (List.not_mem_nil hx).elim) | refine List.forall_mem_cons.2 ⟨?_, ?_⟩ | exact List.mem_cons_self | apply List.mem_cons_of_mem)
                  · simp [fresh_cons, fresh_nil, hD]
              · refine Ab.SW.le (hle2 _) ?_
                have hgt2 : ¬ g2 = tb := fun e => hgf2.1.1 e.symm
                have hD := And.intro (eq_false hgt2) hD
                repeat' first | (with_reducible refine And.intro (by omega) ?_) | (refine SW.seq_k fun K hK => ?_) | (refine SW.block ?_) | ((first | refine SW.region ?_ | refine SW.regionD (Checked.mixed Tryz.checked) (by kernel_rfl) ?_ | refine SW.cond ?_ | refine SW.skip ?_ | refine SW.exit ?_ | refine SW.ret ?_ | refine Call.of_pure (fp) ?_ | refine ⟨_, fp, ?_⟩ | (refine allF_i fun b hb => ?_; replace hD := And.intro hb hD; clear hb; try simp only [fresh_cons, fresh_nil, and_true, ne_eq, neF] at hD) | simp only [appK, appOsK]); try simp only [go_sem, hD, hli, ie, i0, w1, tf, tv, a0, al, ae, ba, pa, pb, wf, wd, true_implies, hgt2]) | (refine And.intro (by omega) ?_) | (refine ifI (fun hc => ?_) (fun hc => ?_) <;> first | (exfalso; omega) | skip) | ((first | apply hK | ((iterate 1 (clear hK K)); apply hK) | ((iterate 2 (clear hK K)); apply hK) | ((iterate 3 (clear hK K)); apply hK) | ((iterate 4 (clear hK K)); apply hK) | ((iterate 5 (clear hK K)); apply hK)); clear hK K)
                all_goals
                  refine Rnd.le (St.le_pick _ ?_ ?_) (Rnd.sub (l.length - (j + 1)) (by omega) ((hI _ _).2 ⟨j + 1, _, [(g2, .svs (fC nC1 O)), (tb, .svs [Str nm, SL ats, RL l])], rfl, by omega, (by rw [hsn]; exact Acc.osH hgf2 e2), rfl⟩) (by repeat' (first | exact rfl | exact trivial | exact int_eq (by omega) | exact int_eq (by (rw [i64_wrap] <;> omega)) | constructor)))
                  · repeat' (first | exact (fun x hx => (List.not_mem_nil hx).elim) | refine List.forall_mem_cons.2 ⟨?_, ?_⟩ | exact List.mem_cons_self | apply List.mem_cons_of_mem)
                  · simp [fresh_cons, fresh_nil, hD]
            | true =>
              rw [Bool.and_true] at hO
              by_cases hk : vk = 1
              · rw [hO, decide_eq_true hk, if_pos rfl] at hsn
                subst hk
                rcases hB.casesH with ⟨e0, e1, rfl, rfl⟩ | ⟨g2, hgf2, e2, rfl, hle2⟩
                · have hOn : O = [] := List.eq_nil_of_length_eq_zero e0
                  subst hOn
                  repeat' first | (with_reducible refine And.intro (by omega) ?_) | (refine SW.seq_k fun K hK => ?_) | (refine SW.block ?_) | ((first | refine SW.region ?_ | refine SW.regionD (Checked.mixed Tryz.checked) (by kernel_rfl) ?_ | refine SW.cond ?_ | refine SW.skip ?_ | refine SW.exit ?_ | refine SW.ret ?_ | refine Call.of_pure (fp) ?_ | refine ⟨_, fp, ?_⟩ | (refine allF_i fun b hb => ?_; replace hD := And.intro hb hD; clear hb; try simp only [fresh_cons, fresh_nil, and_true, ne_eq, neF] at hD) | simp only [appK, appOsK]); try simp only [go_sem, hD, hli, ie, i0, w1, tf, tv, a0, al, ae, ba, pa, pb, wf, wd, true_implies]) | (refine And.intro (by omega) ?_) | (refine ifI (fun hc => ?_) (fun hc => ?_) <;> first | (exfalso; omega) | skip) | ((first | apply hK | ((iterate 1 (clear hK K)); apply hK) | ((iterate 2 (clear hK K)); apply hK) | ((iterate 3 (clear hK K)); apply hK) | ((iterate 4 (clear hK K)); apply hK) | ((iterate 5 (clear hK K)); apply hK)); clear hK K)
                  refine Rnd.le (St.le_pick _ ?_ ?_) (Rnd.sub (l.length - (j + 1)) (by omega) ((hI _ _).2 ⟨j + 1, _, [(b, .ints .i64 [id]), (tb, .svs [Str nm, SL ats, RL l])], rfl, by omega, (by rw [hsn]; exact .inr ⟨b, .ints .i64 [id], by simp [fresh_cons, fresh_nil, hD], rfl, rfl, rfl, rfl⟩), rfl⟩) (by repeat' (first | exact rfl | exact trivial | exact int_eq (by omega) | exact int_eq (by (rw [i64_wrap] <;> omega)) | constructor)))
                  · repeat' (first | exact (fun x hx => (List.not_mem_nil hx).elim) | refine List.forall_mem_cons.2 ⟨?_, ?_⟩ | exact List.mem_cons_self | apply List.mem_cons_of_mem)
                  · simp [fresh_cons, fresh_nil, hD]
                · refine Ab.SW.le (hle2 _) ?_
                  have hgt2 : ¬ g2 = tb := fun e => hgf2.1.1 e.symm
                  repeat' first | (with_reducible refine And.intro (by omega) ?_) | (refine SW.seq_k fun K hK => ?_) | (refine SW.block ?_) | ((first | refine SW.region ?_ | refine SW.regionD (Checked.mixed Tryz.checked) (by kernel_rfl) ?_ | refine SW.cond ?_ | refine SW.skip ?_ | refine SW.exit ?_ | refine SW.ret ?_ | refine Call.of_pure (fp) ?_ | refine ⟨_, fp, ?_⟩ | (refine allF_i fun b hb => ?_; replace hD := And.intro hb hD; clear hb; try simp only [fresh_cons, fresh_nil, and_true, ne_eq, neF] at hD) | simp only [appK, appOsK]); try simp only [go_sem, hD, hli, ie, i0, w1, tf, tv, a0, al, ae, ba, pa, pb, wf, wd, true_implies, hgt2, e2]) | (refine And.intro (by omega) ?_) | (refine ifI (fun hc => ?_) (fun hc => ?_) <;> first | (exfalso; omega) | skip) | ((first | apply hK | ((iterate 1 (clear hK K)); apply hK) | ((iterate 2 (clear hK K)); apply hK) | ((iterate 3 (clear hK K)); apply hK) | ((iterate 4 (clear hK K)); apply hK) | ((iterate 5 (clear hK K)); apply hK)); clear hK K)
                  refine Rnd.le (St.le_pick _ ?_ ?_) (Rnd.sub (l.length - (j + 1)) (by omega) ((hI _ _).2 ⟨j + 1, _, [(b, .svs (fC nC1 O ++ nC1 id)), (tb, .svs [Str nm, SL ats, RL l])], rfl, by omega, (by rw [hsn, List.length_append, ← fC_snoc]; exact Acc.osH (by simp [fresh_cons, fresh_nil, hD]) (by rw [List.length_append, ← e2]; simp [nC1])), rfl⟩) (by repeat' (first | exact rfl | exact trivial | exact int_eq (by omega) | exact int_eq (by (rw [i64_wrap] <;> omega)) | constructor)))
                  · repeat' (first | exact (fun x hx => (List.not_mem_nil hx).elim) | refine List.forall_mem_cons.2 ⟨?_, ?_⟩ | exact List.mem_cons_self | apply List.mem_cons_of_mem)
                  · simp [fresh_cons, fresh_nil, hD]
              · rw [hO, decide_eq_false hk, if_neg (by simp)] at hsn
                have hk0 := eq_false hk
                rcases hB.casesH with ⟨e0, e1, rfl, rfl⟩ | ⟨g2, hgf2, e2, rfl, hle2⟩
                · repeat' first | (with_reducible refine And.intro (by omega) ?_) | (refine SW.seq_k fun K hK => ?_) | (refine SW.block ?_) | ((first | refine SW.region ?_ | refine SW.regionD (Checked.mixed Tryz.checked) (by kernel_rfl) ?_ | refine SW.cond ?_ | refine SW.skip ?_ | refine SW.exit ?_ | refine SW.ret ?_ | refine Call.of_pure (fp) ?_ | refine ⟨_, fp, ?_⟩ | (refine allF_i fun b hb => ?_; replace hD := And.intro hb hD; clear hb; try simp only [fresh_cons, fresh_nil, and_true, ne_eq, neF] at hD) | simp only [appK, appOsK]); try simp only [go_sem, hD, hli, ie, i0, w1, tf, tv, a0, al, ae, ba, pa, pb, wf, wd, true_implies, hk0]) | (refine And.intro (by omega) ?_) | (refine ifI (fun hc => ?_) (fun hc => ?_) <;> first | (exfalso; omega) | skip) | ((first | apply hK | ((iterate 1 (clear hK K)); apply hK) | ((iterate 2 (clear hK K)); apply hK) | ((iterate 3 (clear hK K)); apply hK) | ((iterate 4 (clear hK K)); apply hK) | ((iterate 5 (clear hK K)); apply hK)); clear hK K)
                  refine Rnd.le (St.le_pick _ ?_ ?_) (Rnd.sub (l.length - (j + 1)) (by omega) ((hI _ _).2 ⟨j + 1, _, [(tb, .svs [Str nm, SL ats, RL l])], rfl, by omega, (by rw [hsn]; exact hB), rfl⟩) (by repeat' (first | exact rfl | exact trivial | exact int_eq (by omega) | exact int_eq (by (rw [i64_wrap] <;> omega)) | constructor)))
                  · repeat' (first | exact (fun x hx => (List.not_mem_nil hx).elim) | refine List.forall_mem_cons.2 ⟨?_, ?_⟩ | exact List.mem_cons_self | apply List.mem_cons_of_mem)
                  · simp [fresh_cons, fresh_nil, hD]
                · refine Ab.SW.le (hle2 _) ?_
                  have hgt2 : ¬ g2 = tb := fun e => hgf2.1.1 e.symm
                  have hD := And.intro (eq_false hgt2) hD
                  repeat' first | (with_reducible refine And.intro (by omega) ?_) | (refine SW.seq_k fun K hK => ?_) | (refine SW.block ?_) | ((first | refine SW.region ?_ | refine SW.regionD (Checked.mixed Tryz.checked) (by kernel_rfl) ?_ | refine SW.cond ?_ | refine SW.skip ?_ | refine SW.exit ?_ | refine SW.ret ?_ | refine Call.of_pure (fp) ?_ | refine ⟨_, fp, ?_⟩ | (refine allF_i fun b hb => ?_; replace hD := And.intro hb hD; clear hb; try simp only [fresh_cons, fresh_nil, and_true, ne_eq, neF] at hD) | simp only [appK, appOsK]); try simp only [go_sem, hD, hli, ie, i0, w1, tf, tv, a0, al, ae, ba, pa, pb, wf, wd, true_implies, hgt2, hk0]) | (refine And.intro (by omega) ?_) | (refine ifI (fun hc => ?_) (fun hc => ?_) <;> first | (exfalso; omega) | skip) | ((first | apply hK | ((iterate 1 (clear hK K)); apply hK) | ((iterate 2 (clear hK K)); apply hK) | ((iterate 3 (clear hK K)); apply hK) | ((iterate 4 (clear hK K)); apply hK) | ((iterate 5 (clear hK K)); apply hK)); clear hK K)
                  refine Rnd.le (St.le_pick _ ?_ ?_) (Rnd.sub (l.length - (j + 1)) (by omega) ((hI _ _).2 ⟨j + 1, _, [(g2, .svs (fC nC1 O)), (tb, .svs [Str nm, SL ats, RL l])], rfl, by omega, (by rw [hsn]; exact Acc.osH hgf2 e2), rfl⟩) (by repeat' (first | exact rfl | exact trivial | exact int_eq (by omega) | exact int_eq (by (rw [i64_wrap] <;> omega)) | constructor)))
                  · repeat' (first | exact (fun x hx => (List.not_mem_nil hx).elim) | refine List.forall_mem_cons.2 ⟨?_, ?_⟩ | exact List.mem_cons_self | apply List.mem_cons_of_mem)
                  · simp [fresh_cons, fresh_nil, hD]
          · have wf := u64_diff (a := q3) (b := vn) (by omega) (by omega)
            have fp := far_p (vn - q3) (q3 - q1) (by omega) (by omega) (by omega) (by omega)
            have hO : outB q1 q3 (vk, vn, vt) = (decide (vk = 1) && farI (vn - q3) (q3 - q1)) := by
              unfold outB
              simp only
              rw [decide_eq_false pa, decide_eq_true pb, Bool.true_and, Bool.false_and, Bool.false_or]
            generalize farI (vn - q3) (q3 - q1) = f at *
            cases f with
            | false =>
              rw [Bool.and_false] at hO
              rw [hO, if_neg (by simp)] at hsn
              rcases hB.casesH with ⟨e0, e1, rfl, rfl⟩ | ⟨g2, hgf2, e2, rfl, hle2⟩
              · repeat' first | (with_reducible refine And.intro (by omega) ?_) | (refine SW.seq_k fun K hK => ?_) | (refine SW.block ?_) | ((first | refine SW.region ?_ | refine SW.regionD (Checked.mixed Tryz.checked) (by kernel_rfl) ?_ | refine SW.cond ?_ | refine SW.skip ?_ | refine SW.exit ?_ | refine SW.ret ?_ | refine Call.of_pure (fp) ?_ | refine ⟨_, fp, ?_⟩ | (refine allF_i fun b hb => ?_; replace hD := And.intro hb hD; clear hb; try simp only [fresh_cons, fresh_nil, and_true, ne_eq, neF] at hD) | simp only [appK, appOsK]); try simp only [go_sem, hD, hli, ie, i0, w1, tf, tv, a0, al, ae, ba, pa, pb, wf, wd, true_implies]) | (refine And.intro (by omega) ?_) | (refine ifI (fun hc => ?_) (fun hc => ?_) <;> first | (exfalso; omega) | skip) | ((first | apply hK | ((iterate 1 (clear hK K)); apply hK) | ((iterate 2 (clear hK K)); apply hK) | ((iterate 3 (clear hK K)); apply hK) | ((iterate 4 (clear hK K)); apply hK) | ((iterate 5 (clear hK K)); apply hK)); clear hK K)
                all_goals
                  refine Rnd.le (St.le_pick _ ?_ ?_) (Rnd.sub (l.length - (j + 1)) (by omega) ((hI _ _).2 ⟨j + 1, _, [(tb, .svs [Str nm, SL ats, RL l])], rfl, by omega, (by rw [hsn]; exact hB), rfl⟩) (by repeat' (first | exact rfl | exact trivial | exact int_eq (by omega) | exact int_eq (by (rw [i64_wrap] <;> omega)) | constructor)))
                  · repeat' (first | exact (fun x hx => (List.not_mem_nil hx).elim) | refine List.forall_mem_cons.2 ⟨?_, ?_⟩ | exact List.mem_cons_self | apply List.mem_cons_of_mem)
                  · simp [fresh_cons, fresh_nil, hD]
              · refine Ab.SW.le (hle2 _) ?_
                have hgt2 : ¬ g2 = tb := fun e => hgf2.1.1 e.symm
                have hD := And.intro (eq_false hgt2) hD
                repeat' first | (with_reducible refine And.intro (by omega) ?_) | (refine SW.seq_k fun K hK => ?_) | (refine SW.block ?_) | ((first | refine SW.region ?_ | refine SW.regionD (Checked.mixed Tryz.checked) (by kernel_rfl) ?_ | refine SW.cond ?_ | refine SW.skip ?_ | refine SW.exit ?_ | refine SW.ret ?_ | refine Call.of_pure (fp) ?_ | refine ⟨_, fp, ?_⟩ | (refine allF_i fun b hb => ?_; replace hD := And.intro hb hD; clear hb; try simp only [fresh_cons, fresh_nil, and_true, ne_eq, neF] at hD) | simp only [appK, appOsK]); try simp only [go_sem, hD, hli, ie, i0, w1, tf, tv, a0, al, ae, ba, pa, pb, wf, wd, true_implies, hgt2]) | (refine And.intro (by omega) ?_) | (refine ifI (fun hc => ?_) (fun hc => ?_) <;> first | (exfalso; omega) | skip) | ((first | apply hK | ((iterate 1 (clear hK K)); apply hK) | ((iterate 2 (clear hK K)); apply hK) | ((iterate 3 (clear hK K)); apply hK) | ((iterate 4 (clear hK K)); apply hK) | ((iterate 5 (clear hK K)); apply hK)); clear hK K)
                all_goals
                  refine Rnd.le (St.le_pick _ ?_ ?_) (Rnd.sub (l.length - (j + 1)) (by omega) ((hI _ _).2 ⟨j + 1, _, [(g2, .svs (fC nC1 O)), (tb, .svs [Str nm, SL ats, RL l])], rfl, by omega, (by rw [hsn]; exact Acc.osH hgf2 e2), rfl⟩) (by repeat' (first | exact rfl | exact trivial | exact int_eq (by omega) | exact int_eq (by (rw [i64_wrap] <;> omega)) | constructor)))
                  · repeat' (first | exact (fun x hx => (List.not_mem_nil hx).elim) | refine List.forall_mem_cons.2 ⟨?_, ?_⟩ | exact List.mem_cons_self | apply List.mem_cons_of_mem)
                  · simp [fresh_cons, fresh_nil, hD]
            | true =>
              rw [Bool.and_true] at hO
              by_cases hk : vk = 1
              · rw [hO, decide_eq_true hk, if_pos rfl] at hsn
                subst hk
                rcases hB.casesH with ⟨e0, e1, rfl, rfl⟩ | ⟨g2, hgf2, e2, rfl, hle2⟩
                · have hOn : O = [] := List.eq_nil_of_length_eq_zero e0
                  subst hOn
                  repeat' first | (with_reducible refine And.intro (by omega) ?_) | (refine SW.seq_k fun K hK => ?_) | (refine SW.block ?_) | ((first | refine SW.region ?_ | refine SW.regionD (Checked.mixed Tryz.checked) (by kernel_rfl) ?_ | refine SW.cond ?_ | refine SW.skip ?_ | refine SW.exit ?_ | refine SW.ret ?_ | refine Call.of_pure (fp) ?_ | refine ⟨_, fp, ?_⟩ | (refine allF_i fun b hb => ?_; replace hD := And.intro hb hD; clear hb; try simp only [fresh_cons, fresh_nil, and_true, ne_eq, neF] at hD) | simp only [appK, appOsK]); try simp only [go_sem, hD, hli, ie, i0, w1, tf, tv, a0, al, ae, ba, pa, pb, wf, wd, true_implies]) | (refine And.intro (by omega) ?_) | (refine ifI (fun hc => ?_) (fun hc => ?_) <;> first | (exfalso; omega) | skip) | ((first | apply hK | ((iterate 1 (clear hK K)); apply hK) | ((iterate 2 (clear hK K)); apply hK) | ((iterate 3 (clear hK K)); apply hK) | ((iterate 4 (clear hK K)); apply hK) | ((iterate 5 (clear hK K)); apply hK)); clear hK K)
                  refine Rnd.le (St.le_pick _ ?_ ?_) (Rnd.sub (l.length - (j + 1)) (by omega) ((hI _ _).2 ⟨j + 1, _, [(b, .ints .i64 [id]), (tb, .svs [Str nm, SL ats, RL l])], rfl, by omega, (by rw [hsn]; exact .inr ⟨b, .ints .i64 [id], by simp [fresh_cons, fresh_nil, hD], rfl, rfl, rfl, rfl⟩), rfl⟩) (by repeat' (first | exact rfl | exact trivial | exact int_eq (by omega) | exact int_eq (by (rw [i64_wrap] <;> omega)) | constructor)))
                  · repeat' (first | exact (fun x hx => (List.not_mem_nil hx).elim) | refine List.forall_mem_cons.2 ⟨?_, ?_⟩ | exact List.mem_cons_self | apply List.mem_cons_of_mem)
                  · simp [fresh_cons, fresh_nil, hD]
                · refine Ab.SW.le (hle2 _) ?_
                  have hgt2 : ¬ g2 = tb := fun e => hgf2.1.1 e.symm
                  repeat' first | (with_reducible refine And.intro (by omega) ?_) | (refine SW.seq_k fun K hK => ?_) | (refine SW.block ?_) | ((first | refine SW.region ?_ | refine SW.regionD (Checked.mixed Tryz.checked) (by kernel_rfl) ?_ | refine SW.cond ?_ | refine SW.skip ?_ | refine SW.exit ?_ | refine SW.ret ?_ | refine Call.of_pure (fp) ?_ | refine ⟨_, fp, ?_⟩ | (refine allF_i fun b hb => ?_; replace hD := And.intro hb hD; clear hb; try simp only [fresh_cons, fresh_nil, and_true, ne_eq, neF] at hD) | simp only [appK, appOsK]); try simp only [go_sem, hD, hli, ie, i0, w1, tf, tv, a0, al, ae, ba, pa, pb, wf, wd, true_implies, hgt2, e2]) | (refine And.intro (by omega) ?_) | (refine ifI (fun hc => ?_) (fun hc => ?_) <;> first | (exfalso; omega) | skip) | ((first | apply hK | ((iterate 1 (clear hK K)); apply hK) | ((iterate 2 (clear hK K)); apply hK) | ((iterate 3 (clear hK K)); apply hK) | ((iterate 4 (clear hK K)); apply hK) | ((iterate 5 (clear hK K)); apply hK)); clear hK K)
                  refine Rnd.le (St.le_pick _ ?_ ?_) (Rnd.sub (l.length - (j + 1)) (by omega) ((hI _ _).2 ⟨j + 1, _, [(b, .svs (fC nC1 O ++ nC1 id)), (tb, .svs [Str nm, SL ats, RL l])], rfl, by omega, (by rw [hsn, List.length_append, ← fC_snoc]; exact Acc.osH (by simp [fresh_cons, fresh_nil, hD]) (by rw [List.length_append, ← e2]; simp [nC1])), rfl⟩) (by repeat' (first | exact rfl | exact trivial | exact int_eq (by omega) | exact int_eq (by (rw [i64_wrap] <;> omega)) | constructor)))
                  · repeat' (first | exact (fun x hx => (List.not_mem_nil hx).elim) | refine List.forall_mem_cons.2 ⟨?_, ?_⟩ | exact List.mem_cons_self | apply List.mem_cons_of_mem)
                  · simp [fresh_cons, fresh_nil, hD]
              · rw [hO, decide_eq_false hk, if_neg (by simp)] at hsn
                have hk0 := eq_false hk
                rcases hB.casesH with ⟨e0, e1, rfl, rfl⟩ | ⟨g2, hgf2, e2, rfl, hle2⟩
                · repeat' first | (with_reducible refine And.intro (by omega) ?_) | (refine SW.seq_k fun K hK => ?_) | (refine SW.block ?_) | ((first | refine SW.region ?_ | refine SW.regionD (Checked.mixed Tryz.checked) (by kernel_rfl) ?_ | refine SW.cond ?_ | refine SW.skip ?_ | refine SW.exit ?_ | refine SW.ret ?_ | refine Call.of_pure (fp) ?_ | refine ⟨_, fp, ?_⟩ | (refine allF_i fun b hb => ?_; replace hD := And.intro hb hD; clear hb; try simp only [fresh_cons, fresh_nil, and_true, ne_eq, neF] at hD) | simp only [appK, appOsK]); try simp only [go_sem, hD, hli, ie, i0, w1, tf, tv, a0, al, ae, ba, pa, pb, wf, wd, true_implies, hk0]) | (refine And.intro (by omega) ?_) | (refine ifI (fun hc => ?_) (fun hc => ?_) <;> first | (exfalso; omega) | skip) | ((first | apply hK | ((iterate 1 (clear hK K)); apply hK) | ((iterate 2 (clear hK K)); apply hK) | ((iterate 3 (clear hK K)); apply hK) | ((iterate 4 (clear hK K)); apply hK) | ((iterate 5 (clear hK K)); apply hK)); clear hK K)
                  refine Rnd.le (St.le_pick _ ?_ ?_) (Rnd.sub (l.length - (j + 1)) (by omega) ((hI _ _).2 ⟨j + 1, _, [(tb, .svs [Str nm, SL ats, RL l])], rfl, by omega, (by rw [hsn]; exact hB), rfl⟩) (by repeat' (first | exact rfl | exact trivial | exact int_eq (by omega) | exact int_eq (by (rw [i64_wrap] <;> omega)) | constructor)))
                  · repeat' (first | exact (fun x hx => (List.not_mem_nil hx).elim) | refine List.forall_mem_cons.2 ⟨?_, ?_⟩ | exact List.mem_cons_self | apply List.mem_cons_of_mem)
                  · simp [fresh_cons, fresh_nil, hD]
                · refine Ab.SW.le (hle2 _) ?_
                  have hgt2 : ¬ g2 = tb := fun e => hgf2.1.1 e.symm
                  have hD := And.intro (eq_false hgt2) hD
                  repeat' first | (with_reducible refine And.intro (by omega) ?_) | (refine SW.seq_k fun K hK => ?_) | (refine SW.block ?_) | ((first | refine SW.region ?_ | refine SW.regionD (Checked.mixed Tryz.checked) (by kernel_rfl) ?_ | refine SW.cond ?_ | refine SW.skip ?_ | refine SW.exit ?_ | refine SW.ret ?_ | refine Call.of_pure (fp) ?_ | refine ⟨_, fp, ?_⟩ | (refine allF_i fun b hb => ?_; replace hD := And.intro hb hD; clear hb; try simp only [fresh_cons, fresh_nil, and_true, ne_eq, neF] at hD) | simp only [appK, appOsK]); try simp only [go_sem, hD, hli, ie, i0, w1, tf, tv, a0, al, ae, ba, pa, pb, wf, wd, true_implies, hgt2, hk0]) | (refine And.intro (by omega) ?_) | (refine ifI (fun hc => ?_) (fun hc => ?_) <;> first | (exfalso; omega) | skip) | ((first | apply hK | ((iterate 1 (clear hK K)); apply hK) | ((iterate 2 (clear hK K)); apply hK) | ((iterate 3 (clear hK K)); apply hK) | ((iterate 4 (clear hK K)); apply hK) | ((iterate 5 (clear hK K)); apply hK)); clear hK K)
                  refine Rnd.le (St.le_pick _ ?_ ?_) (Rnd.sub (l.length - (j + 1)) (by omega) ((hI _ _).2 ⟨j + 1, _, [(g2, .svs (fC nC1 O)), (tb, .svs [Str nm, SL ats, RL l])], rfl, by omega, (by rw [hsn]; exact Acc.osH hgf2 e2), rfl⟩) (by repeat' (first | exact rfl | exact trivial | exact int_eq (by omega) | exact int_eq (by (rw [i64_wrap] <;> omega)) | constructor)))
                  · repeat' (first | exact (fun x hx => (List.not_mem_nil hx).elim) | refine List.forall_mem_cons.2 ⟨?_, ?_⟩ | exact List.mem_cons_self | apply List.mem_cons_of_mem)
                  · simp [fresh_cons, fresh_nil, hD]
          · have wf : (0 : Nat) = 0 := rfl
            have fp := va
            obtain ⟨f, hf⟩ : ∃ f, f = false := ⟨_, rfl⟩
            have hO : outB q1 q3 (vk, vn, vt) = (decide (vk = 1) && f) := by
              unfold outB
              simp only
              rw [decide_eq_false pa, decide_eq_false pb, Bool.false_and, Bool.false_and, Bool.or_false, hf]
            cases f with
            | true => cases hf
            | false =>
              rw [Bool.and_false] at hO
              rw [hO, if_neg (by simp)] at hsn
              rcases hB.casesH with ⟨e0, e1, rfl, rfl⟩ | ⟨g2, hgf2, e2, rfl, hle2⟩
              · repeat' first | (with_reducible refine And.intro (by omega) ?_) | (refine SW.seq_k fun K hK => ?_) | (refine SW.block ?_) | ((first | refine SW.region ?_ | refine SW.regionD (Checked.mixed Tryz.checked) (by kernel_rfl) ?_ | refine SW.cond ?_ | refine SW.skip ?_ | refine SW.exit ?_ | refine SW.ret ?_ | refine Call.of_pure (fp) ?_ | refine ⟨_, fp, ?_⟩ | (refine allF_i fun b hb => ?_; replace hD := And.intro hb hD; clear hb; try simp only [fresh_cons, fresh_nil, and_true, ne_eq, neF] at hD) | simp only [appK, appOsK]); try simp only [go_sem, hD, hli, ie, i0, w1, tf, tv, a0, al, ae, ba, pa, pb, wf, wd, true_implies]) | (refine And.intro (by omega) ?_) | (refine ifI (fun hc => ?_) (fun hc => ?_) <;> first | (exfalso; omega) | skip) | ((first | apply hK | ((iterate 1 (clear hK K)); apply hK) | ((iterate 2 (clear hK K)); apply hK) | ((iterate 3 (clear hK K)); apply hK) | ((iterate 4 (clear hK K)); apply hK) | ((iterate 5 (clear hK K)); apply hK)); clear hK K)
                all_goals
                  refine Rnd.le (St.le_pick _ ?_ ?_) (Rnd.sub (l.length - (j + 1)) (by omega) ((hI _ _).2 ⟨j + 1, _, [(tb, .svs [Str nm, SL ats, RL l])], rfl, by omega, (by rw [hsn]; exact hB), rfl⟩) (by repeat' (first | exact rfl | exact trivial | exact int_eq (by omega) | exact int_eq (by (rw [i64_wrap] <;> omega)) | constructor)))
                  · repeat' (first | exact (fun x hx => (List.not_mem_nil hx).elim) | refine List.forall_mem_cons.2 ⟨?_, ?_⟩ | exact List.mem_cons_self | apply List.mem_cons_of_mem)
                  · simp [fresh_cons, fresh_nil, hD]
              · refine Ab.SW.le (hle2 _) ?_
                have hgt2 : ¬ g2 = tb := fun e => hgf2.1.1 e.symm
                have hD := And.intro (eq_false hgt2) hD
                repeat' first | (with_reducible refine And.intro (by omega) ?_) | (refine SW.seq_k fun K hK => ?_) | (refine SW.block ?_) | ((first | refine SW.region ?_ | refine SW.regionD (Checked.mixed Tryz.checked) (by kernel_rfl) ?_ | refine SW.cond ?_ | refine SW.skip ?_ | refine SW.exit ?_ | refine SW.ret ?_ | refine Call.of_pure (fp) ?_ | refine ⟨_, fp, ?_⟩ | (refine allF_i fun b hb => ?_; replace hD := And.intro hb hD; clear hb; try simp only [fresh_cons, fresh_nil, and_true, ne_eq, neF] at hD) | simp only [appK, appOsK]); try simp only [go_sem, hD, hli, ie, i0, w1, tf, tv, a0, al, ae, ba, pa, pb, wf, wd, true_implies, hgt2]) | (refine And.intro (by omega) ?_) | (refine ifI (fun hc => ?_) (fun hc => ?_) <;> first | (exfalso; omega) | skip) | ((first | apply hK | ((iterate 1 (clear hK K)); apply hK) | ((iterate 2 (clear hK K)); apply hK) | ((iterate 3 (clear hK K)); apply hK) | ((iterate 4 (clear hK K)); apply hK) | ((iterate 5 (clear hK K)); apply hK)); clear hK K)
                all_goals
                  refine Rnd.le (St.le_pick _ ?_ ?_) (Rnd.sub (l.length - (j + 1)) (by omega) ((hI _ _).2 ⟨j + 1, _, [(g2, .svs (fC nC1 O)), (tb, .svs [Str nm, SL ats, RL l])], rfl, by omega, (by rw [hsn]; exact Acc.osH hgf2 e2), rfl⟩) (by repeat' (first | exact rfl | exact trivial | exact int_eq (by omega) | exact int_eq (by (rw [i64_wrap] <;> omega)) | constructor)))
                  · repeat' (first | exact (fun x hx => (List.not_mem_nil hx).elim) | refine List.forall_mem_cons.2 ⟨?_, ?_⟩ | exact List.mem_cons_self | apply List.mem_cons_of_mem)
                  · simp [fresh_cons, fresh_nil, hD]
        · have hli : ¬ ((j : Nat) : Int) < (((l.length) : Nat) : Int) := by omega
          obtain rfl : j = l.length := by omega
          rw [List.take_length, ← hX] at hB
          rcases hB.casesH with ⟨e0, e1, rfl, rfl⟩ | ⟨g2, hgf2, e2, rfl, hle2⟩
          · repeat' first | (with_reducible refine And.intro (by omega) ?_) | (refine SW.seq_k fun K hK => ?_) | (refine SW.block ?_) | ((first | refine SW.region ?_ | refine SW.regionD (Checked.mixed Tryz.checked) (by kernel_rfl) ?_ | refine SW.cond ?_ | refine SW.skip ?_ | refine SW.exit ?_ | refine SW.ret ?_ | (refine allF_i fun b hb => ?_; replace hD := And.intro hb hD; clear hb; try simp only [fresh_cons, fresh_nil, and_true, ne_eq, neF] at hD) | simp only [appK, appOsK]); try simp only [go_sem, hD, hli, true_implies]) | (refine And.intro (by omega) ?_) | (refine ifI (fun hc => ?_) (fun hc => ?_) <;> first | (exfalso; omega) | skip) | ((first | apply hK | ((iterate 1 (clear hK K)); apply hK) | ((iterate 2 (clear hK K)); apply hK) | ((iterate 3 (clear hK K)); apply hK) | ((iterate 4 (clear hK K)); apply hK) | ((iterate 5 (clear hK K)); apply hK)); clear hK K)
            refine retQ_le ((St.le_acc_fl (i := 4) (n := X.length) (sz := 1) (x := .sc (.slice none 0 0)) ?_ hB (fun j => [I64 (X.getD j 0)]) (fun j hj => fC_at nC1_len 0 _ j hj)).trans St.le_drop) ?_
            · exact rfl
            · simp only [resL_tmp, resL_nil, tupOf, go_sem, hD]
              rfl
          · refine Ab.SW.le (hle2 _) ?_
            have hgt2 : ¬ g2 = tb := fun e => hgf2.1.1 e.symm
            repeat' first | (with_reducible refine And.intro (by omega) ?_) | (refine SW.seq_k fun K hK => ?_) | (refine SW.block ?_) | ((first | refine SW.region ?_ | refine SW.regionD (Checked.mixed Tryz.checked) (by kernel_rfl) ?_ | refine SW.cond ?_ | refine SW.skip ?_ | refine SW.exit ?_ | refine SW.ret ?_ | (refine allF_i fun b hb => ?_; replace hD := And.intro hb hD; clear hb; try simp only [fresh_cons, fresh_nil, and_true, ne_eq, neF] at hD) | simp only [appK, appOsK]); try simp only [go_sem, hD, hli, true_implies, hgt2]) | (refine And.intro (by omega) ?_) | (refine ifI (fun hc => ?_) (fun hc => ?_) <;> first | (exfalso; omega) | skip) | ((first | apply hK | ((iterate 1 (clear hK K)); apply hK) | ((iterate 2 (clear hK K)); apply hK) | ((iterate 3 (clear hK K)); apply hK) | ((iterate 4 (clear hK K)); apply hK) | ((iterate 5 (clear hK K)); apply hK)); clear hK K)
            refine retQ_le ((St.le_acc_fl (i := 4) (n := X.length) (sz := 1) (x := .os g2 0 X.length 1) ?_ (Acc.osH hgf2 e2) (fun j => [I64 (X.getD j 0)]) (fun j hj => fC_at nC1_len 0 _ j hj)).trans St.le_drop) ?_
            · exact rfl
            · simp only [resL_tmp, resL_nil, tupOf, go_sem, hD]
              rfl
end Go.Proofs.YtddkacbcecedaaaGreatDoor
