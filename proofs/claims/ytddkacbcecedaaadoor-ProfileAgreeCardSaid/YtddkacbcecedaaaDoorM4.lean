/- Several texts in one: I2, C2, C1, J1. -/
import Derived.Test.YtddkacbcecedaaaDoorM3
import Derived.Test.YtddkacbcecedaaaDoorB1
import Derived.Test.YtddkacbcecedaaaDoorZ5
/- Contracts: quartiles and outliers of the program. -/
set_option linter.unusedSimpArgs false
set_option linter.unusedVariables false
set_option linter.unusedSectionVars false
namespace Go.Ab.A34
open Go Go.Ab Go.Proofs
def nC1 (n : Int) : List SV := [I64 n]
theorem nC1_len (n : Int) : (nC1 n).length = 1 := rfl
/-- The numbers of a column. -/
def numsOf (C : List V3) : List Int := (C.filter fun v => decide (v.1 = 1)).map fun v => v.2.1
theorem numsOf_snoc (C : List V3) (v : V3) : numsOf (C ++ [v]) = if v.1 = 1 then numsOf C ++ [v.2.1] else numsOf C := by
  unfold numsOf
  rw [List.filter_append, List.map_append]
  by_cases h : v.1 = 1
  · rw [if_pos h]; simp [h]
  · rw [if_neg h]; simp [h]
theorem numsOf_le (C : List V3) : (numsOf C).length ≤ C.length := by
  unfold numsOf
  rw [List.length_map]
  exact List.length_filter_le _ _
def q1S (L : List Int) : Int := L.getD ((L.length - 1) / 4) 0
def q3S (L : List Int) : Int := L.getD (3 * (L.length - 1) / 4) 0
/-- A value is far outside. -/
def outB (q1 q3 : Int) (v : V3) : Bool := decide (v.1 = 1) && ((decide (v.2.1 < q1) && farI (q1 - v.2.1) (q3 - q1)) || (decide (q3 < v.2.1) && farI (v.2.1 - q3) (q3 - q1)))
def outRows (q1 q3 : Int) (a : Nat) (l : List R3) : List Int := (l.filter fun r => outB q1 q3 (r.2.getD a v0)).map (·.1)
theorem outRows_snoc (q1 q3 : Int) (a : Nat) (l : List R3) (r : R3) : outRows q1 q3 a (l ++ [r]) = if outB q1 q3 (r.2.getD a v0) = true then outRows q1 q3 a l ++ [r.1] else outRows q1 q3 a l := by
  unfold outRows
  rw [List.filter_append, List.map_append]
  by_cases h : outB q1 q3 (r.2.getD a v0) = true
  · rw [if_pos h, List.filter_cons_of_pos (by exact h)]; rfl
  · rw [if_neg h, List.filter_cons_of_neg (by exact h)]; simp
theorem outRows_le (q1 q3 : Int) (a : Nat) (l : List R3) : (outRows q1 q3 a l).length ≤ l.length := by
  unfold outRows
  rw [List.length_map]
  exact List.length_filter_le _ _
/-- The rows with outliers. -/
def outS (t : Tb) (a : Nat) : List Int := if (numsOf (colS t a)).length < 4 then [] else outRows (q1S (numsOf (colS t a))) (q3S (numsOf (colS t a))) a t.rows
theorem nums_sorted : ∀ {C : List V3}, (C.Pairwise fun x y => cmp3 x y ≤ 0) → (numsOf C).Pairwise (· ≤ ·) := fun {C} h => by
  unfold numsOf
  rw [List.pairwise_map]
  refine (h.filter _).imp_of_mem ?_
  intro x y hx hy hxy
  have h1 := of_decide_eq_true (List.mem_filter.1 hx).2
  have h2 := of_decide_eq_true (List.mem_filter.1 hy).2
  unfold cmp3 at hxy
  rw [cmpV_lex, h1, h2] at hxy
  unfold lex at hxy
  rw [if_pos (sgn_zero.2 rfl)] at hxy
  rcases sgn_cases x.2.1 y.2.1 with ⟨_, h⟩ | ⟨_, h⟩ | ⟨h, _⟩
  · omega
  · omega
  · rw [h] at hxy
    simp at hxy
theorem quart_le {L : List Int} (h : L.Pairwise (· ≤ ·)) (h4 : 4 ≤ L.length) : q1S L ≤ q3S L := by
  unfold q1S q3S
  have i1 : (L.length - 1) / 4 < L.length := by omega
  have i2 : 3 * (L.length - 1) / 4 < L.length := by omega
  rw [List.getD_eq_getElem?_getD, List.getD_eq_getElem?_getD, List.getElem?_eq_getElem i1, List.getElem?_eq_getElem i2]
  simp only [Option.getD_some]
  exact List.pairwise_iff_getElem.1 h _ _ i1 i2 (by omega)
theorem col_mem {t : Tb} {a : Nat} (ha : ∀ r ∈ t.rows, a < r.2.length) {P : V3 → Prop} (hP : ∀ r ∈ t.rows, ∀ v ∈ r.2, P v) : ∀ v ∈ colS t a, P v := fun v hv => by
  unfold colS at hv
  rw [(sortV_perm _).mem_iff] at hv
  obtain ⟨r, hr, rfl⟩ := List.mem_map.1 hv
  exact hP r hr _ (getD_mem v0 (ha r hr))
theorem numsOf_mem {C : List V3} {P : Int → Prop} (hP : ∀ v ∈ C, P v.2.1) : ∀ n ∈ numsOf C, P n := fun n hn => by
  unfold numsOf at hn
  obtain ⟨v, hv, rfl⟩ := List.mem_map.1 hn
  exact hP v (List.mem_filter.1 hv).1
theorem fC1_get : ∀ (L : List Int) (j : Nat), j < L.length → (fC nC1 L).getD j .any = I64 (L.getD j 0)
  | [], j, h => absurd h (by simp)
  | a :: L, 0, _ => rfl
  | a :: L, j + 1, h => fC1_get L j (by rw [List.length_cons] at h; omega)
end Go.Ab.A34
namespace Go.Proofs.YtddkacbcecedaaaDoor
open Go Go.Ab Go.Ab.A34
variable [Gl] [Tabs]

theorem out_p_bad (t : Tb) (a : Int) (h : ¬ chkS t a = 0) : PCall Tryd.prog 11 [TB t, I64 a] (.tup [NL [], I64 (chkS t a)]) := by
  have va := checked_p t a
  generalize chkS t a = e at *
  refine Call.enter' (N := 121) (rs := [.tmp 4, .tmp 5]) Tryd.func11 rfl rfl rfl (by decide) rfl ?_; simp only [argT]; have hD : (0 : Nat) = 0 := rfl
  repeat' first | (with_reducible refine And.intro (by omega) ?_) | (refine SW.seq_k fun K hK => ?_) | (refine SW.block ?_) | ((first | refine SW.region ?_ | refine SW.regionD (Checked.mixed Tryd.checked) (by kernel_rfl) ?_ | refine SW.cond ?_ | refine SW.skip ?_ | refine SW.exit ?_ | refine SW.ret ?_ | refine Call.of_pure (va) ?_ | refine ⟨_, va, ?_⟩ | (refine allF_i fun b hb => ?_; replace hD := And.intro hb hD; clear hb; try simp only [fresh_cons, fresh_nil, and_true, ne_eq, neF] at hD) | simp only [appK, appOsK]); try simp only [go_sem, hD, h]) | (refine And.intro (by omega) ?_) | (refine ifI (fun hc => ?_) (fun hc => ?_) <;> first | (exfalso; omega) | skip) | ((first | apply hK | ((iterate 1 (clear hK K)); apply hK) | ((iterate 2 (clear hK K)); apply hK) | ((iterate 3 (clear hK K)); apply hK) | ((iterate 4 (clear hK K)); apply hK) | ((iterate 5 (clear hK K)); apply hK)); clear hK K)
  refine retQ_le (St.le_nil_fl (i := 4) (sz := 1) (f := fun j => [I64 (([] : List Int).getD j 0)]) rfl) ?_
  simp only [resL_tmp, resL_nil, tupOf, go_sem, hD]
  rfl

set_option maxHeartbeats 4000000 in
set_option maxRecDepth 20000 in
theorem out_p (t : Tb) (a : Nat) (h : chkS t a = 0) (h64 : ∀ r ∈ t.rows, ∀ v ∈ r.2, In64 v.2.1) : PCall Tryd.prog 11 [TB t, I64 a] (.tup [NL (outS t a), I64 0]) := by
  have va := checked_p t a
  rw [h] at va
  obtain ⟨h1, h2, h3⟩ := chk_ok h
  obtain ⟨r1, r2, r3⟩ := valid_rows h1
  have hal : ∀ r ∈ t.rows, a < r.2.length := fun r hr => by have := r3 r hr; omega
  have co := column_p t a (by omega) hal
  have hcl : (colS t a).length ≤ 1000 := by unfold colS; rw [sortV_len, List.length_map]; exact r1
  have hso := nums_sorted (sortV_sorted (t.rows.map fun r => r.2.getD a v0))
  have hin := numsOf_mem (col_mem hal h64)
  obtain ⟨X, hX⟩ : ∃ X, X = outS t a := ⟨_, rfl⟩
  rw [← hX]
  unfold outS at hX
  change List.Pairwise _ (numsOf (colS t a)) at hso
  generalize colS t a = C at *
  obtain ⟨nm, ats, l⟩ := t
  simp only at hX hal r1 h64 r3 ⊢
  clear h h1 h2 h3
  refine Call.enter' (N := 121) (rs := [.tmp 4, .tmp 5]) Tryd.func11 rfl rfl rfl (by decide) rfl ?_; simp only [argT]; have hD : (0 : Nat) = 0 := rfl
  repeat' first | (with_reducible refine And.intro (by omega) ?_) | (refine SW.seq_k fun K hK => ?_) | (refine SW.block ?_) | ((first | refine SW.region ?_ | refine SW.regionD (Checked.mixed Tryd.checked) (by kernel_rfl) ?_ | refine SW.cond ?_ | refine SW.skip ?_ | refine SW.exit ?_ | refine SW.ret ?_ | refine Call.of_pure (va) ?_ | refine ⟨_, va, ?_⟩ | refine Call.of_pure (co) ?_ | refine ⟨_, co, ?_⟩ | (refine allF_i fun b hb => ?_; replace hD := And.intro hb hD; clear hb; try simp only [fresh_cons, fresh_nil, and_true, ne_eq, neF] at hD) | simp only [appK, appOsK]); try simp only [go_sem, hD]) | (refine And.intro (by omega) ?_) | (refine ifI (fun hc => ?_) (fun hc => ?_) <;> first | (exfalso; omega) | skip) | ((first | apply hK | ((iterate 1 (clear hK K)); apply hK) | ((iterate 2 (clear hK K)); apply hK) | ((iterate 3 (clear hK K)); apply hK) | ((iterate 4 (clear hK K)); apply hK) | ((iterate 5 (clear hK K)); apply hK)); clear hK K)
  obtain ⟨tb, rfl⟩ : ∃ x, x = b := ⟨_, rfl⟩
  obtain ⟨I, hI⟩ : ∃ I : Nat → St → Prop, ∀ k S, I k S ↔ (∃ (i : Nat) (x : SV) (h : Heap), k = C.length - i ∧ i ≤ C.length ∧ Acc 1 x h [(tb, .svs [Str nm, SL ats, RL l])] (numsOf (C.take i)).length (fC nC1 (numsOf (C.take i))) ∧ S = ⟨[(1, I64 a), (2, .op tb 0), (7, x), (28, VL C), (29, I64 C.length), (30, I64 i)], h⟩) := ⟨fun k S => _, fun _ _ => Iff.rfl⟩
  refine SW.loop' I (C.length) ((hI _ _).2 ⟨0, _, _, rfl, Nat.zero_le _, .nil _ _, rfl⟩) (by repeat' (first | exact rfl | exact trivial | exact int_eq (by omega) | exact int_eq (by (rw [i64_wrap] <;> omega)) | constructor)) ?_
  intro k S hIn
  obtain ⟨i, x, h, rfl, hi, hB, rfl⟩ := (hI _ _).1 hIn
  clear hIn
  have ie : ((i : Nat) : Int).toNat = i := Int.toNat_natCast _
  have i0 : (0 : Int) ≤ ((i : Nat) : Int) := by omega
  by_cases hlt : i < C.length
  · have hli : ((i : Nat) : Int) < (((C.length) : Nat) : Int) := by omega
    have w1 : IntKind.i64.wrap ((i : Int) + 1) = ((i + 1 : Nat) : Int) := by rw [i64_wrap (by omega) (by omega)]; omega
    have hg : C.getD i v0 = C[i] := by simp [List.getD_eq_getElem?_getD, hlt]
    have htk : C.take (i + 1) = C.take i ++ [C.getD i v0] := by rw [List.take_add_one, List.getElem?_eq_getElem hlt, hg]; rfl
    obtain ⟨vk, vn, vt, hv⟩ : ∃ k n t, C.getD i v0 = (k, n, t) := ⟨_, _, _, rfl⟩
    have tv : vF C i = [I64 vk, I64 vn, Str vt] := by unfold vF; rw [hv]
    have hsn := numsOf_snoc (C.take i) (C.getD i v0)
    rw [← htk, hv] at hsn
    have hlen := numsOf_le (C.take i)
    rw [List.length_take] at hlen
    generalize numsOf (C.take i) = L at *
    by_cases hk : vk = 1
    · simp only [hk, if_true] at hsn
      have ba : (L.length + 1) * 8 ≤ 140737488355328 := by omega
      rcases hB.casesH with ⟨e0, e1, rfl, rfl⟩ | ⟨g, hgf, e0, rfl, hle⟩
      · have hLn : L = [] := List.eq_nil_of_length_eq_zero e0
        subst hLn
        repeat' first | (with_reducible refine And.intro (by omega) ?_) | (refine SW.seq_k fun K hK => ?_) | (refine SW.block ?_) | ((first | refine SW.region ?_ | refine SW.regionD (Checked.mixed Tryd.checked) (by kernel_rfl) ?_ | refine SW.cond ?_ | refine SW.skip ?_ | refine SW.exit ?_ | refine SW.ret ?_ | (refine allF_i fun b hb => ?_; replace hD := And.intro hb hD; clear hb; try simp only [fresh_cons, fresh_nil, and_true, ne_eq, neF] at hD) | simp only [appK, appOsK]); try simp only [go_sem, hD, hli, ie, i0, w1, tv, hk, ba, true_implies]) | (refine And.intro (by omega) ?_) | (refine ifI (fun hc => ?_) (fun hc => ?_) <;> first | (exfalso; omega) | skip) | ((first | apply hK | ((iterate 1 (clear hK K)); apply hK) | ((iterate 2 (clear hK K)); apply hK) | ((iterate 3 (clear hK K)); apply hK) | ((iterate 4 (clear hK K)); apply hK) | ((iterate 5 (clear hK K)); apply hK)); clear hK K)
        refine Rnd.le (St.le_pick _ ?_ ?_) (Rnd.sub (C.length - (i + 1)) (by omega) ((hI _ _).2 ⟨i + 1, _, [(b, .ints .i64 [vn]), (tb, .svs [Str nm, SL ats, RL l])], rfl, by omega, (by rw [hsn]; exact .inr ⟨b, .ints .i64 [vn], by simp [fresh_cons, fresh_nil, hD], rfl, rfl, rfl, rfl⟩), rfl⟩) (by repeat' (first | exact rfl | exact trivial | exact int_eq (by omega) | exact int_eq (by (rw [i64_wrap] <;> omega)) | constructor)))
        · repeat' (first | exact (fun x hx => (List.not_mem_nil hx).elim) | refine List.forall_mem_cons.2 ⟨?_, ?_⟩ | exact List.mem_cons_self | apply List.mem_cons_of_mem)
        · simp [fresh_cons, fresh_nil, hD]
      · refine Ab.SW.le (hle _) ?_
        have hgt : ¬ g = tb := fun e => hgf.1.1 e.symm
        repeat' first | (with_reducible refine And.intro (by omega) ?_) | (refine SW.seq_k fun K hK => ?_) | (refine SW.block ?_) | ((first | refine SW.region ?_ | refine SW.regionD (Checked.mixed Tryd.checked) (by kernel_rfl) ?_ | refine SW.cond ?_ | refine SW.skip ?_ | refine SW.exit ?_ | refine SW.ret ?_ | (refine allF_i fun b hb => ?_; replace hD := And.intro hb hD; clear hb; try simp only [fresh_cons, fresh_nil, and_true, ne_eq, neF] at hD) | simp only [appK, appOsK]); try simp only [go_sem, hD, hli, ie, i0, w1, tv, hk, ba, true_implies, hgt, e0]) | (refine And.intro (by omega) ?_) | (refine ifI (fun hc => ?_) (fun hc => ?_) <;> first | (exfalso; omega) | skip) | ((first | apply hK | ((iterate 1 (clear hK K)); apply hK) | ((iterate 2 (clear hK K)); apply hK) | ((iterate 3 (clear hK K)); apply hK) | ((iterate 4 (clear hK K)); apply hK) | ((iterate 5 (clear hK K)); apply hK)); clear hK K)
        refine Rnd.le (St.le_pick _ ?_ ?_) (Rnd.sub (C.length - (i + 1)) (by omega) ((hI _ _).2 ⟨i + 1, _, [(b, .svs (fC nC1 L ++ nC1 vn)), (tb, .svs [Str nm, SL ats, RL l])], rfl, by omega, (by rw [hsn, List.length_append, ← fC_snoc]; exact Acc.osH (by simp [fresh_cons, fresh_nil, hD]) (by rw [List.length_append, ← e0]; simp [nC1])), rfl⟩) (by repeat' (first | exact rfl | exact trivial | exact int_eq (by omega) | exact int_eq (by (rw [i64_wrap] <;> omega)) | constructor)))
        · repeat' (first | exact (fun x hx => (List.not_mem_nil hx).elim) | refine List.forall_mem_cons.2 ⟨?_, ?_⟩ | exact List.mem_cons_self | apply List.mem_cons_of_mem)
        · simp [fresh_cons, fresh_nil, hD]
    · simp only [hk, if_false] at hsn
      rcases hB.casesH with ⟨e0, e1, rfl, rfl⟩ | ⟨g, hgf, e0, rfl, hle⟩
      · repeat' first | (with_reducible refine And.intro (by omega) ?_) | (refine SW.seq_k fun K hK => ?_) | (refine SW.block ?_) | ((first | refine SW.region ?_ | refine SW.regionD (Checked.mixed Tryd.checked) (by kernel_rfl) ?_ | refine SW.cond ?_ | refine SW.skip ?_ | refine SW.exit ?_ | refine SW.ret ?_ | (refine allF_i fun b hb => ?_; replace hD := And.intro hb hD; clear hb; try simp only [fresh_cons, fresh_nil, and_true, ne_eq, neF] at hD) | simp only [appK, appOsK]); try simp only [go_sem, hD, hli, ie, i0, w1, tv, hk, true_implies]) | (refine And.intro (by omega) ?_) | (refine ifI (fun hc => ?_) (fun hc => ?_) <;> first | (exfalso; omega) | skip) | ((first | apply hK | ((iterate 1 (clear hK K)); apply hK) | ((iterate 2 (clear hK K)); apply hK) | ((iterate 3 (clear hK K)); apply hK) | ((iterate 4 (clear hK K)); apply hK) | ((iterate 5 (clear hK K)); apply hK)); clear hK K)
        refine Rnd.le (St.le_pick _ ?_ ?_) (Rnd.sub (C.length - (i + 1)) (by omega) ((hI _ _).2 ⟨i + 1, _, [(tb, .svs [Str nm, SL ats, RL l])], rfl, by omega, (by rw [hsn]; exact hB), rfl⟩) (by repeat' (first | exact rfl | exact trivial | exact int_eq (by omega) | exact int_eq (by (rw [i64_wrap] <;> omega)) | constructor)))
        · repeat' (first | exact (fun x hx => (List.not_mem_nil hx).elim) | refine List.forall_mem_cons.2 ⟨?_, ?_⟩ | exact List.mem_cons_self | apply List.mem_cons_of_mem)
        · simp [fresh_cons, fresh_nil, hD]
      · refine Ab.SW.le (hle _) ?_
        have hgt : ¬ g = tb := fun e => hgf.1.1 e.symm
        have hD := And.intro (eq_false hgt) hD
        repeat' first | (with_reducible refine And.intro (by omega) ?_) | (refine SW.seq_k fun K hK => ?_) | (refine SW.block ?_) | ((first | refine SW.region ?_ | refine SW.regionD (Checked.mixed Tryd.checked) (by kernel_rfl) ?_ | refine SW.cond ?_ | refine SW.skip ?_ | refine SW.exit ?_ | refine SW.ret ?_ | (refine allF_i fun b hb => ?_; replace hD := And.intro hb hD; clear hb; try simp only [fresh_cons, fresh_nil, and_true, ne_eq, neF] at hD) | simp only [appK, appOsK]); try simp only [go_sem, hD, hli, ie, i0, w1, tv, hk, true_implies, hgt, e0]) | (refine And.intro (by omega) ?_) | (refine ifI (fun hc => ?_) (fun hc => ?_) <;> first | (exfalso; omega) | skip) | ((first | apply hK | ((iterate 1 (clear hK K)); apply hK) | ((iterate 2 (clear hK K)); apply hK) | ((iterate 3 (clear hK K)); apply hK) | ((iterate 4 (clear hK K)); apply hK) | ((iterate 5 (clear hK K)); apply hK)); clear hK K)
        refine Rnd.le (St.le_pick _ ?_ ?_) (Rnd.sub (C.length - (i + 1)) (by omega) ((hI _ _).2 ⟨i + 1, _, [(g, .svs (fC nC1 L)), (tb, .svs [Str nm, SL ats, RL l])], rfl, by omega, (by rw [hsn]; exact Acc.osH hgf e0), rfl⟩) (by repeat' (first | exact rfl | exact trivial | exact int_eq (by omega) | exact int_eq (by (rw [i64_wrap] <;> omega)) | constructor)))
        · repeat' (first | exact (fun x hx => (List.not_mem_nil hx).elim) | refine List.forall_mem_cons.2 ⟨?_, ?_⟩ | exact List.mem_cons_self | apply List.mem_cons_of_mem)
        · simp [fresh_cons, fresh_nil, hD]
  · have hli : ¬ ((i : Nat) : Int) < (((C.length) : Nat) : Int) := by omega
    obtain rfl : i = C.length := by omega
    rw [List.take_length] at hB
    have hlen := numsOf_le C
    generalize numsOf C = L at *
    rcases hB.casesH with ⟨e0, e1, rfl, rfl⟩ | ⟨g, hgf, e0, rfl, hle⟩
    · rw [e0, if_pos (by omega)] at hX
      subst hX
      repeat' first | (with_reducible refine And.intro (by omega) ?_) | (refine SW.seq_k fun K hK => ?_) | (refine SW.block ?_) | ((first | refine SW.region ?_ | refine SW.regionD (Checked.mixed Tryd.checked) (by kernel_rfl) ?_ | refine SW.cond ?_ | refine SW.skip ?_ | refine SW.exit ?_ | refine SW.ret ?_ | (refine allF_i fun b hb => ?_; replace hD := And.intro hb hD; clear hb; try simp only [fresh_cons, fresh_nil, and_true, ne_eq, neF] at hD) | simp only [appK, appOsK]); try simp only [go_sem, hD, hli, true_implies]) | (refine And.intro (by omega) ?_) | (refine ifI (fun hc => ?_) (fun hc => ?_) <;> first | (exfalso; omega) | skip) | ((first | apply hK | ((iterate 1 (clear hK K)); apply hK) | ((iterate 2 (clear hK K)); apply hK) | ((iterate 3 (clear hK K)); apply hK) | ((iterate 4 (clear hK K)); apply hK) | ((iterate 5 (clear hK K)); apply hK)); clear hK K)
      refine retQ_le (St.le_nil_fl (i := 4) (sz := 1) (f := fun j => [I64 (([] : List Int).getD j 0)]) rfl) ?_
      simp only [resL_tmp, resL_nil, tupOf, go_sem, hD]
      rfl
    · refine Ab.SW.le (hle _) ?_
      have hgt : ¬ g = tb := fun e => hgf.1.1 e.symm
      by_cases hm4 : L.length < 4
      · rw [if_pos hm4] at hX
        subst hX
        have hm4i : ((L.length : Nat) : Int) < 4 := by omega
        repeat' first | (with_reducible refine And.intro (by omega) ?_) | (refine SW.seq_k fun K hK => ?_) | (refine SW.block ?_) | ((first | refine SW.region ?_ | refine SW.regionD (Checked.mixed Tryd.checked) (by kernel_rfl) ?_ | refine SW.cond ?_ | refine SW.skip ?_ | refine SW.exit ?_ | refine SW.ret ?_ | (refine allF_i fun b hb => ?_; replace hD := And.intro hb hD; clear hb; try simp only [fresh_cons, fresh_nil, and_true, ne_eq, neF] at hD) | simp only [appK, appOsK]); try simp only [go_sem, hD, hli, true_implies, hm4i, hgt]) | (refine And.intro (by omega) ?_) | (refine ifI (fun hc => ?_) (fun hc => ?_) <;> first | (exfalso; omega) | skip) | ((first | apply hK | ((iterate 1 (clear hK K)); apply hK) | ((iterate 2 (clear hK K)); apply hK) | ((iterate 3 (clear hK K)); apply hK) | ((iterate 4 (clear hK K)); apply hK) | ((iterate 5 (clear hK K)); apply hK)); clear hK K)
        refine retQ_le (St.le_nil_fl (i := 4) (sz := 1) (f := fun j => [I64 (([] : List Int).getD j 0)]) rfl) ?_
        simp only [resL_tmp, resL_nil, tupOf, go_sem, hD]
        rfl
      · rw [if_neg hm4] at hX
        have hm4i : ¬ ((L.length : Nat) : Int) < 4 := by omega
        have hle13 := quart_le hso (by omega)
        have j1 : IntKind.i64.wrap (((L.length : Nat) : Int) - 1) = ((L.length - 1 : Nat) : Int) := by rw [i64_wrap (by omega) (by omega)]; omega
        have d1 : IntKind.i64.wrap ((((L.length - 1 : Nat) : Int)).tdiv 4) = (((L.length - 1) / 4 : Nat) : Int) := by rw [Int.tdiv_eq_ediv_of_nonneg (by omega), i64_wrap (by omega) (by omega)]; omega
        have j2 : IntKind.i64.wrap (3 * ((L.length - 1 : Nat) : Int)) = ((3 * (L.length - 1) : Nat) : Int) := by rw [i64_wrap (by omega) (by omega)]; omega
        have d2 : IntKind.i64.wrap ((((3 * (L.length - 1) : Nat) : Int)).tdiv 4) = ((3 * (L.length - 1) / 4 : Nat) : Int) := by rw [Int.tdiv_eq_ediv_of_nonneg (by omega), i64_wrap (by omega) (by omega)]; omega
        have k1 : (((L.length - 1) / 4 : Nat) : Int).toNat = (L.length - 1) / 4 := Int.toNat_natCast _
        have k2 : ((3 * (L.length - 1) / 4 : Nat) : Int).toNat = 3 * (L.length - 1) / 4 := Int.toNat_natCast _
        have k3 : (0 : Int) ≤ (((L.length - 1) / 4 : Nat) : Int) := by omega
        have k4 : (0 : Int) ≤ ((3 * (L.length - 1) / 4 : Nat) : Int) := by omega
        have k5 : (((L.length - 1) / 4 : Nat) : Int) < ((L.length : Nat) : Int) := by omega
        have k6 : ((3 * (L.length - 1) / 4 : Nat) : Int) < ((L.length : Nat) : Int) := by omega
        have g1 : (fC nC1 L).getD ((L.length - 1) / 4) .any = I64 (q1S L) := fC1_get L _ (by omega)
        have g2 : (fC nC1 L).getD (3 * (L.length - 1) / 4) .any = I64 (q3S L) := fC1_get L _ (by omega)
        have c0 : (fC nC1 L).length = L.length := by rw [← e0, Nat.mul_one]
        have in1 : In64 (q1S L) := hin _ (getD_mem 0 (by omega))
        have in3 : In64 (q3S L) := hin _ (getD_mem 0 (by omega))
        generalize q1S L = q1 at *
        generalize q3S L = q3 at *
        unfold In64 at in1 in3
        have wd := u64_diff (a := q1) (b := q3) (by omega) (by omega)
        repeat' first | (with_reducible refine And.intro (by omega) ?_) | (refine SW.seq_k fun K hK => ?_) | (refine SW.block ?_) | ((first | refine SW.region ?_ | refine SW.regionZ (id := 14) (Checked.mixed Tryd.checked) ((.one 0 [0, 4, 5, 13, 14] (.one 1 [1, 2, 3, 4, 5, 13, 14] (.one 2 [2, 3, 4, 5, 13, 14] (.one 3 [3, 4, 5, 13, 14] (.one 4 [4, 5, 13, 14] (.one 5 [5, 13, 14] (.one 6 [6, 11, 12, 14] (.one 7 [7, 8, 9, 10, 11, 12, 14] (.one 8 [8, 9, 10, 11, 12, 14] (.one 9 [9, 10, 11, 12, 14] (.one 10 [10, 11, 12, 14] (.one 11 [11, 12, 14] (.one 12 [12, 14] (.one 13 [13, 14] (.one 14 [14] .done))))))))))))))) : OZ) (by kernel_rfl) ?_ | refine SW.regionD (Checked.mixed Tryd.checked) (by kernel_rfl) ?_ | refine SW.cond ?_ | refine SW.skip ?_ | refine SW.exit ?_ | refine SW.ret ?_ | (refine allF_i fun b hb => ?_; replace hD := And.intro hb hD; clear hb; try simp only [fresh_cons, fresh_nil, and_true, ne_eq, neF] at hD) | simp only [appK, appOsK]); try simp only [go_sem, hD, hli, true_implies, hm4i, hgt, j1, d1, j2, d2, k1, k2, k3, k4, k5, k6, g1, g2, c0, wd]) | (refine And.intro (by omega) ?_) | (refine ifI (fun hc => ?_) (fun hc => ?_) <;> first | (exfalso; omega) | skip) | ((first | apply hK | ((iterate 1 (clear hK K)); apply hK) | ((iterate 2 (clear hK K)); apply hK) | ((iterate 3 (clear hK K)); apply hK) | ((iterate 4 (clear hK K)); apply hK) | ((iterate 5 (clear hK K)); apply hK)); clear hK K) | (refine And.intro ?_ ?_)
        refine Ab.SW.le (St.le_pick [(tb, .svs [Str nm, SL ats, RL l])] ?_ ?_) ?_
        · repeat' (first | exact (fun x hx => (List.not_mem_nil hx).elim) | refine List.forall_mem_cons.2 ⟨?_, ?_⟩ | exact List.mem_cons_self | apply List.mem_cons_of_mem)
        · simp [fresh_cons, fresh_nil, hD]
        clear hD hB
        have hD : (0 : Nat) = 0 := rfl
        obtain ⟨I, hI⟩ : ∃ I : Nat → St → Prop, ∀ k S, I k S ↔ (∃ (j : Nat) (x : SV) (h : Heap), k = l.length - j ∧ j ≤ l.length ∧ Acc 1 x h [(tb, .svs [Str nm, SL ats, RL l])] (outRows q1 q3 a (l.take j)).length (fC nC1 (outRows q1 q3 a (l.take j))) ∧ S = ⟨[(1, I64 a), (2, .op tb 0), (11, I64 q1), (12, I64 q3), (13, U64 (q3 - q1)), (14, x), (66, RL l), (67, I64 l.length), (68, I64 j)], h⟩) := ⟨fun k S => _, fun _ _ => Iff.rfl⟩
        refine SW.loop' I (l.length) ((hI _ _).2 ⟨0, _, _, rfl, Nat.zero_le _, .nil _ _, rfl⟩) (by repeat' (first | exact rfl | exact trivial | exact int_eq (by omega) | exact int_eq (by (rw [i64_wrap] <;> omega)) | constructor)) ?_
        intro k S hIn
        obtain ⟨j, x, h, rfl, hi, hB, rfl⟩ := (hI _ _).1 hIn
        clear hIn
        have ie : ((j : Nat) : Int).toNat = j := Int.toNat_natCast _
        have i0 : (0 : Int) ≤ ((j : Nat) : Int) := by omega
        by_cases hlt : j < l.length
        · have hli : ((j : Nat) : Int) < (((l.length) : Nat) : Int) := by omega
          have w1 : IntKind.i64.wrap ((j : Int) + 1) = ((j + 1 : Nat) : Int) := by rw [i64_wrap (by omega) (by omega)]; omega
          have hg : l.getD j r0 = l[j] := by simp [List.getD_eq_getElem?_getD, hlt]
          have hm := getD_mem r0 hlt
          have htk : l.take (j + 1) = l.take j ++ [l.getD j r0] := by rw [List.take_add_one, List.getElem?_eq_getElem hlt, hg]; rfl
          have har := hal _ hm
          have h6 := h64 _ hm
          obtain ⟨id, vs, hr⟩ : ∃ id vs, l.getD j r0 = (id, vs) := ⟨_, _, rfl⟩
          have tf : rF l j = [I64 id, VL vs] := by unfold rF; rw [hr]; rfl
          have hsn := outRows_snoc q1 q3 a (l.take j) (l.getD j r0)
          rw [← htk, hr] at hsn
          rw [hr] at har h6
          simp only at har h6 hsn
          have h6v := h6 _ (getD_mem v0 har)
          obtain ⟨vk, vn, vt, hv⟩ : ∃ k n t, vs.getD a v0 = (k, n, t) := ⟨_, _, _, rfl⟩
          have tv : vF vs a = [I64 vk, I64 vn, Str vt] := by unfold vF; rw [hv]
          rw [hv] at hsn h6v
          unfold In64 at h6v
          simp only at h6v
          have hlen := outRows_le q1 q3 a (l.take j)
          rw [List.length_take] at hlen
          generalize outRows q1 q3 a (l.take j) = O at *
          have a0 : (0 : Int) ≤ ((a : Nat) : Int) := by omega
          have al : ((a : Nat) : Int) < ((vs.length : Nat) : Int) := by omega
          have ae : ((a : Nat) : Int).toNat = a := Int.toNat_natCast _
          have ba : (O.length + 1) * 8 ≤ 140737488355328 := by omega
          have three : (vn < q1 ∧ ¬ q3 < vn) ∨ (¬ vn < q1 ∧ q3 < vn) ∨ (¬ vn < q1 ∧ ¬ q3 < vn) := by omega
          rcases three with ⟨pa, pb⟩ | ⟨pa, pb⟩ | ⟨pa, pb⟩
          · have wf := u64_diff (a := vn) (b := q1) (by omega) (by omega)
            have fp := far_p (q1 - vn) (q3 - q1) (by omega) (by omega) (by omega) (by omega)
            have hO : outB q1 q3 (vk, vn, vt) = (decide (vk = 1) && farI (q1 - vn) (q3 - q1)) := by
              unfold outB
              simp only
              rw [decide_eq_true pa, decide_eq_false pb, Bool.true_and, Bool.false_and, Bool.or_false]
            generalize farI (q1 - vn) (q3 - q1) = f at *
            cases f with
            | false =>
              rw [Bool.and_false] at hO
              rw [hO, if_neg (by simp)] at hsn
              rcases hB.casesH with ⟨e0, e1, rfl, rfl⟩ | ⟨g2, hgf2, e2, rfl, hle2⟩
              · repeat' first | (with_reducible refine And.intro (by omega) ?_) | (refine SW.seq_k fun K hK => ?_) | (refine SW.block ?_) | ((first | refine SW.region ?_ | refine SW.regionD (Checked.mixed Tryd.checked) (by kernel_rfl) ?_ | refine SW.cond ?_ | refine SW.skip ?_ | refine SW.exit ?_ | refine SW.ret ?_ | refine Call.of_pure (fp) ?_ | refine ⟨_, fp, ?_⟩ | (refine allF_i fun b hb => ?_; replace hD := And.intro hb hD; clear hb; try simp only [fresh_cons, fresh_nil, and_true, ne_eq, neF] at hD) | simp only [appK, appOsK]); try simp only [go_sem, hD, hli, ie, i0, w1, tf, tv, a0, al, ae, ba, pa, pb, wf, wd, true_implies]) | (refine And.intro (by omega) ?_) | (refine ifI (fun hc => ?_) (fun hc => ?_) <;> first | (exfalso; omega) | skip) | ((first | apply hK | ((iterate 1 (clear hK K)); apply hK) | ((iterate 2 (clear hK K)); apply hK) | ((iterate 3 (clear hK K)); apply hK) | ((iterate 4 (clear hK K)); apply hK) | ((iterate 5 (clear hK K)); apply hK)); clear hK K)
                all_goals
                  refine Rnd.le (St.le_pick _ ?_ ?_) (Rnd.sub (l.length - (j + 1)) (by omega) ((hI _ _).2 ⟨j + 1, _, [(tb, .svs [Str nm, SL ats, RL l])], rfl, by omega, (by rw [hsn]; exact hB), rfl⟩) (by repeat' (first | exact rfl | exact trivial | exact int_eq (by omega) | exact int_eq (by (rw [i64_wrap] <;> omega)) | constructor)))
                  · repeat' (first | exact (fun x hx => (List.not_mem_nil hx).elim) | refine List.forall_mem_cons.2 ⟨?_, ?_⟩ | exact List.mem_cons_self | apply List.mem_cons_of_mem)
                  · simp [fresh_cons, fresh_nil, hD]
              · refine Ab.SW.le (hle2 _) ?_
                have hgt2 : ¬ g2 = tb := fun e => hgf2.1.1 e.symm
                have hD := And.intro (eq_false hgt2) hD
                repeat' first | (with_reducible refine And.intro (by omega) ?_) | (refine SW.seq_k fun K hK => ?_) | (refine SW.block ?_) | ((first | refine SW.region ?_ | refine SW.regionD (Checked.mixed Tryd.checked) (by kernel_rfl) ?_ | refine SW.cond ?_ | refine SW.skip ?_ | refine SW.exit ?_ | refine SW.ret ?_ | refine Call.of_pure (fp) ?_ | refine ⟨_, fp, ?_⟩ | (refine allF_i fun b hb => ?_; replace hD := And.intro hb hD; clear hb; try simp only [fresh_cons, fresh_nil, and_true, ne_eq, neF] at hD) | simp only [appK, appOsK]); try simp only [go_sem, hD, hli, ie, i0, w1, tf, tv, a0, al, ae, ba, pa, pb, wf, wd, true_implies, hgt2]) | (refine And.intro (by omega) ?_) | (refine ifI (fun hc => ?_) (fun hc => ?_) <;> first | (exfalso; omega) | skip) | ((first | apply hK | ((iterate 1 (clear hK K)); apply hK) | ((iterate 2 (clear hK K)); apply hK) | ((iterate 3 (clear hK K)); apply hK) | ((iterate 4 (clear hK K)); apply hK) | ((iterate 5 (clear hK K)); apply hK)); clear hK K)
                all_goals
                  refine Rnd.le (St.le_pick _ ?_ ?_) (Rnd.sub (l.length - (j + 1)) (by omega) ((hI _ _).2 ⟨j + 1, _, [(g2, .svs (fC nC1 O)), (tb, .svs [Str nm, SL ats, RL l])], rfl, by omega, (by rw [hsn]; exact Acc.osH hgf2 e2), rfl⟩) (by repeat' (first | exact rfl | exact trivial | exact int_eq (by omega) | exact int_eq (by (rw [i64_wrap] <;> omega)) | constructor)))
                  · repeat' (first | exact (fun x hx => (List.not_mem_nil hx).elim) | refine List.forall_mem_cons.2 ⟨?_, ?_⟩ | exact List.mem_cons_self | apply List.mem_cons_of_mem)
                  · simp [fresh_cons, fresh_nil, hD]
            | true =>
              rw [Bool.and_true] at hO
              by_cases hk : vk = 1
              · rw [hO, decide_eq_true hk, if_pos rfl] at hsn
                subst hk
                rcases hB.casesH with ⟨e0, e1, rfl, rfl⟩ | ⟨g2, hgf2, e2, rfl, hle2⟩
                · have hOn : O = [] := List.eq_nil_of_length_eq_zero e0
                  subst hOn
                  repeat' first | (with_reducible refine And.intro (by omega) ?_) | (refine SW.seq_k fun K hK => ?_) | (refine SW.block ?_) | ((first | refine SW.region ?_ | refine SW.regionD (Checked.mixed Tryd.checked) (by kernel_rfl) ?_ | refine SW.cond ?_ | refine SW.skip ?_ | refine SW.exit ?_ | refine SW.ret ?_ | refine Call.of_pure (fp) ?_ | refine ⟨_, fp, ?_⟩ | (refine allF_i fun b hb => ?_; replace hD := And.intro hb hD; clear hb; try simp only [fresh_cons, fresh_nil, and_true, ne_eq, neF] at hD) | simp only [appK, appOsK]); try simp only [go_sem, hD, hli, ie, i0, w1, tf, tv, a0, al, ae, ba, pa, pb, wf, wd, true_implies]) | (refine And.intro (by omega) ?_) | (refine ifI (fun hc => ?_) (fun hc => ?_) <;> first | (exfalso; omega) | skip) | ((first | apply hK | ((iterate 1 (clear hK K)); apply hK) | ((iterate 2 (clear hK K)); apply hK) | ((iterate 3 (clear hK K)); apply hK) | ((iterate 4 (clear hK K)); apply hK) | ((iterate 5 (clear hK K)); apply hK)); clear hK K)
                  refine Rnd.le (St.le_pick _ ?_ ?_) (Rnd.sub (l.length - (j + 1)) (by omega) ((hI _ _).2 ⟨j + 1, _, [(b, .ints .i64 [id]), (tb, .svs [Str nm, SL ats, RL l])], rfl, by omega, (by rw [hsn]; exact .inr ⟨b, .ints .i64 [id], by simp [fresh_cons, fresh_nil, hD], rfl, rfl, rfl, rfl⟩), rfl⟩) (by repeat' (first | exact rfl | exact trivial | exact int_eq (by omega) | exact int_eq (by (rw [i64_wrap] <;> omega)) | constructor)))
                  · repeat' (first | exact (fun x hx => (List.not_mem_nil hx).elim) | refine List.forall_mem_cons.2 ⟨?_, ?_⟩ | exact List.mem_cons_self | apply List.mem_cons_of_mem)
                  · simp [fresh_cons, fresh_nil, hD]
                · refine Ab.SW.le (hle2 _) ?_
                  have hgt2 : ¬ g2 = tb := fun e => hgf2.1.1 e.symm
                  repeat' first | (with_reducible refine And.intro (by omega) ?_) | (refine SW.seq_k fun K hK => ?_) | (refine SW.block ?_) | ((first | refine SW.region ?_ | refine SW.regionD (Checked.mixed Tryd.checked) (by kernel_rfl) ?_ | refine SW.cond ?_ | refine SW.skip ?_ | refine SW.exit ?_ | refine SW.ret ?_ | refine Call.of_pure (fp) ?_ | refine ⟨_, fp, ?_⟩ | (refine allF_i fun b hb => ?_; replace hD := And.intro hb hD; clear hb; try simp only [fresh_cons, fresh_nil, and_true, ne_eq, neF] at hD) | simp only [appK, appOsK]); try simp only [go_sem, hD, hli, ie, i0, w1, tf, tv, a0, al, ae, ba, pa, pb, wf, wd, true_implies, hgt2, e2]) | (refine And.intro (by omega) ?_) | (refine ifI (fun hc => ?_) (fun hc => ?_) <;> first | (exfalso; omega) | skip) | ((first | apply hK | ((iterate 1 (clear hK K)); apply hK) | ((iterate 2 (clear hK K)); apply hK) | ((iterate 3 (clear hK K)); apply hK) | ((iterate 4 (clear hK K)); apply hK) | ((iterate 5 (clear hK K)); apply hK)); clear hK K)
                  refine Rnd.le (St.le_pick _ ?_ ?_) (Rnd.sub (l.length - (j + 1)) (by omega) ((hI _ _).2 ⟨j + 1, _, [(b, .svs (fC nC1 O ++ nC1 id)), (tb, .svs [Str nm, SL ats, RL l])], rfl, by omega, (by rw [hsn, List.length_append, ← fC_snoc]; exact Acc.osH (by simp [fresh_cons, fresh_nil, hD]) (by rw [List.length_append, ← e2]; simp [nC1])), rfl⟩) (by repeat' (first | exact rfl | exact trivial | exact int_eq (by omega) | exact int_eq (by (rw [i64_wrap] <;> omega)) | constructor)))
                  · repeat' (first | exact (fun x hx => (List.not_mem_nil hx).elim) | refine List.forall_mem_cons.2 ⟨?_, ?_⟩ | exact List.mem_cons_self | apply List.mem_cons_of_mem)
                  · simp [fresh_cons, fresh_nil, hD]
              · rw [hO, decide_eq_false hk, if_neg (by simp)] at hsn
                have hk0 := eq_false hk
                rcases hB.casesH with ⟨e0, e1, rfl, rfl⟩ | ⟨g2, hgf2, e2, rfl, hle2⟩
                · repeat' first | (with_reducible refine And.intro (by omega) ?_) | (refine SW.seq_k fun K hK => ?_) | (refine SW.block ?_) | ((first | refine SW.region ?_ | refine SW.regionD (Checked.mixed Tryd.checked) (by kernel_rfl) ?_ | refine SW.cond ?_ | refine SW.skip ?_ | refine SW.exit ?_ | refine SW.ret ?_ | refine Call.of_pure (fp) ?_ | refine ⟨_, fp, ?_⟩ | (refine allF_i fun b hb => ?_; replace hD := And.intro hb hD; clear hb; try simp only [fresh_cons, fresh_nil, and_true, ne_eq, neF] at hD) | simp only [appK, appOsK]); try simp only [go_sem, hD, hli, ie, i0, w1, tf, tv, a0, al, ae, ba, pa, pb, wf, wd, true_implies, hk0]) | (refine And.intro (by omega) ?_) | (refine ifI (fun hc => ?_) (fun hc => ?_) <;> first | (exfalso; omega) | skip) | ((first | apply hK | ((iterate 1 (clear hK K)); apply hK) | ((iterate 2 (clear hK K)); apply hK) | ((iterate 3 (clear hK K)); apply hK) | ((iterate 4 (clear hK K)); apply hK) | ((iterate 5 (clear hK K)); apply hK)); clear hK K)
                  refine Rnd.le (St.le_pick _ ?_ ?_) (Rnd.sub (l.length - (j + 1)) (by omega) ((hI _ _).2 ⟨j + 1, _, [(tb, .svs [Str nm, SL ats, RL l])], rfl, by omega, (by rw [hsn]; exact hB), rfl⟩) (by repeat' (first | exact rfl | exact trivial | exact int_eq (by omega) | exact int_eq (by (rw [i64_wrap] <;> omega)) | constructor)))
                  · repeat' (first | exact (fun x hx => (List.not_mem_nil hx).elim) | refine List.forall_mem_cons.2 ⟨?_, ?_⟩ | exact List.mem_cons_self | apply List.mem_cons_of_mem)
                  · simp [fresh_cons, fresh_nil, hD]
                · refine Ab.SW.le (hle2 _) ?_
                  have hgt2 : ¬ g2 = tb := fun e => hgf2.1.1 e.symm
                  have hD := And.intro (eq_false hgt2) hD
                  repeat' first | (with_reducible refine And.intro (by omega) ?_) | (refine SW.seq_k fun K hK => ?_) | (refine SW.block ?_) | ((first | refine SW.region ?_ | refine SW.regionD (Checked.mixed Tryd.checked) (by kernel_rfl) ?_ | refine SW.cond ?_ | refine SW.skip ?_ | refine SW.exit ?_ | refine SW.ret ?_ | refine Call.of_pure (fp) ?_ | refine ⟨_, fp, ?_⟩ | (refine allF_i fun b hb => ?_; replace hD := And.intro hb hD; clear hb; try simp only [fresh_cons, fresh_nil, and_true, ne_eq, neF] at hD) | simp only [appK, appOsK]); try simp only [go_sem, hD, hli, ie, i0, w1, tf, tv, a0, al, ae, ba, pa, pb, wf, wd, true_implies, hgt2, hk0]) | (refine And.intro (by omega) ?_) | (refine ifI (fun hc => ?_) (fun hc => ?_) <;> first | (exfalso; omega) | skip) | ((first | apply hK | ((iterate 1 (clear hK K)); apply hK) | ((iterate 2 (clear hK K)); apply hK) | ((iterate 3 (clear hK K)); apply hK) | ((iterate 4 (clear hK K)); apply hK) | ((iterate 5 (clear hK K)); apply hK)); clear hK K)
                  refine Rnd.le (St.le_pick _ ?_ ?_) (Rnd.sub (l.length - (j + 1)) (by omega) ((hI _ _).2 ⟨j + 1, _, [(g2, .svs (fC nC1 O)), (tb, .svs [Str nm, SL ats, RL l])], rfl, by omega, (by rw [hsn]; exact Acc.osH hgf2 e2), rfl⟩) (by repeat' (first | exact rfl | exact trivial | exact int_eq (by omega) | exact int_eq (by (rw [i64_wrap] <;> omega)) | constructor)))
                  · repeat' (first | exact (fun x hx => (List.not_mem_nil hx).elim) | refine List.forall_mem_cons.2 ⟨?_, ?_⟩ | exact List.mem_cons_self | apply List.mem_cons_of_mem)
                  · simp [fresh_cons, fresh_nil, hD]
          · have wf := u64_diff (a := q3) (b := vn) (by omega) (by omega)
            have fp := far_p (vn - q3) (q3 - q1) (by omega) (by omega) (by omega) (by omega)
            have hO : outB q1 q3 (vk, vn, vt) = (decide (vk = 1) && farI (vn - q3) (q3 - q1)) := by
              unfold outB
              simp only
              rw [decide_eq_false pa, decide_eq_true pb, Bool.true_and, Bool.false_and, Bool.false_or]
            generalize farI (vn - q3) (q3 - q1) = f at *
            cases f with
            | false =>
              rw [Bool.and_false] at hO
              rw [hO, if_neg (by simp)] at hsn
              rcases hB.casesH with ⟨e0, e1, rfl, rfl⟩ | ⟨g2, hgf2, e2, rfl, hle2⟩
              · repeat' first | (with_reducible refine And.intro (by omega) ?_) | (refine SW.seq_k fun K hK => ?_) | (refine SW.block ?_) | ((first | refine SW.region ?_ | refine SW.regionD (Checked.mixed Tryd.checked) (by kernel_rfl) ?_ | refine SW.cond ?_ | refine SW.skip ?_ | refine SW.exit ?_ | refine SW.ret ?_ | refine Call.of_pure (fp) ?_ | refine ⟨_, fp, ?_⟩ | (refine allF_i fun b hb => ?_; replace hD := And.intro hb hD; clear hb; try simp only [fresh_cons, fresh_nil, and_true, ne_eq, neF] at hD) | simp only [appK, appOsK]); try simp only [go_sem, hD, hli, ie, i0, w1, tf, tv, a0, al, ae, ba, pa, pb, wf, wd, true_implies]) | (refine And.intro (by omega) ?_) | (refine ifI (fun hc => ?_) (fun hc => ?_) <;> first | (exfalso; omega) | skip) | ((first | apply hK | ((iterate 1 (clear hK K)); apply hK) | ((iterate 2 (clear hK K)); apply hK) | ((iterate 3 (clear hK K)); apply hK) | ((iterate 4 (clear hK K)); apply hK) | ((iterate 5 (clear hK K)); apply hK)); clear hK K)
                all_goals
                  refine Rnd.le (St.le_pick _ ?_ ?_) (Rnd.sub (l.length - (j + 1)) (by omega) ((hI _ _).2 ⟨j + 1, _, [(tb, .svs [Str nm, SL ats, RL l])], rfl, by omega, (by rw [hsn]; exact hB), rfl⟩) (by repeat' (first | exact rfl | exact trivial | exact int_eq (by omega) | exact int_eq (by (rw [i64_wrap] <;> omega)) | constructor)))
                  · repeat' (first | exact (fun x hx => (List.not_mem_nil hx).elim) | refine List.forall_mem_cons.2 ⟨?_, ?_⟩ | exact List.mem_cons_self | apply List.mem_cons_of_mem)
                  · simp [fresh_cons, fresh_nil, hD]
              · refine Ab.SW.le (hle2 _) ?_
                have hgt2 : ¬ g2 = tb := fun e => hgf2.1.1 e.symm
                have hD := And.intro (eq_false hgt2) hD
                repeat' first | (with_reducible refine And.intro (by omega) ?_) | (refine SW.seq_k fun K hK => ?_) | (refine SW.block ?_) | ((first | refine SW.region ?_ | refine SW.regionD (Checked.mixed Tryd.checked) (by kernel_rfl) ?_ | refine SW.cond ?_ | refine SW.skip ?_ | refine SW.exit ?_ | refine SW.ret ?_ | refine Call.of_pure (fp) ?_ | refine ⟨_, fp, ?_⟩ | (refine allF_i fun b hb => ?_; replace hD := And.intro hb hD; clear hb; try simp only [fresh_cons, fresh_nil, and_true, ne_eq, neF] at hD) | simp only [appK, appOsK]); try simp only [go_sem, hD, hli, ie, i0, w1, tf, tv, a0, al, ae, ba, pa, pb, wf, wd, true_implies, hgt2]) | (refine And.intro (by omega) ?_) | (refine ifI (fun hc => ?_) (fun hc => ?_) <;> first | (exfalso; omega) | skip) | ((first | apply hK | ((iterate 1 (clear hK K)); apply hK) | ((iterate 2 (clear hK K)); apply hK) | ((iterate 3 (clear hK K)); apply hK) | ((iterate 4 (clear hK K)); apply hK) | ((iterate 5 (clear hK K)); apply hK)); clear hK K)
                all_goals
                  refine Rnd.le (St.le_pick _ ?_ ?_) (Rnd.sub (l.length - (j + 1)) (by omega) ((hI _ _).2 ⟨j + 1, _, [(g2, .svs (fC nC1 O)), (tb, .svs [Str nm, SL ats, RL l])], rfl, by omega, (by rw [hsn]; exact Acc.osH hgf2 e2), rfl⟩) (by repeat' (first | exact rfl | exact trivial | exact int_eq (by omega) | exact int_eq (by (rw [i64_wrap] <;> omega)) | constructor)))
                  · repeat' (first | exact (fun x hx => (List.not_mem_nil hx).elim) | refine List.forall_mem_cons.2 ⟨?_, ?_⟩ | exact List.mem_cons_self | apply List.mem_cons_of_mem)
                  · simp [fresh_cons, fresh_nil, hD]
            | true =>
              rw [Bool.and_true] at hO
              by_cases hk : vk = 1
              · rw [hO, decide_eq_true hk, if_pos rfl] at hsn
                subst hk
                rcases hB.casesH with ⟨e0, e1, rfl, rfl⟩ | ⟨g2, hgf2, e2, rfl, hle2⟩
                · have hOn : O = [] := List.eq_nil_of_length_eq_zero e0
                  subst hOn
                  repeat' first | (with_reducible refine And.intro (by omega) ?_) | (refine SW.seq_k fun K hK => ?_) | (refine SW.block ?_) | ((first | refine SW.region ?_ | refine SW.regionD (Checked.mixed Tryd.checked) (by kernel_rfl) ?_ | refine SW.cond ?_ | refine SW.skip ?_ | refine SW.exit ?_ | refine SW.ret ?_ | refine Call.of_pure (fp) ?_ | refine ⟨_, fp, ?_⟩ | (refine allF_i fun b hb => ?_; replace hD := And.intro hb hD; clear hb; try simp only [fresh_cons, fresh_nil, and_true, ne_eq, neF] at hD) | simp only [appK, appOsK]); try simp only [go_sem, hD, hli, ie, i0, w1, tf, tv, a0, al, ae, ba, pa, pb, wf, wd, true_implies]) | (refine And.intro (by omega) ?_) | (refine ifI (fun hc => ?_) (fun hc => ?_) <;> first | (exfalso; omega) | skip) | ((first | apply hK | ((iterate 1 (clear hK K)); apply hK) | ((iterate 2 (clear hK K)); apply hK) | ((iterate 3 (clear hK K)); apply hK) | ((iterate 4 (clear hK K)); apply hK) | ((iterate 5 (clear hK K)); apply hK)); clear hK K)
                  refine Rnd.le (St.le_pick _ ?_ ?_) (Rnd.sub (l.length - (j + 1)) (by omega) ((hI _ _).2 ⟨j + 1, _, [(b, .ints .i64 [id]), (tb, .svs [Str nm, SL ats, RL l])], rfl, by omega, (by rw [hsn]; exact .inr ⟨b, .ints .i64 [id], by simp [fresh_cons, fresh_nil, hD], rfl, rfl, rfl, rfl⟩), rfl⟩) (by repeat' (first | exact rfl | exact trivial | exact int_eq (by omega) | exact int_eq (by (rw [i64_wrap] <;> omega)) | constructor)))
                  · repeat' (first | exact (fun x hx => (List.not_mem_nil hx).elim) | refine List.forall_mem_cons.2 ⟨?_, ?_⟩ | exact List.mem_cons_self | apply List.mem_cons_of_mem)
                  · simp [fresh_cons, fresh_nil, hD]
                · refine Ab.SW.le (hle2 _) ?_
                  have hgt2 : ¬ g2 = tb := fun e => hgf2.1.1 e.symm
                  repeat' first | (with_reducible refine And.intro (by omega) ?_) | (refine SW.seq_k fun K hK => ?_) | (refine SW.block ?_) | ((first | refine SW.region ?_ | refine SW.regionD (Checked.mixed Tryd.checked) (by kernel_rfl) ?_ | refine SW.cond ?_ | refine SW.skip ?_ | refine SW.exit ?_ | refine SW.ret ?_ | refine Call.of_pure (fp) ?_ | refine ⟨_, fp, ?_⟩ | (refine allF_i fun b hb => ?_; replace hD := And.intro hb hD; clear hb; try simp only [fresh_cons, fresh_nil, and_true, ne_eq, neF] at hD) | simp only [appK, appOsK]); try simp only [go_sem, hD, hli, ie, i0, w1, tf, tv, a0, al, ae, ba, pa, pb, wf, wd, true_implies, hgt2, e2]) | (refine And.intro (by omega) ?_) | (refine ifI (fun hc => ?_) (fun hc => ?_) <;> first | (exfalso; omega) | skip) | ((first | apply hK | ((iterate 1 (clear hK K)); apply hK) | ((iterate 2 (clear hK K)); apply hK) | ((iterate 3 (clear hK K)); apply hK) | ((iterate 4 (clear hK K)); apply hK) | ((iterate 5 (clear hK K)); apply hK)); clear hK K)
                  refine Rnd.le (St.le_pick _ ?_ ?_) (Rnd.sub (l.length - (j + 1)) (by omega) ((hI _ _).2 ⟨j + 1, _, [(b, .svs (fC nC1 O ++ nC1 id)), (tb, .svs [Str nm, SL ats, RL l])], rfl, by omega, (by rw [hsn, List.length_append, ← fC_snoc]; exact Acc.osH (by simp [fresh_cons, fresh_nil, hD]) (by rw [List.length_append, ← e2]; simp [nC1])), rfl⟩) (by repeat' (first | exact rfl | exact trivial | exact int_eq (by omega) | exact int_eq (by (rw [i64_wrap] <;> omega)) | constructor)))
                  · repeat' (first | exact (fun x hx => (List.not_mem_nil hx).elim) | refine List.forall_mem_cons.2 ⟨?_, ?_⟩ | exact List.mem_cons_self | apply List.mem_cons_of_mem)
                  · simp [fresh_cons, fresh_nil, hD]
              · rw [hO, decide_eq_false hk, if_neg (by simp)] at hsn
                have hk0 := eq_false hk
                rcases hB.casesH with ⟨e0, e1, rfl, rfl⟩ | ⟨g2, hgf2, e2, rfl, hle2⟩
                · repeat' first | (with_reducible refine And.intro (by omega) ?_) | (refine SW.seq_k fun K hK => ?_) | (refine SW.block ?_) | ((first | refine SW.region ?_ | refine SW.regionD (Checked.mixed Tryd.checked) (by kernel_rfl) ?_ | refine SW.cond ?_ | refine SW.skip ?_ | refine SW.exit ?_ | refine SW.ret ?_ | refine Call.of_pure (fp) ?_ | refine ⟨_, fp, ?_⟩ | (refine allF_i fun b hb => ?_; replace hD := And.intro hb hD; clear hb; try simp only [fresh_cons, fresh_nil, and_true, ne_eq, neF] at hD) | simp only [appK, appOsK]); try simp only [go_sem, hD, hli, ie, i0, w1, tf, tv, a0, al, ae, ba, pa, pb, wf, wd, true_implies, hk0]) | (refine And.intro (by omega) ?_) | (refine ifI (fun hc => ?_) (fun hc => ?_) <;> first | (exfalso; omega) | skip) | ((first | apply hK | ((iterate 1 (clear hK K)); apply hK) | ((iterate 2 (clear hK K)); apply hK) | ((iterate 3 (clear hK K)); apply hK) | ((iterate 4 (clear hK K)); apply hK) | ((iterate 5 (clear hK K)); apply hK)); clear hK K)
                  refine Rnd.le (St.le_pick _ ?_ ?_) (Rnd.sub (l.length - (j + 1)) (by omega) ((hI _ _).2 ⟨j + 1, _, [(tb, .svs [Str nm, SL ats, RL l])], rfl, by omega, (by rw [hsn]; exact hB), rfl⟩) (by repeat' (first | exact rfl | exact trivial | exact int_eq (by omega) | exact int_eq (by (rw [i64_wrap] <;> omega)) | constructor)))
                  · repeat' (first | exact (fun x hx => (List.not_mem_nil hx).elim) | refine List.forall_mem_cons.2 ⟨?_, ?_⟩ | exact List.mem_cons_self | apply List.mem_cons_of_mem)
                  · simp [fresh_cons, fresh_nil, hD]
                · refine Ab.SW.le (hle2 _) ?_
                  have hgt2 : ¬ g2 = tb := fun e => hgf2.1.1 e.symm
                  have hD := And.intro (eq_false hgt2) hD
                  repeat' first | (with_reducible refine And.intro (by omega) ?_) | (refine SW.seq_k fun K hK => ?_) | (refine SW.block ?_) | ((first | refine SW.region ?_ | refine SW.regionD (Checked.mixed Tryd.checked) (by kernel_rfl) ?_ | refine SW.cond ?_ | refine SW.skip ?_ | refine SW.exit ?_ | refine SW.ret ?_ | refine Call.of_pure (fp) ?_ | refine ⟨_, fp, ?_⟩ | (refine allF_i fun b hb => ?_; replace hD := And.intro hb hD; clear hb; try simp only [fresh_cons, fresh_nil, and_true, ne_eq, neF] at hD) | simp only [appK, appOsK]); try simp only [go_sem, hD, hli, ie, i0, w1, tf, tv, a0, al, ae, ba, pa, pb, wf, wd, true_implies, hgt2, hk0]) | (refine And.intro (by omega) ?_) | (refine ifI (fun hc => ?_) (fun hc => ?_) <;> first | (exfalso; omega) | skip) | ((first | apply hK | ((iterate 1 (clear hK K)); apply hK) | ((iterate 2 (clear hK K)); apply hK) | ((iterate 3 (clear hK K)); apply hK) | ((iterate 4 (clear hK K)); apply hK) | ((iterate 5 (clear hK K)); apply hK)); clear hK K)
                  refine Rnd.le (St.le_pick _ ?_ ?_) (Rnd.sub (l.length - (j + 1)) (by omega) ((hI _ _).2 ⟨j + 1, _, [(g2, .svs (fC nC1 O)), (tb, .svs [Str nm, SL ats, RL l])], rfl, by omega, (by rw [hsn]; exact Acc.osH hgf2 e2), rfl⟩) (by repeat' (first | exact rfl | exact trivial | exact int_eq (by omega) | exact int_eq (by (rw [i64_wrap] <;> omega)) | constructor)))
                  · repeat' (first | exact (fun x hx => (List.not_mem_nil hx).elim) | refine List.forall_mem_cons.2 ⟨?_, ?_⟩ | exact List.mem_cons_self | apply List.mem_cons_of_mem)
                  · simp [fresh_cons, fresh_nil, hD]
          · have wf : (0 : Nat) = 0 := rfl
            have fp := va
            obtain ⟨f, hf⟩ : ∃ f, f = false := ⟨_, rfl⟩
            have hO : outB q1 q3 (vk, vn, vt) = (decide (vk = 1) && f) := by
              unfold outB
              simp only
              rw [decide_eq_false pa, decide_eq_false pb, Bool.false_and, Bool.false_and, Bool.or_false, hf]
            cases f with
            | true => cases hf
            | false =>
              rw [Bool.and_false] at hO
              rw [hO, if_neg (by simp)] at hsn
              rcases hB.casesH with ⟨e0, e1, rfl, rfl⟩ | ⟨g2, hgf2, e2, rfl, hle2⟩
              · repeat' first | (with_reducible refine And.intro (by omega) ?_) | (refine SW.seq_k fun K hK => ?_) | (refine SW.block ?_) | ((first | refine SW.region ?_ | refine SW.regionD (Checked.mixed Tryd.checked) (by kernel_rfl) ?_ | refine SW.cond ?_ | refine SW.skip ?_ | refine SW.exit ?_ | refine SW.ret ?_ | refine Call.of_pure (fp) ?_ | refine ⟨_, fp, ?_⟩ | (refine allF_i fun b hb => ?_; replace hD := And.intro hb hD; clear hb; try simp only [fresh_cons, fresh_nil, and_true, ne_eq, neF] at hD) | simp only [appK, appOsK]); try simp only [go_sem, hD, hli, ie, i0, w1, tf, tv, a0, al, ae, ba, pa, pb, wf, wd, true_implies]) | (refine And.intro (by omega) ?_) | (refine ifI (fun hc => ?_) (fun hc => ?_) <;> first | (exfalso; omega) | skip) | ((first | apply hK | ((iterate 1 (clear hK K)); apply hK) | ((iterate 2 (clear hK K)); apply hK) | ((iterate 3 (clear hK K)); apply hK) | ((iterate 4 (clear hK K)); apply hK) | ((iterate 5 (clear hK K)); apply hK)); clear hK K)
                all_goals
                  refine Rnd.le (St.le_pick _ ?_ ?_) (Rnd.sub (l.length - (j + 1)) (by omega) ((hI _ _).2 ⟨j + 1, _, [(tb, .svs [Str nm, SL ats, RL l])], rfl, by omega, (by rw [hsn]; exact hB), rfl⟩) (by repeat' (first | exact rfl | exact trivial | exact int_eq (by omega) | exact int_eq (by (rw [i64_wrap] <;> omega)) | constructor)))
                  · repeat' (first | exact (fun x hx => (List.not_mem_nil hx).elim) | refine List.forall_mem_cons.2 ⟨?_, ?_⟩ | exact List.mem_cons_self | apply List.mem_cons_of_mem)
                  · simp [fresh_cons, fresh_nil, hD]
              · refine Ab.SW.le (hle2 _) ?_
                have hgt2 : ¬ g2 = tb := fun e => hgf2.1.1 e.symm
                have hD := And.intro (eq_false hgt2) hD
                repeat' first | (with_reducible refine And.intro (by omega) ?_) | (refine SW.seq_k fun K hK => ?_) | (refine SW.block ?_) | ((first | refine SW.region ?_ | refine SW.regionD (Checked.mixed Tryd.checked) (by kernel_rfl) ?_ | refine SW.cond ?_ | refine SW.skip ?_ | refine SW.exit ?_ | refine SW.ret ?_ | refine Call.of_pure (fp) ?_ | refine ⟨_, fp, ?_⟩ | (refine allF_i fun b hb => ?_; replace hD := And.intro hb hD; clear hb; try simp only [fresh_cons, fresh_nil, and_true, ne_eq, neF] at hD) | simp only [appK, appOsK]); try simp only [go_sem, hD, hli, ie, i0, w1, tf, tv, a0, al, ae, ba, pa, pb, wf, wd, true_implies, hgt2]) | (refine And.intro (by omega) ?_) | (refine ifI (fun hc => ?_) (fun hc => ?_) <;> first | (exfalso; omega) | skip) | ((first | apply hK | ((iterate 1 (clear hK K)); apply hK) | ((iterate 2 (clear hK K)); apply hK) | ((iterate 3 (clear hK K)); apply hK) | ((iterate 4 (clear hK K)); apply hK) | ((iterate 5 (clear hK K)); apply hK)); clear hK K)
                all_goals
                  refine Rnd.le (St.le_pick _ ?_ ?_) (Rnd.sub (l.length - (j + 1)) (by omega) ((hI _ _).2 ⟨j + 1, _, [(g2, .svs (fC nC1 O)), (tb, .svs [Str nm, SL ats, RL l])], rfl, by omega, (by rw [hsn]; exact Acc.osH hgf2 e2), rfl⟩) (by repeat' (first | exact rfl | exact trivial | exact int_eq (by omega) | exact int_eq (by (rw [i64_wrap] <;> omega)) | constructor)))
                  · repeat' (first | exact (fun x hx => (List.not_mem_nil hx).elim) | refine List.forall_mem_cons.2 ⟨?_, ?_⟩ | exact List.mem_cons_self | apply List.mem_cons_of_mem)
                  · simp [fresh_cons, fresh_nil, hD]
        · have hli : ¬ ((j : Nat) : Int) < (((l.length) : Nat) : Int) := by omega
          obtain rfl : j = l.length := by omega
          rw [List.take_length, ← hX] at hB
          rcases hB.casesH with ⟨e0, e1, rfl, rfl⟩ | ⟨g2, hgf2, e2, rfl, hle2⟩
          · repeat' first | (with_reducible refine And.intro (by omega) ?_) | (refine SW.seq_k fun K hK => ?_) | (refine SW.block ?_) | ((first | refine SW.region ?_ | refine SW.regionD (Checked.mixed Tryd.checked) (by kernel_rfl) ?_ | refine SW.cond ?_ | refine SW.skip ?_ | refine SW.exit ?_ | refine SW.ret ?_ | (refine allF_i fun b hb => ?_; replace hD := And.intro hb hD; clear hb; try simp only [fresh_cons, fresh_nil, and_true, ne_eq, neF] at hD) | simp only [appK, appOsK]); try simp only [go_sem, hD, hli, true_implies]) | (refine And.intro (by omega) ?_) | (refine ifI (fun hc => ?_) (fun hc => ?_) <;> first | (exfalso; omega) | skip) | ((first | apply hK | ((iterate 1 (clear hK K)); apply hK) | ((iterate 2 (clear hK K)); apply hK) | ((iterate 3 (clear hK K)); apply hK) | ((iterate 4 (clear hK K)); apply hK) | ((iterate 5 (clear hK K)); apply hK)); clear hK K)
            refine retQ_le ((St.le_acc_fl (i := 4) (n := X.length) (sz := 1) (x := .sc (.slice none 0 0)) ?_ hB (fun j => [I64 (X.getD j 0)]) (fun j hj => fC_at nC1_len 0 _ j hj)).trans St.le_drop) ?_
            · exact rfl
            · simp only [resL_tmp, resL_nil, tupOf, go_sem, hD]
              rfl
          · refine Ab.SW.le (hle2 _) ?_
            have hgt2 : ¬ g2 = tb := fun e => hgf2.1.1 e.symm
            repeat' first | (with_reducible refine And.intro (by omega) ?_) | (refine SW.seq_k fun K hK => ?_) | (refine SW.block ?_) | ((first | refine SW.region ?_ | refine SW.regionD (Checked.mixed Tryd.checked) (by kernel_rfl) ?_ | refine SW.cond ?_ | refine SW.skip ?_ | refine SW.exit ?_ | refine SW.ret ?_ | (refine allF_i fun b hb => ?_; replace hD := And.intro hb hD; clear hb; try simp only [fresh_cons, fresh_nil, and_true, ne_eq, neF] at hD) | simp only [appK, appOsK]); try simp only [go_sem, hD, hli, true_implies, hgt2]) | (refine And.intro (by omega) ?_) | (refine ifI (fun hc => ?_) (fun hc => ?_) <;> first | (exfalso; omega) | skip) | ((first | apply hK | ((iterate 1 (clear hK K)); apply hK) | ((iterate 2 (clear hK K)); apply hK) | ((iterate 3 (clear hK K)); apply hK) | ((iterate 4 (clear hK K)); apply hK) | ((iterate 5 (clear hK K)); apply hK)); clear hK K)
            refine retQ_le ((St.le_acc_fl (i := 4) (n := X.length) (sz := 1) (x := .os g2 0 X.length 1) ?_ (Acc.osH hgf2 e2) (fun j => [I64 (X.getD j 0)]) (fun j hj => fC_at nC1_len 0 _ j hj)).trans St.le_drop) ?_
            · exact rfl
            · simp only [resL_tmp, resL_nil, tupOf, go_sem, hD]
              rfl
end Go.Proofs.YtddkacbcecedaaaDoor
/- Contracts: members of small sets. -/
set_option linter.unusedSimpArgs false
set_option linter.unusedVariables false
set_option linter.unusedSectionVars false
namespace Go.Ab.A34
open Go Go.Ab Go.Proofs
abbrev U32 (n : Int) : SV := .sc (.int .u32 n)
def dbT : List Int := [0, 1, 28, 2, 29, 14, 24, 3, 30, 22, 20, 15, 25, 17, 4, 8, 31, 27, 13, 23, 21, 19, 16, 7, 26, 12, 18, 6, 11, 5, 10, 9]
/-- The least member. -/
def tzN (x : Nat) : Nat := if x % 2 = 1 then 0 else if x % 4 = 2 then 1 else if x % 8 = 4 then 2 else if x % 16 = 8 then 3 else 4
/-- Without the least member. -/
def clrN (x : Nat) : Nat := x - 2 ^ tzN x
def memF : Nat → Nat → List Int
  | 0, _ => []
  | g + 1, x => if x = 0 then [] else (tzN x : Int) :: memF g (clrN x)
/-- The members. -/
def memS (x : Nat) : List Int := memF x x
end Go.Ab.A34
namespace Go.Proofs.YtddkacbcecedaaaDoor
open Go Go.Ab Go.Ab.A34
/-- A table of the library. -/
class Bru [Gl] : Prop where
  g0 : Gl.gl 0 = .fp (dbT.map fun z => .sc (.int .u8 z))
variable [Gl] [Tabs] [Bru]

theorem tz_and : ∀ x : Fin 32, x.val ≠ 0 → bits .and .u32 (x.val : Int) (IntKind.u32.wrap (0 - (x.val : Int))) = (2 ^ tzN x.val : Nat) := by decide
theorem tz_mul : ∀ k : Fin 5, dbT.getD ((IntKind.u32.wrap (((2 ^ k.val : Nat) : Int) * 125613361)).fdiv (2 ^ 27)).toNat 0 = k.val ∧ 0 ≤ (IntKind.u32.wrap (((2 ^ k.val : Nat) : Int) * 125613361)).fdiv (2 ^ 27) ∧ (IntKind.u32.wrap (((2 ^ k.val : Nat) : Int) * 125613361)).fdiv (2 ^ 27) < 32 := by decide

theorem tz_c (x : Nat) (h0 : x ≠ 0) (h : x < 32) : PCall Tryd.prog 68 [U32 x] (I64 (tzN x)) := by
  have e1 := tz_and ⟨x, h⟩ h0
  simp only at e1
  have k5 : tzN x < 5 := by unfold tzN; repeat' split
                            all_goals omega
  obtain ⟨t1, t2, t3⟩ := tz_mul ⟨tzN x, k5⟩
  simp only at t1 t2 t3
  obtain ⟨d, hd⟩ := Int.eq_ofNat_of_zero_le t2
  rw [hd] at t1 t3
  rw [Int.toNat_natCast] at t1
  have hd2 : (IntKind.u32.wrap (((2 ^ tzN x : Nat) : Int) * 125613361)).fdiv (2 ^ min 27 32) = (d : Int) := hd
  have d0 : (0 : Int) ≤ ((d : Nat) : Int) := by omega
  have de : ((d : Nat) : Int).toNat = d := Int.toNat_natCast _
  have g0 : ∀ S : St, S.ev (.global 0) = .fp (dbT.map fun z => .sc (.int .u8 z)) := fun S => Bru.g0
  have hx0 : ¬ ((x : Nat) : Int) = 0 := by omega
  have hdl : d < 32 := by omega
  have hl32 : (dbT.map fun z => SV.sc (.int .u8 z)).length = 32 := by simp [dbT]
  have hdb : (dbT.map fun z => SV.sc (.int .u8 z)).getD d .any = .sc (.int .u8 (tzN x)) := by
    rw [List.getD_eq_getElem?_getD, List.getElem?_map]
    rw [List.getD_eq_getElem?_getD] at t1
    have : d < dbT.length := by simp [dbT]; exact hdl
    rw [List.getElem?_eq_getElem this] at t1 ⊢
    simp only [Option.getD_some, Option.map_some] at t1 ⊢
    rw [t1]
  have wc : IntKind.i64.wrap ((tzN x : Nat) : Int) = ((tzN x : Nat) : Int) := by rw [i64_wrap (by omega) (by omega)]
  have hdt : ((dbT.map fun z => SV.sc (.int .u8 z)).drop d).take 1 = [.sc (.int .u8 (tzN x))] := by
    rw [List.drop_eq_getElem_cons (by omega), List.take_succ_cons, List.take_zero]
    rw [getD_list _ _ _ (by omega)] at hdb
    rw [hdb]
  generalize dbT.map (fun z => SV.sc (.int .u8 z)) = T at *
  refine Call.enter' (N := 14) (rs := [.tmp 2]) Tryd.func68 rfl rfl rfl (by decide) rfl ?_; simp only [argT]; have hD : (0 : Nat) = 0 := rfl
  repeat' first | (with_reducible refine And.intro (by omega) ?_) | (refine SW.seq_k fun K hK => ?_) | (refine SW.block ?_) | ((first | refine SW.region ?_ | refine SW.regionD (Checked.mixed Tryd.checked) (by kernel_rfl) ?_ | refine SW.cond ?_ | refine SW.skip ?_ | refine SW.exit ?_ | refine SW.ret ?_ | (refine allF_i fun b hb => ?_; replace hD := And.intro hb hD; clear hb; try simp only [fresh_cons, fresh_nil, and_true, ne_eq, neF] at hD) | simp only [appK, appOsK]); try simp only [go_sem, hD, e1, hd2, d0, de, g0, hx0, t3, hl32, hdt, wc]) | (refine And.intro (by omega) ?_) | (refine ifI (fun hc => ?_) (fun hc => ?_) <;> first | (exfalso; omega) | skip) | ((first | apply hK | ((iterate 1 (clear hK K)); apply hK) | ((iterate 2 (clear hK K)); apply hK) | ((iterate 3 (clear hK K)); apply hK) | ((iterate 4 (clear hK K)); apply hK) | ((iterate 5 (clear hK K)); apply hK)); clear hK K)
  refine ret_pure ?_; simp only [resL_tmp, resL_nil, tupOf, go_sem, hD]

theorem mem_and : ∀ x : Fin 32, x.val ≠ 0 → bits .and .u32 (x.val : Int) (IntKind.u32.wrap ((x.val : Int) - 1)) = (clrN x.val : Nat) := by decide
theorem mem_step : ∀ x : Fin 32, x.val ≠ 0 → memS x.val = (tzN x.val : Int) :: memS (clrN x.val) := by decide
theorem mem_len : ∀ x : Fin 32, (memS x.val).length ≤ 5 := by decide
theorem clr_lt : ∀ x : Fin 32, x.val ≠ 0 → clrN x.val < x.val := by decide

set_option maxHeartbeats 1000000 in
set_option maxRecDepth 20000 in
theorem members_c (s : Nat) (hs : s < 32) : PCall Tryd.prog 51 [U32 s] (NL (memS s)) := by
  obtain ⟨X, hX⟩ : ∃ X, X = memS s := ⟨_, rfl⟩
  have hXl : X.length ≤ 5 := by rw [hX]; exact mem_len ⟨s, hs⟩
  rw [← hX]
  refine Call.enter' (N := 16) (rs := [.tmp 2]) Tryd.func51 rfl rfl rfl (by decide) rfl ?_; simp only [argT]; have hD : (0 : Nat) = 0 := rfl
  repeat' first | (with_reducible refine And.intro (by omega) ?_) | (refine SW.seq_k fun K hK => ?_) | (refine SW.block ?_) | ((first | refine SW.region ?_ | refine SW.regionD (Checked.mixed Tryd.checked) (by kernel_rfl) ?_ | refine SW.cond ?_ | refine SW.skip ?_ | refine SW.exit ?_ | refine SW.ret ?_ | (refine allF_i fun b hb => ?_; replace hD := And.intro hb hD; clear hb; try simp only [fresh_cons, fresh_nil, and_true, ne_eq, neF] at hD) | simp only [appK, appOsK]); try simp only [go_sem, hD]) | (refine And.intro (by omega) ?_) | (refine ifI (fun hc => ?_) (fun hc => ?_) <;> first | (exfalso; omega) | skip) | ((first | apply hK | ((iterate 1 (clear hK K)); apply hK) | ((iterate 2 (clear hK K)); apply hK) | ((iterate 3 (clear hK K)); apply hK) | ((iterate 4 (clear hK K)); apply hK) | ((iterate 5 (clear hK K)); apply hK)); clear hK K)
  obtain ⟨I, hI⟩ : ∃ I : Nat → St → Prop, ∀ k S, I k S ↔ (∃ (x : SV) (h : Heap) (acc : List Int), k < 32 ∧ Acc 1 x h [] acc.length (fC nC1 acc) ∧ X = acc ++ memS k ∧ S = ⟨[(0, U32 k), (3, x)], h⟩) := ⟨fun k S => _, fun _ _ => Iff.rfl⟩
  refine SW.loop' I s ((hI _ _).2 ⟨_, _, [], hs, .nil _ _, by rw [hX]; rfl, rfl⟩) (by repeat' (first | exact rfl | exact trivial | exact int_eq (by omega) | exact int_eq (by (rw [i64_wrap] <;> omega)) | constructor)) ?_
  clear hX
  intro k S hIn
  obtain ⟨x, h, acc, hk, hB, hC, rfl⟩ := (hI _ _).1 hIn
  clear hIn
  by_cases hz : k = 0
  · subst hz
    have h0 : ((0 : Nat) : Int) = 0 := rfl
    have hm0 : memS 0 = [] := rfl
    rw [hm0, List.append_nil] at hC
    subst hC
    repeat' first | (with_reducible refine And.intro (by omega) ?_) | (refine SW.seq_k fun K hK => ?_) | (refine SW.block ?_) | ((first | refine SW.region ?_ | refine SW.regionD (Checked.mixed Tryd.checked) (by kernel_rfl) ?_ | refine SW.cond ?_ | refine SW.skip ?_ | refine SW.exit ?_ | refine SW.ret ?_ | (refine allF_i fun b hb => ?_; replace hD := And.intro hb hD; clear hb; try simp only [fresh_cons, fresh_nil, and_true, ne_eq, neF] at hD) | simp only [appK, appOsK]); try simp only [go_sem, hD, h0]) | (refine And.intro (by omega) ?_) | (refine ifI (fun hc => ?_) (fun hc => ?_) <;> first | (exfalso; omega) | skip) | ((first | apply hK | ((iterate 1 (clear hK K)); apply hK) | ((iterate 2 (clear hK K)); apply hK) | ((iterate 3 (clear hK K)); apply hK) | ((iterate 4 (clear hK K)); apply hK) | ((iterate 5 (clear hK K)); apply hK)); clear hK K)
    refine retQ_le ((St.le_acc_fl (i := 2) (n := X.length) (sz := 1) (x := x) ?_ hB (fun j => [I64 (X.getD j 0)]) (fun j hj => fC_at nC1_len 0 _ j hj)).trans St.le_drop) ?_
    · exact rfl
    · simp only [resL_tmp, resL_nil, tupOf, go_sem, hD]
      rfl
  · have hz0 : ¬ ((k : Nat) : Int) = 0 := by omega
    have tz := tz_c k hz hk
    have e2 := mem_and ⟨k, hk⟩ hz
    have e3 := mem_step ⟨k, hk⟩ hz
    have e4 := clr_lt ⟨k, hk⟩ hz
    simp only at e2 e3 e4
    rw [e3] at hC
    have hCl := congrArg List.length hC
    rw [List.length_append, List.length_cons] at hCl
    have ba : (acc.length + 1) * 8 ≤ 140737488355328 := by omega
    rcases hB.casesH with ⟨e0, e1, rfl, rfl⟩ | ⟨g, hgf, e0, rfl, hle⟩
    · have hLn : acc = [] := List.eq_nil_of_length_eq_zero e0
      subst hLn
      repeat' first | (with_reducible refine And.intro (by omega) ?_) | (refine SW.seq_k fun K hK => ?_) | (refine SW.block ?_) | ((first | refine SW.region ?_ | refine SW.regionD (Checked.mixed Tryd.checked) (by kernel_rfl) ?_ | refine SW.cond ?_ | refine SW.skip ?_ | refine SW.exit ?_ | refine SW.ret ?_ | refine Call.of_pure (tz) ?_ | refine ⟨_, tz, ?_⟩ | (refine allF_i fun b hb => ?_; replace hD := And.intro hb hD; clear hb; try simp only [fresh_cons, fresh_nil, and_true, ne_eq, neF] at hD) | simp only [appK, appOsK]); try simp only [go_sem, hD, hz0, e2, ba, true_implies]) | (refine And.intro (by omega) ?_) | (refine ifI (fun hc => ?_) (fun hc => ?_) <;> first | (exfalso; omega) | skip) | ((first | apply hK | ((iterate 1 (clear hK K)); apply hK) | ((iterate 2 (clear hK K)); apply hK) | ((iterate 3 (clear hK K)); apply hK) | ((iterate 4 (clear hK K)); apply hK) | ((iterate 5 (clear hK K)); apply hK)); clear hK K)
      refine Rnd.le (St.le_pick [(b, .ints .i64 [(tzN k : Int)])] ?_ ?_) (Rnd.sub (clrN k) (by omega) ((hI _ _).2 ⟨_, _, [(tzN k : Int)], by omega, .inr ⟨b, .ints .i64 [(tzN k : Int)], by simp [fresh_nil], rfl, rfl, rfl, rfl⟩, hC, rfl⟩) (by repeat' (first | exact rfl | exact trivial | exact int_eq (by omega) | exact int_eq (by (rw [i64_wrap] <;> omega)) | constructor)))
      · repeat' (first | exact (fun x hx => (List.not_mem_nil hx).elim) | refine List.forall_mem_cons.2 ⟨?_, ?_⟩ | exact List.mem_cons_self | apply List.mem_cons_of_mem)
      · simp [fresh_cons, fresh_nil, hD]
    · refine Ab.SW.le (hle _) ?_
      repeat' first | (with_reducible refine And.intro (by omega) ?_) | (refine SW.seq_k fun K hK => ?_) | (refine SW.block ?_) | ((first | refine SW.region ?_ | refine SW.regionD (Checked.mixed Tryd.checked) (by kernel_rfl) ?_ | refine SW.cond ?_ | refine SW.skip ?_ | refine SW.exit ?_ | refine SW.ret ?_ | refine Call.of_pure (tz) ?_ | refine ⟨_, tz, ?_⟩ | (refine allF_i fun b hb => ?_; replace hD := And.intro hb hD; clear hb; try simp only [fresh_cons, fresh_nil, and_true, ne_eq, neF] at hD) | simp only [appK, appOsK]); try simp only [go_sem, hD, hz0, e2, ba, true_implies, e0]) | (refine And.intro (by omega) ?_) | (refine ifI (fun hc => ?_) (fun hc => ?_) <;> first | (exfalso; omega) | skip) | ((first | apply hK | ((iterate 1 (clear hK K)); apply hK) | ((iterate 2 (clear hK K)); apply hK) | ((iterate 3 (clear hK K)); apply hK) | ((iterate 4 (clear hK K)); apply hK) | ((iterate 5 (clear hK K)); apply hK)); clear hK K)
      refine Rnd.le (St.le_pick [(b, .svs (fC nC1 acc ++ nC1 (tzN k : Int)))] ?_ ?_) (Rnd.sub (clrN k) (by omega) ((hI _ _).2 ⟨_, _, acc ++ [(tzN k : Int)], by omega, by rw [List.length_append, ← fC_snoc]; exact Acc.osH (by simp [fresh_nil]) (by rw [List.length_append, ← e0]; simp [nC1]), by rw [hC]; simp, rfl⟩) (by repeat' (first | exact rfl | exact trivial | exact int_eq (by omega) | exact int_eq (by (rw [i64_wrap] <;> omega)) | constructor)))
      · repeat' (first | exact (fun x hx => (List.not_mem_nil hx).elim) | refine List.forall_mem_cons.2 ⟨?_, ?_⟩ | exact List.mem_cons_self | apply List.mem_cons_of_mem)
      · simp [fresh_cons, fresh_nil, hD]
end Go.Proofs.YtddkacbcecedaaaDoor
/- Contracts: fractions. -/
set_option linter.unusedSimpArgs false
set_option linter.unusedVariables false
set_option linter.unusedSectionVars false
namespace Go.Ab
open Go
/-- A fraction and an error. -/
abbrev FR (x : Int × Int × Int) : SV := .tup [.agg [I64 x.1, I64 x.2.1], I64 x.2.2]
/-- The fraction with a sign, a numerator and a denominator, if they fit. -/
def ofR (neg : Bool) (n d : Nat) : Int × Int × Int := if n ≤ 9223372036854775807 ∧ d ≤ 9223372036854775807 then (if neg = true then -(n : Int) else n, d, 0) else (0, 0, 7)
/-- The fraction with a sign and a quotient, in lowest terms. -/
def bldR (neg : Bool) (n d : Nat) : Int × Int × Int := ofR neg (n / Nat.gcd n d) (d / Nat.gcd n d)
/-- Make. -/
def mkR (num den : Int) : Int × Int × Int := if den = 0 then (0, 0, 8) else bldR (!(decide (num < 0) == decide (den < 0))) num.natAbs den.natAbs
/-- A valid fraction. -/
def okR (num den : Int) : Bool := decide (0 < den) && (decide (-9223372036854775808 < num) && decide (Nat.gcd num.natAbs den.natAbs = 1))
end Go.Ab
namespace Go.Proofs.YtddkacbcecedaaaDoor
open Go Go.Ab
variable [Gl]

theorem abs_p (n : Int) (h0 : -9223372036854775808 ≤ n) (h1 : n ≤ 9223372036854775807) : PCall Tryd.prog 69 [I64 n] (U64 n.natAbs) := by
  refine Call.enter' (N := 10) (rs := [.tmp 2]) Tryd.func69 rfl rfl rfl (by decide) rfl ?_; simp only [argT]; have hD : (0 : Nat) = 0 := rfl
  repeat' first | (with_reducible refine And.intro (by omega) ?_) | (refine SW.seq_k fun K hK => ?_) | (refine SW.block ?_) | ((first | refine SW.region ?_ | refine SW.regionD (Checked.mixed Tryd.checked) (by kernel_rfl) ?_ | refine SW.cond ?_ | refine SW.skip ?_ | refine SW.exit ?_ | refine SW.ret ?_ | (refine allF_i fun b hb => ?_; replace hD := And.intro hb hD; clear hb; try simp only [fresh_cons, fresh_nil, and_true, ne_eq, neF] at hD) | simp only [appK, appOsK]); try simp only [go_sem, hD]) | (refine And.intro (by omega) ?_) | (refine ifI (fun hc => ?_) (fun hc => ?_) <;> first | (exfalso; omega) | skip) | ((first | apply hK | ((iterate 1 (clear hK K)); apply hK) | ((iterate 2 (clear hK K)); apply hK) | ((iterate 3 (clear hK K)); apply hK) | ((iterate 4 (clear hK K)); apply hK) | ((iterate 5 (clear hK K)); apply hK)); clear hK K)
  · refine ret_pure ?_; simp only [resL_tmp, resL_nil, tupOf, go_sem, hD]
    rw [absw_neg h0 (by omega)]
  · refine ret_pure ?_; simp only [resL_tmp, resL_nil, tupOf, go_sem, hD]
    rw [absw_pos (by omega) h1]

theorem gcd_p (a b : Nat) (ha : a < 18446744073709551616) (hb : b < 18446744073709551616) : PCall Tryd.prog 70 [U64 a, U64 b] (U64 (Nat.gcd a b)) := by
  refine Call.enter' (N := 12) (rs := [.tmp 4]) Tryd.func70 rfl rfl rfl (by decide) rfl ?_; simp only [argT]; have hD : (0 : Nat) = 0 := rfl
  repeat' first | (with_reducible refine And.intro (by omega) ?_) | (refine SW.seq_k fun K hK => ?_) | (refine SW.block ?_) | ((first | refine SW.region ?_ | refine SW.regionD (Checked.mixed Tryd.checked) (by kernel_rfl) ?_ | refine SW.cond ?_ | refine SW.skip ?_ | refine SW.exit ?_ | refine SW.ret ?_ | (refine allF_i fun b hb => ?_; replace hD := And.intro hb hD; clear hb; try simp only [fresh_cons, fresh_nil, and_true, ne_eq, neF] at hD) | simp only [appK, appOsK]); try simp only [go_sem, hD]) | (refine And.intro (by omega) ?_) | (refine ifI (fun hc => ?_) (fun hc => ?_) <;> first | (exfalso; omega) | skip) | ((first | apply hK | ((iterate 1 (clear hK K)); apply hK) | ((iterate 2 (clear hK K)); apply hK) | ((iterate 3 (clear hK K)); apply hK) | ((iterate 4 (clear hK K)); apply hK) | ((iterate 5 (clear hK K)); apply hK)); clear hK K)
  obtain ⟨I, hI⟩ : ∃ I : Nat → St → Prop, ∀ n S, I n S ↔ (∃ (x : Nat), x < 18446744073709551616 ∧ n < 18446744073709551616 ∧ Nat.gcd x n = Nat.gcd a b ∧ S = ⟨[(0, U64 x), (1, U64 n)], []⟩) := ⟨fun n S => _, fun _ _ => Iff.rfl⟩
  refine SW.loop' I b ((hI _ _).2 ⟨a, ha, hb, rfl, rfl⟩) (by repeat' (first | exact rfl | exact trivial | exact int_eq (by omega) | exact int_eq (by (rw [i64_wrap] <;> omega)) | constructor)) ?_
  intro n S hIn
  obtain ⟨x, hx, hn, hg, rfl⟩ := (hI _ _).1 hIn
  clear hIn
  repeat' first | (with_reducible refine And.intro (by omega) ?_) | (refine SW.seq_k fun K hK => ?_) | (refine SW.block ?_) | ((first | refine SW.region ?_ | refine SW.regionD (Checked.mixed Tryd.checked) (by kernel_rfl) ?_ | refine SW.cond ?_ | refine SW.skip ?_ | refine SW.exit ?_ | refine SW.ret ?_ | (refine allF_i fun b hb => ?_; replace hD := And.intro hb hD; clear hb; try simp only [fresh_cons, fresh_nil, and_true, ne_eq, neF] at hD) | simp only [appK, appOsK]); try simp only [go_sem, hD]) | (refine And.intro (by omega) ?_) | ((first | apply hK | ((iterate 1 (clear hK K)); apply hK) | ((iterate 2 (clear hK K)); apply hK) | ((iterate 3 (clear hK K)); apply hK) | ((iterate 4 (clear hK K)); apply hK) | ((iterate 5 (clear hK K)); apply hK)); clear hK K)
  refine ifI (fun hc => ?_) (fun hc => ?_)
  · have e : Int.tmod (x : Int) (n : Int) = ((x % n : Nat) : Int) := (Int.ofNat_tmod x n).symm
    repeat' first | (with_reducible refine And.intro (by omega) ?_) | (refine SW.seq_k fun K hK => ?_) | (refine SW.block ?_) | ((first | refine SW.region ?_ | refine SW.regionD (Checked.mixed Tryd.checked) (by kernel_rfl) ?_ | refine SW.cond ?_ | refine SW.skip ?_ | refine SW.exit ?_ | refine SW.ret ?_ | (refine allF_i fun b hb => ?_; replace hD := And.intro hb hD; clear hb; try simp only [fresh_cons, fresh_nil, and_true, ne_eq, neF] at hD) | simp only [appK, appOsK]); try simp only [go_sem, hD, e]) | (refine And.intro (by omega) ?_) | (refine ifI (fun hc => ?_) (fun hc => ?_) <;> first | (exfalso; omega) | skip) | ((first | apply hK | ((iterate 1 (clear hK K)); apply hK) | ((iterate 2 (clear hK K)); apply hK) | ((iterate 3 (clear hK K)); apply hK) | ((iterate 4 (clear hK K)); apply hK) | ((iterate 5 (clear hK K)); apply hK)); clear hK K)
    refine Rnd.sub (x % n) (Nat.mod_lt _ (by omega)) ((hI _ _).2 ⟨n, hn, Nat.lt_of_lt_of_le (Nat.mod_lt _ (by omega)) (by omega), ?_, rfl⟩) (by repeat' (first | exact rfl | exact trivial | exact int_eq (by omega) | exact int_eq (by (rw [i64_wrap] <;> omega)) | constructor))
    rw [← hg, Nat.gcd_comm, ← Nat.gcd_rec, Nat.gcd_comm]
  · repeat' first | (with_reducible refine And.intro (by omega) ?_) | (refine SW.seq_k fun K hK => ?_) | (refine SW.block ?_) | ((first | refine SW.region ?_ | refine SW.regionD (Checked.mixed Tryd.checked) (by kernel_rfl) ?_ | refine SW.cond ?_ | refine SW.skip ?_ | refine SW.exit ?_ | refine SW.ret ?_ | (refine allF_i fun b hb => ?_; replace hD := And.intro hb hD; clear hb; try simp only [fresh_cons, fresh_nil, and_true, ne_eq, neF] at hD) | simp only [appK, appOsK]); try simp only [go_sem, hD]) | (refine And.intro (by omega) ?_) | (refine ifI (fun hc => ?_) (fun hc => ?_) <;> first | (exfalso; omega) | skip) | ((first | apply hK | ((iterate 1 (clear hK K)); apply hK) | ((iterate 2 (clear hK K)); apply hK) | ((iterate 3 (clear hK K)); apply hK) | ((iterate 4 (clear hK K)); apply hK) | ((iterate 5 (clear hK K)); apply hK)); clear hK K)
    refine ret_pure ?_; simp only [resL_tmp, resL_nil, tupOf, go_sem, hD]
    obtain rfl : n = 0 := by omega
    rw [← hg, Nat.gcd_zero_right]

set_option maxRecDepth 20000 in
theorem rof_p (neg : Bool) (n d : Nat) (hn : n < 18446744073709551616) (hd : d < 18446744073709551616) : PCall Tryd.prog 71 [SB neg, U64 n, U64 d]
    (if n ≤ 9223372036854775807 ∧ d ≤ 9223372036854775807 then .tup [.agg [I64 (if neg then -(n : Int) else n), I64 d], I64 0] else .tup [.agg [I64 0, I64 0], I64 7]) := by
  refine Call.enter' (N := 27) (rs := [.cell 6 73, .tmp 7]) Tryd.func71 rfl rfl rfl (by decide) rfl ?_; simp only [argT]; have hD : (0 : Nat) = 0 := rfl
  repeat' first | (with_reducible refine And.intro (by omega) ?_) | (refine SW.seq_k fun K hK => ?_) | (refine SW.block ?_) | ((first | refine SW.region ?_ | refine SW.regionD (Checked.mixed Tryd.checked) (by kernel_rfl) ?_ | refine SW.cond ?_ | refine SW.skip ?_ | refine SW.exit ?_ | refine SW.ret ?_ | (refine allF_i fun b hb => ?_; replace hD := And.intro hb hD; clear hb; try simp only [fresh_cons, fresh_nil, and_true, ne_eq, neF] at hD) | simp only [appK, appOsK]); try simp only [go_sem, hD]) | (refine And.intro (by omega) ?_) | (refine ifI (fun hc => ?_) (fun hc => ?_) <;> first | (exfalso; omega) | skip) | ((first | apply hK | ((iterate 1 (clear hK K)); apply hK) | ((iterate 2 (clear hK K)); apply hK) | ((iterate 3 (clear hK K)); apply hK) | ((iterate 4 (clear hK K)); apply hK) | ((iterate 5 (clear hK K)); apply hK)); clear hK K)
  · apply ret_cell (i := 6) (n := 2); exact rfl; (simp only [go_sem, hD]; try rfl); (first | exact Nat.le_refl _ | decide); simp only [resL_tmp, resL_cellE, resC_ok, resL_nil, tupOf, getN, go_sem, hD]
    rw [if_neg (by omega)]
  · apply ret_cell (i := 6) (n := 2); exact rfl; (simp only [go_sem, hD]; try rfl); (first | exact Nat.le_refl _ | decide); simp only [resL_tmp, resL_cellE, resC_ok, resL_nil, tupOf, getN, go_sem, hD]
    rw [if_neg (by omega)]
  · apply ret_cell (i := 6) (n := 2); exact rfl; (simp only [go_sem, hD]; try rfl); (first | exact Nat.le_refl _ | decide); simp only [resL_tmp, resL_cellE, resC_ok, resL_nil, tupOf, getN, go_sem, hD]
    rw [if_pos (by omega), if_pos (by assumption)]
    have e : IntKind.i64.wrap (n : Int) = n := i64_wrap (by omega) (by omega)
    rw [e, i64_wrap (n := (d : Int)) (by omega) (by omega), i64_wrap (by omega) (by omega), Int.zero_sub]
  · apply ret_cell (i := 6) (n := 2); exact rfl; (simp only [go_sem, hD]; try rfl); (first | exact Nat.le_refl _ | decide); simp only [resL_tmp, resL_cellE, resC_ok, resL_nil, tupOf, getN, go_sem, hD]
    rw [if_pos (by omega), if_neg (by assumption), i64_wrap (by omega) (by omega), i64_wrap (by omega) (by omega)]
theorem rof_f (neg : Bool) (n d : Nat) (hn : n < 18446744073709551616) (hd : d < 18446744073709551616) : PCall Tryd.prog 71 [SB neg, U64 n, U64 d] (FR (ofR neg n d)) := by
  have h := rof_p neg n d hn hd
  unfold ofR
  split at h
  · rw [if_pos (by assumption)]; exact h
  · rw [if_neg (by assumption)]; exact h

theorem quo_u64 (x g : Nat) (hx : x < 18446744073709551616) : IntKind.u64.wrap (Int.tdiv (x : Int) (g : Int)) = ((x / g : Nat) : Int) := by
  have := Nat.div_le_self x g
  rw [← Int.ofNat_tdiv]
  generalize x / g = y at this ⊢
  exact u64n (by omega) (by omega)

set_option maxRecDepth 20000 in
theorem make_p (num den : Int) (h0 : -9223372036854775808 ≤ num) (h1 : num ≤ 9223372036854775807) (h2 : -9223372036854775808 ≤ den) (h3 : den ≤ 9223372036854775807) : PCall Tryd.prog 52 [I64 num, I64 den] (FR (mkR num den)) := by
  have hg := gcd_p num.natAbs den.natAbs (by omega) (by omega)
  have a1 := abs_p num h0 h1
  have a2 := abs_p den h2 h3
  have ho := rof_f (!(decide (num < 0) == decide (den < 0))) (num.natAbs / Nat.gcd num.natAbs den.natAbs) (den.natAbs / Nat.gcd num.natAbs den.natAbs) (Nat.lt_of_le_of_lt (Nat.div_le_self _ _) (by omega)) (Nat.lt_of_le_of_lt (Nat.div_le_self _ _) (by omega))
  refine Call.enter' (N := 33) (rs := [.cell 4 73, .tmp 5]) Tryd.func52 rfl rfl rfl (by decide) rfl ?_; simp only [argT]; have hD : (0 : Nat) = 0 := rfl
  by_cases hz : den = 0
  · repeat' first | (with_reducible refine And.intro (by omega) ?_) | (refine SW.seq_k fun K hK => ?_) | (refine SW.block ?_) | ((first | refine SW.region ?_ | refine SW.regionD (Checked.mixed Tryd.checked) (by kernel_rfl) ?_ | refine SW.cond ?_ | refine SW.skip ?_ | refine SW.exit ?_ | refine SW.ret ?_ | (refine allF_i fun b hb => ?_; replace hD := And.intro hb hD; clear hb; try simp only [fresh_cons, fresh_nil, and_true, ne_eq, neF] at hD) | simp only [appK, appOsK]); try simp only [go_sem, hD]) | (refine And.intro (by omega) ?_) | (refine ifI (fun hc => ?_) (fun hc => ?_) <;> first | (exfalso; omega) | skip) | ((first | apply hK | ((iterate 1 (clear hK K)); apply hK) | ((iterate 2 (clear hK K)); apply hK) | ((iterate 3 (clear hK K)); apply hK) | ((iterate 4 (clear hK K)); apply hK) | ((iterate 5 (clear hK K)); apply hK)); clear hK K)
    apply ret_cell (i := 4) (n := 2); exact rfl; (simp only [go_sem, hD]; try rfl); (first | exact Nat.le_refl _ | decide); simp only [resL_tmp, resL_cellE, resC_ok, resL_nil, tupOf, getN, go_sem, hD]
    rw [mkR, if_pos hz]
  · have hgp : 0 < Nat.gcd num.natAbs den.natAbs := Nat.gcd_pos_of_pos_right _ (by omega)
    have hm : mkR num den = ofR (!(decide (num < 0) == decide (den < 0))) (num.natAbs / Nat.gcd num.natAbs den.natAbs) (den.natAbs / Nat.gcd num.natAbs den.natAbs) := by rw [mkR, if_neg hz]; rfl
    rw [hm]
    clear hm
    generalize hgg : Nat.gcd num.natAbs den.natAbs = g at hg ho hgp
    have e1 := quo_u64 num.natAbs g (by omega)
    have e2 := quo_u64 den.natAbs g (by omega)
    have hgn : ¬ ((g : Nat) : Int) = 0 := by omega
    repeat' first | (with_reducible refine And.intro (by omega) ?_) | (refine SW.seq_k fun K hK => ?_) | (refine SW.block ?_) | ((first | refine SW.region ?_ | refine SW.regionD (Checked.mixed Tryd.checked) (by kernel_rfl) ?_ | refine SW.cond ?_ | refine SW.skip ?_ | refine SW.exit ?_ | refine SW.ret ?_ | refine Call.of_pure (a1) ?_ | refine ⟨_, a1, ?_⟩ | refine Call.of_pure (a2) ?_ | refine ⟨_, a2, ?_⟩ | refine Call.of_pure (hg) ?_ | refine ⟨_, hg, ?_⟩ | refine Call.of_pure (ho) ?_ | refine ⟨_, ho, ?_⟩ | (refine allF_i fun b hb => ?_; replace hD := And.intro hb hD; clear hb; try simp only [fresh_cons, fresh_nil, and_true, ne_eq, neF] at hD) | simp only [appK, appOsK]); try simp only [go_sem, hD, e1, e2]) | (refine And.intro (by omega) ?_) | (refine ifI (fun hc => ?_) (fun hc => ?_) <;> first | (exfalso; omega) | skip) | ((first | apply hK | ((iterate 1 (clear hK K)); apply hK) | ((iterate 2 (clear hK K)); apply hK) | ((iterate 3 (clear hK K)); apply hK) | ((iterate 4 (clear hK K)); apply hK) | ((iterate 5 (clear hK K)); apply hK)); clear hK K)
    apply ret_cell (i := 4) (n := 2); exact rfl; (simp only [go_sem, hD]; try rfl); (first | exact Nat.le_refl _ | decide); simp only [resL_tmp, resL_cellE, resC_ok, resL_nil, tupOf, getN, go_sem, hD]

end Go.Proofs.YtddkacbcecedaaaDoor
/- Contracts: values of codes, tables of recipes. -/
set_option linter.unusedSimpArgs false
set_option linter.unusedVariables false
set_option linter.unusedSectionVars false
namespace Go.Ab.A34
open Go Go.Ab Go.Proofs
abbrev U8 (n : Int) : SV := .sc (.int .u8 n)
/-- The value with a code. -/
def codeV (c : Int) : V3 :=
  if c % 12 = 0 then (1, 0, ⟨#[]⟩) else if c % 12 = 1 then (1, 1, ⟨#[]⟩) else if c % 12 = 2 then (1, 2, ⟨#[]⟩) else if c % 12 = 3 then (0, 0, ⟨#[]⟩)
  else if c % 12 = 4 then (2, 0, ⟨#[97]⟩) else if c % 12 = 5 then (2, 0, ⟨#[98]⟩) else if c % 12 = 6 then (2, 0, ⟨#[]⟩) else if c % 12 = 7 then (3, 1, ⟨#[]⟩)
  else if c % 12 = 8 then (1, -1, ⟨#[]⟩) else if c % 12 = 9 then (2, 0, ⟨#[97, 98]⟩) else if c % 12 = 10 then (3, 2, ⟨#[]⟩) else (1, 7, ⟨#[]⟩)
def nm8 : List ByteArray := [⟨#[97]⟩, ⟨#[98]⟩, ⟨#[99]⟩, ⟨#[100]⟩, ⟨#[101]⟩, ⟨#[102]⟩, ⟨#[103]⟩, ⟨#[104]⟩]
abbrev UL (l : List Int) : SV := .fl l.length 1 (fun j => [U8 (l.getD j 0)])
abbrev UU (l : List (List Int)) : SV := .fl l.length 1 (fun i => [UL (l.getD i [])])
/-- A recipe: attributes, gap, rows. -/
structure Rc where
  attrs : Int
  gap : Int
  rows : List (List Int)
abbrev RCC (x : Rc) : List SV := [U8 x.attrs, U8 x.gap, UU x.rows]
abbrev RC (x : Rc) : SV := .agg (RCC x)
def okRc (x : Rc) : Prop := (0 ≤ x.attrs ∧ x.attrs < 256) ∧ (0 ≤ x.gap ∧ x.gap < 256) ∧ ∀ r ∈ x.rows, ∀ c ∈ r, 0 ≤ c ∧ c < 256
def rowS (gap : Int) (n i : Nat) (r : List Int) : R3 := (1 + (i : Int) * (1 + gap % 3), (List.range n).map fun k => codeV (r.getD k 0))
/-- The table of a recipe. -/
def wideS (x : Rc) (n : Nat) : Tb := ⟨⟨#[114]⟩, nm8.take n, (List.range x.rows.length).map fun i => rowS x.gap n i (x.rows.getD i [])⟩
end Go.Ab.A34
namespace Go.Proofs.YtddkacbcecedaaaDoor
open Go Go.Ab Go.Ab.A34
variable [Gl] [Tabs]

set_option maxRecDepth 20000 in
theorem code_r (c : Int) (h1 : 0 ≤ c) (h2 : c < 256) : PCall Tryd.prog 62 [U8 c] (VV (codeV c)) := by
  have hm : c.tmod 12 = c % 12 := Int.tmod_eq_emod_of_nonneg h1
  have hk : c % 12 = 0 ∨ c % 12 = 1 ∨ c % 12 = 2 ∨ c % 12 = 3 ∨ c % 12 = 4 ∨ c % 12 = 5 ∨ c % 12 = 6 ∨ c % 12 = 7 ∨ c % 12 = 8 ∨ c % 12 = 9 ∨ c % 12 = 10 ∨ c % 12 = 11 := by omega
  obtain ⟨X, hX⟩ : ∃ X, X = codeV c := ⟨_, rfl⟩
  rw [← hX]
  unfold codeV at hX
  rcases hk with h | h | h | h | h | h | h | h | h | h | h | h
  all_goals
    rw [h] at hm hX
    simp only [Int.reduceEq, if_true, if_false] at hX
    subst hX
    refine Call.enter' (N := 39) (rs := [.cell 2 46]) Tryd.func62 rfl rfl rfl (by decide) rfl ?_; simp only [argT]; have hD : (0 : Nat) = 0 := rfl
    repeat' first | (with_reducible refine And.intro (by omega) ?_) | (refine SW.seq_k fun K hK => ?_) | (refine SW.block ?_) | ((first | refine SW.region ?_ | refine SW.regionD (Checked.mixed Tryd.checked) (by kernel_rfl) ?_ | refine SW.cond ?_ | refine SW.skip ?_ | refine SW.exit ?_ | refine SW.ret ?_ | (refine allF_i fun b hb => ?_; replace hD := And.intro hb hD; clear hb; try simp only [fresh_cons, fresh_nil, and_true, ne_eq, neF] at hD) | simp only [appK, appOsK]); try simp only [go_sem, hD, hm]) | (refine And.intro (by omega) ?_) | (refine ifI (fun hc => ?_) (fun hc => ?_) <;> first | (exfalso; omega) | skip) | ((first | apply hK | ((iterate 1 (clear hK K)); apply hK) | ((iterate 2 (clear hK K)); apply hK) | ((iterate 3 (clear hK K)); apply hK) | ((iterate 4 (clear hK K)); apply hK) | ((iterate 5 (clear hK K)); apply hK)); clear hK K)
    apply ret_cell (i := 2) (n := 3); exact rfl; (simp only [go_sem, hD]; try rfl); (first | exact Nat.le_refl _ | decide); simp only [resL_tmp, resL_cellE, resC_ok, resL_nil, tupOf, getN, go_sem, hD]
end Go.Proofs.YtddkacbcecedaaaDoor
