/- Several texts in one: I3. -/
import Derived.Test.YtddkacbcecedaaaDoorM4
/- Contracts: quartiles and outliers of the reference. -/
set_option linter.unusedSimpArgs false
set_option linter.unusedVariables false
set_option linter.unusedSectionVars false
namespace Go.Ab.A34
open Go Go.Ab Go.Proofs
/-- The quartiles of a list of numbers. -/
def quartS (L : List Int) : SV := if L.length < 4 then .tup [I64 0, I64 0, SB false] else .tup [I64 (q1S L), I64 (q3S L), SB true]
end Go.Ab.A34
namespace Go.Proofs.YtddkacbcecedaaaDoor
open Go Go.Ab Go.Ab.A34
variable [Gl] [Tabs]

set_option maxHeartbeats 4000000 in
set_option maxRecDepth 20000 in
theorem quart_r (t : Tb) (a : Nat) (h1 : validS t = 0) (h2 : a < t.attrs.length) : PCall Tryd.prog 14 [TB t, I64 a] (quartS (numsOf (colS t a))) := by
  obtain ⟨r1, r2, r3⟩ := valid_rows h1
  have co := column_r t a (by omega) (fun r hr => ⟨by have := r3 r hr; omega, fun v hv => by have := okV_size ((r3 r hr).2 v hv); omega⟩)
  have hcl : (colS t a).length ≤ 1000 := by unfold colS; rw [sortV_len, List.length_map]; exact r1
  obtain ⟨X, hX⟩ : ∃ X, X = quartS (numsOf (colS t a)) := ⟨_, rfl⟩
  rw [← hX]
  unfold quartS at hX
  generalize colS t a = C at *
  clear h1 h2 r1 r2 r3
  refine Call.enter' (N := 51) (rs := [.tmp 4, .tmp 5, .tmp 6]) Tryd.func14 rfl rfl rfl (by decide) rfl ?_; simp only [argT]; have hD : (0 : Nat) = 0 := rfl
  repeat' first | (with_reducible refine And.intro (by omega) ?_) | (refine SW.seq_k fun K hK => ?_) | (refine SW.block ?_) | ((first | refine SW.region ?_ | refine SW.regionD (Checked.mixed Tryd.checked) (by kernel_rfl) ?_ | refine SW.cond ?_ | refine SW.skip ?_ | refine SW.exit ?_ | refine SW.ret ?_ | refine Call.of_pure (co) ?_ | refine ⟨_, co, ?_⟩ | (refine allF_i fun b hb => ?_; replace hD := And.intro hb hD; clear hb; try simp only [fresh_cons, fresh_nil, and_true, ne_eq, neF] at hD) | simp only [appK, appOsK]); try simp only [go_sem, hD]) | (refine And.intro (by omega) ?_) | (refine ifI (fun hc => ?_) (fun hc => ?_) <;> first | (exfalso; omega) | skip) | ((first | apply hK | ((iterate 1 (clear hK K)); apply hK) | ((iterate 2 (clear hK K)); apply hK) | ((iterate 3 (clear hK K)); apply hK) | ((iterate 4 (clear hK K)); apply hK) | ((iterate 5 (clear hK K)); apply hK)); clear hK K)
  refine Ab.SW.le St.le_drop ?_
  clear hD
  have hD : (0 : Nat) = 0 := rfl
  obtain ⟨I, hI⟩ : ∃ I : Nat → St → Prop, ∀ k S, I k S ↔ (∃ (i : Nat) (x : SV) (h : Heap), k = C.length - i ∧ i ≤ C.length ∧ Acc 1 x h [] (numsOf (C.take i)).length (fC nC1 (numsOf (C.take i))) ∧ S = ⟨[(7, x), (8, VL C), (9, I64 i)], h⟩) := ⟨fun k S => _, fun _ _ => Iff.rfl⟩
  refine SW.loop' I (C.length) ((hI _ _).2 ⟨0, _, _, rfl, Nat.zero_le _, .nil _ _, rfl⟩) (by repeat' (first | exact rfl | exact trivial | exact int_eq (by omega) | exact int_eq (by (rw [i64_wrap] <;> omega)) | constructor)) ?_
  intro k S hIn
  obtain ⟨i, x, h, rfl, hi, hB, rfl⟩ := (hI _ _).1 hIn
  clear hIn
  have ie : ((i : Nat) : Int).toNat = i := Int.toNat_natCast _
  have i0 : (0 : Int) ≤ ((i : Nat) : Int) := by omega
  by_cases hlt : i < C.length
  · have hli : ((i : Nat) : Int) < (((C.length) : Nat) : Int) := by omega
    have w1 : IntKind.i64.wrap ((i : Int) + 1) = ((i + 1 : Nat) : Int) := by rw [i64_wrap (by omega) (by omega)]; omega
    have hg : C.getD i v0 = C[i] := by simp [List.getD_eq_getElem?_getD, hlt]
    have htk : C.take (i + 1) = C.take i ++ [C.getD i v0] := by rw [List.take_add_one, List.getElem?_eq_getElem hlt, hg]; rfl
    obtain ⟨vk, vn, vt, hv⟩ : ∃ k n t, C.getD i v0 = (k, n, t) := ⟨_, _, _, rfl⟩
    have tv : vF C i = [I64 vk, I64 vn, Str vt] := by unfold vF; rw [hv]
    have hsn := numsOf_snoc (C.take i) (C.getD i v0)
    rw [← htk, hv] at hsn
    have hlen := numsOf_le (C.take i)
    rw [List.length_take] at hlen
    generalize numsOf (C.take i) = L at *
    by_cases hk : vk = 1
    · simp only [hk, if_true] at hsn
      subst hk
      have ba : (L.length + 1) * 8 ≤ 140737488355328 := by omega
      rcases hB.casesH with ⟨e0, e1, rfl, rfl⟩ | ⟨g, hgf, e0, rfl, hle⟩
      · have hLn : L = [] := List.eq_nil_of_length_eq_zero e0
        subst hLn
        repeat' first | (with_reducible refine And.intro (by omega) ?_) | (refine SW.seq_k fun K hK => ?_) | (refine SW.block ?_) | ((first | refine SW.region ?_ | refine SW.regionD (Checked.mixed Tryd.checked) (by kernel_rfl) ?_ | refine SW.cond ?_ | refine SW.skip ?_ | refine SW.exit ?_ | refine SW.ret ?_ | (refine allF_i fun b hb => ?_; replace hD := And.intro hb hD; clear hb; try simp only [fresh_cons, fresh_nil, and_true, ne_eq, neF] at hD) | simp only [appK, appOsK]); try simp only [go_sem, hD, hli, ie, i0, w1, tv, ba, true_implies]) | (refine And.intro (by omega) ?_) | (refine ifI (fun hc => ?_) (fun hc => ?_) <;> first | (exfalso; omega) | skip) | ((first | apply hK | ((iterate 1 (clear hK K)); apply hK) | ((iterate 2 (clear hK K)); apply hK) | ((iterate 3 (clear hK K)); apply hK) | ((iterate 4 (clear hK K)); apply hK) | ((iterate 5 (clear hK K)); apply hK)); clear hK K)
        refine Rnd.le (St.le_pick _ ?_ ?_) (Rnd.sub (C.length - (i + 1)) (by omega) ((hI _ _).2 ⟨i + 1, _, [(b, .ints .i64 [vn])], rfl, by omega, (by rw [hsn]; exact .inr ⟨b, .ints .i64 [vn], by simp [fresh_cons, fresh_nil, hD], rfl, rfl, rfl, rfl⟩), rfl⟩) (by repeat' (first | exact rfl | exact trivial | exact int_eq (by omega) | exact int_eq (by (rw [i64_wrap] <;> omega)) | constructor)))
        · repeat' (first | exact (fun x hx => (List.not_mem_nil hx).elim) | refine List.forall_mem_cons.2 ⟨?_, ?_⟩ | exact List.mem_cons_self | apply List.mem_cons_of_mem)
        · simp [fresh_cons, fresh_nil, hD]
      · refine Ab.SW.le (hle _) ?_
        repeat' first | (with_reducible refine And.intro (by omega) ?_) | (refine SW.seq_k fun K hK => ?_) | (refine SW.block ?_) | ((first | refine SW.region ?_ | refine SW.regionD (Checked.mixed Tryd.checked) (by kernel_rfl) ?_ | refine SW.cond ?_ | refine SW.skip ?_ | refine SW.exit ?_ | refine SW.ret ?_ | (refine allF_i fun b hb => ?_; replace hD := And.intro hb hD; clear hb; try simp only [fresh_cons, fresh_nil, and_true, ne_eq, neF] at hD) | simp only [appK, appOsK]); try simp only [go_sem, hD, hli, ie, i0, w1, tv, ba, true_implies, e0]) | (refine And.intro (by omega) ?_) | (refine ifI (fun hc => ?_) (fun hc => ?_) <;> first | (exfalso; omega) | skip) | ((first | apply hK | ((iterate 1 (clear hK K)); apply hK) | ((iterate 2 (clear hK K)); apply hK) | ((iterate 3 (clear hK K)); apply hK) | ((iterate 4 (clear hK K)); apply hK) | ((iterate 5 (clear hK K)); apply hK)); clear hK K)
        refine Rnd.le (St.le_pick _ ?_ ?_) (Rnd.sub (C.length - (i + 1)) (by omega) ((hI _ _).2 ⟨i + 1, _, [(b, .svs (fC nC1 L ++ nC1 vn))], rfl, by omega, (by rw [hsn, List.length_append, ← fC_snoc]; exact Acc.osH (by simp [fresh_cons, fresh_nil, hD]) (by rw [List.length_append, ← e0]; simp [nC1])), rfl⟩) (by repeat' (first | exact rfl | exact trivial | exact int_eq (by omega) | exact int_eq (by (rw [i64_wrap] <;> omega)) | constructor)))
        · repeat' (first | exact (fun x hx => (List.not_mem_nil hx).elim) | refine List.forall_mem_cons.2 ⟨?_, ?_⟩ | exact List.mem_cons_self | apply List.mem_cons_of_mem)
        · simp [fresh_cons, fresh_nil, hD]
    · simp only [hk, if_false] at hsn
      have hk0 := eq_false hk
      rcases hB.casesH with ⟨e0, e1, rfl, rfl⟩ | ⟨g, hgf, e0, rfl, hle⟩
      · repeat' first | (with_reducible refine And.intro (by omega) ?_) | (refine SW.seq_k fun K hK => ?_) | (refine SW.block ?_) | ((first | refine SW.region ?_ | refine SW.regionD (Checked.mixed Tryd.checked) (by kernel_rfl) ?_ | refine SW.cond ?_ | refine SW.skip ?_ | refine SW.exit ?_ | refine SW.ret ?_ | (refine allF_i fun b hb => ?_; replace hD := And.intro hb hD; clear hb; try simp only [fresh_cons, fresh_nil, and_true, ne_eq, neF] at hD) | simp only [appK, appOsK]); try simp only [go_sem, hD, hli, ie, i0, w1, tv, hk0, true_implies]) | (refine And.intro (by omega) ?_) | (refine ifI (fun hc => ?_) (fun hc => ?_) <;> first | (exfalso; omega) | skip) | ((first | apply hK | ((iterate 1 (clear hK K)); apply hK) | ((iterate 2 (clear hK K)); apply hK) | ((iterate 3 (clear hK K)); apply hK) | ((iterate 4 (clear hK K)); apply hK) | ((iterate 5 (clear hK K)); apply hK)); clear hK K)
        refine Rnd.le (St.le_pick _ ?_ ?_) (Rnd.sub (C.length - (i + 1)) (by omega) ((hI _ _).2 ⟨i + 1, _, [], rfl, by omega, (by rw [hsn]; exact hB), rfl⟩) (by repeat' (first | exact rfl | exact trivial | exact int_eq (by omega) | exact int_eq (by (rw [i64_wrap] <;> omega)) | constructor)))
        · repeat' (first | exact (fun x hx => (List.not_mem_nil hx).elim) | refine List.forall_mem_cons.2 ⟨?_, ?_⟩ | exact List.mem_cons_self | apply List.mem_cons_of_mem)
        · simp [fresh_cons, fresh_nil, hD]
      · refine Ab.SW.le (hle _) ?_
        repeat' first | (with_reducible refine And.intro (by omega) ?_) | (refine SW.seq_k fun K hK => ?_) | (refine SW.block ?_) | ((first | refine SW.region ?_ | refine SW.regionD (Checked.mixed Tryd.checked) (by kernel_rfl) ?_ | refine SW.cond ?_ | refine SW.skip ?_ | refine SW.exit ?_ | refine SW.ret ?_ | (refine allF_i fun b hb => ?_; replace hD := And.intro hb hD; clear hb; try simp only [fresh_cons, fresh_nil, and_true, ne_eq, neF] at hD) | simp only [appK, appOsK]); try simp only [go_sem, hD, hli, ie, i0, w1, tv, hk0, true_implies, e0]) | (refine And.intro (by omega) ?_) | (refine ifI (fun hc => ?_) (fun hc => ?_) <;> first | (exfalso; omega) | skip) | ((first | apply hK | ((iterate 1 (clear hK K)); apply hK) | ((iterate 2 (clear hK K)); apply hK) | ((iterate 3 (clear hK K)); apply hK) | ((iterate 4 (clear hK K)); apply hK) | ((iterate 5 (clear hK K)); apply hK)); clear hK K)
        refine Rnd.le (St.le_pick _ ?_ ?_) (Rnd.sub (C.length - (i + 1)) (by omega) ((hI _ _).2 ⟨i + 1, _, [(g, .svs (fC nC1 L))], rfl, by omega, (by rw [hsn]; exact Acc.osH hgf e0), rfl⟩) (by repeat' (first | exact rfl | exact trivial | exact int_eq (by omega) | exact int_eq (by (rw [i64_wrap] <;> omega)) | constructor)))
        · repeat' (first | exact (fun x hx => (List.not_mem_nil hx).elim) | refine List.forall_mem_cons.2 ⟨?_, ?_⟩ | exact List.mem_cons_self | apply List.mem_cons_of_mem)
        · simp [fresh_cons, fresh_nil, hD]
  · have hli : ¬ ((i : Nat) : Int) < (((C.length) : Nat) : Int) := by omega
    obtain rfl : i = C.length := by omega
    rw [List.take_length] at hB
    have hlen := numsOf_le C
    generalize numsOf C = L at *
    rcases hB.casesH with ⟨e0, e1, rfl, rfl⟩ | ⟨g, hgf, e0, rfl, hle⟩
    · rw [e0, if_pos (by omega)] at hX
      subst hX
      repeat' first | (with_reducible refine And.intro (by omega) ?_) | (refine SW.seq_k fun K hK => ?_) | (refine SW.block ?_) | ((first | refine SW.region ?_ | refine SW.regionD (Checked.mixed Tryd.checked) (by kernel_rfl) ?_ | refine SW.cond ?_ | refine SW.skip ?_ | refine SW.exit ?_ | refine SW.ret ?_ | (refine allF_i fun b hb => ?_; replace hD := And.intro hb hD; clear hb; try simp only [fresh_cons, fresh_nil, and_true, ne_eq, neF] at hD) | simp only [appK, appOsK]); try simp only [go_sem, hD, hli, true_implies]) | (refine And.intro (by omega) ?_) | (refine ifI (fun hc => ?_) (fun hc => ?_) <;> first | (exfalso; omega) | skip) | ((first | apply hK | ((iterate 1 (clear hK K)); apply hK) | ((iterate 2 (clear hK K)); apply hK) | ((iterate 3 (clear hK K)); apply hK) | ((iterate 4 (clear hK K)); apply hK) | ((iterate 5 (clear hK K)); apply hK)); clear hK K)
      refine ret_pure ?_; simp only [resL_tmp, resL_nil, tupOf, go_sem, hD]
    · refine Ab.SW.le (hle _) ?_
      by_cases hm4 : L.length < 4
      · rw [if_pos hm4] at hX
        subst hX
        have hm4i : ((L.length : Nat) : Int) < 4 := by omega
        repeat' first | (with_reducible refine And.intro (by omega) ?_) | (refine SW.seq_k fun K hK => ?_) | (refine SW.block ?_) | ((first | refine SW.region ?_ | refine SW.regionD (Checked.mixed Tryd.checked) (by kernel_rfl) ?_ | refine SW.cond ?_ | refine SW.skip ?_ | refine SW.exit ?_ | refine SW.ret ?_ | (refine allF_i fun b hb => ?_; replace hD := And.intro hb hD; clear hb; try simp only [fresh_cons, fresh_nil, and_true, ne_eq, neF] at hD) | simp only [appK, appOsK]); try simp only [go_sem, hD, hli, true_implies, hm4i]) | (refine And.intro (by omega) ?_) | (refine ifI (fun hc => ?_) (fun hc => ?_) <;> first | (exfalso; omega) | skip) | ((first | apply hK | ((iterate 1 (clear hK K)); apply hK) | ((iterate 2 (clear hK K)); apply hK) | ((iterate 3 (clear hK K)); apply hK) | ((iterate 4 (clear hK K)); apply hK) | ((iterate 5 (clear hK K)); apply hK)); clear hK K)
        refine ret_pure ?_; simp only [resL_tmp, resL_nil, tupOf, go_sem, hD]
      · rw [if_neg hm4] at hX
        subst hX
        have hm4i : ¬ ((L.length : Nat) : Int) < 4 := by omega
        have j1 : IntKind.i64.wrap (((L.length : Nat) : Int) - 1) = ((L.length - 1 : Nat) : Int) := by rw [i64_wrap (by omega) (by omega)]; omega
        have d1 : IntKind.i64.wrap ((((L.length - 1 : Nat) : Int)).tdiv 4) = (((L.length - 1) / 4 : Nat) : Int) := by rw [Int.tdiv_eq_ediv_of_nonneg (by omega), i64_wrap (by omega) (by omega)]; omega
        have j2 : IntKind.i64.wrap (3 * ((L.length - 1 : Nat) : Int)) = ((3 * (L.length - 1) : Nat) : Int) := by rw [i64_wrap (by omega) (by omega)]; omega
        have d2 : IntKind.i64.wrap ((((3 * (L.length - 1) : Nat) : Int)).tdiv 4) = ((3 * (L.length - 1) / 4 : Nat) : Int) := by rw [Int.tdiv_eq_ediv_of_nonneg (by omega), i64_wrap (by omega) (by omega)]; omega
        have k1 : (((L.length - 1) / 4 : Nat) : Int).toNat = (L.length - 1) / 4 := Int.toNat_natCast _
        have k2 : ((3 * (L.length - 1) / 4 : Nat) : Int).toNat = 3 * (L.length - 1) / 4 := Int.toNat_natCast _
        have k3 : (0 : Int) ≤ (((L.length - 1) / 4 : Nat) : Int) := by omega
        have k4 : (0 : Int) ≤ ((3 * (L.length - 1) / 4 : Nat) : Int) := by omega
        have k5 : (((L.length - 1) / 4 : Nat) : Int) < ((L.length : Nat) : Int) := by omega
        have k6 : ((3 * (L.length - 1) / 4 : Nat) : Int) < ((L.length : Nat) : Int) := by omega
        have g1 : (fC nC1 L).getD ((L.length - 1) / 4) .any = I64 (q1S L) := fC1_get L _ (by omega)
        have g2 : (fC nC1 L).getD (3 * (L.length - 1) / 4) .any = I64 (q3S L) := fC1_get L _ (by omega)
        have c0 : (fC nC1 L).length = L.length := by rw [← e0, Nat.mul_one]
        generalize q1S L = q1 at *
        generalize q3S L = q3 at *
        repeat' first | (with_reducible refine And.intro (by omega) ?_) | (refine SW.seq_k fun K hK => ?_) | (refine SW.block ?_) | ((first | refine SW.region ?_ | refine SW.regionZ (id := 11) (Checked.mixed Tryd.checked) ((.one 0 [0, 4, 5, 13, 14, 15] (.one 1 [1, 2, 3, 4, 5, 13, 14, 15] (.one 2 [2, 3, 4, 5, 13, 14, 15] (.one 3 [3, 4, 5, 13, 14, 15] (.one 4 [4, 5, 13, 14, 15] (.one 5 [5, 13, 14, 15] (.one 6 [6, 11, 12, 14, 15] (.one 7 [7, 8, 9, 10, 11, 12, 14, 15] (.one 8 [8, 9, 10, 11, 12, 14, 15] (.one 9 [9, 10, 11, 12, 14, 15] (.one 10 [10, 11, 12, 14, 15] (.one 11 [11, 12, 14, 15] (.one 12 [12, 14, 15] (.one 13 [13, 14, 15] (.one 14 [14, 15] (.one 15 [15] .done)))))))))))))))) : OZ) (by kernel_rfl) ?_ | refine SW.regionD (Checked.mixed Tryd.checked) (by kernel_rfl) ?_ | refine SW.cond ?_ | refine SW.skip ?_ | refine SW.exit ?_ | refine SW.ret ?_ | (refine allF_i fun b hb => ?_; replace hD := And.intro hb hD; clear hb; try simp only [fresh_cons, fresh_nil, and_true, ne_eq, neF] at hD) | simp only [appK, appOsK]); try simp only [go_sem, hD, hli, true_implies, hm4i, j1, d1, j2, d2, k1, k2, k3, k4, k5, k6, g1, g2, c0]) | (refine And.intro (by omega) ?_) | (refine ifI (fun hc => ?_) (fun hc => ?_) <;> first | (exfalso; omega) | skip) | ((first | apply hK | ((iterate 1 (clear hK K)); apply hK) | ((iterate 2 (clear hK K)); apply hK) | ((iterate 3 (clear hK K)); apply hK) | ((iterate 4 (clear hK K)); apply hK) | ((iterate 5 (clear hK K)); apply hK)); clear hK K) | (refine And.intro ?_ ?_)
        all_goals
          refine ret_pure ?_; simp only [resL_tmp, resL_nil, tupOf, go_sem, hD]

theorem out_r_bad (t : Tb) (a : Int) (hv : ∀ r ∈ t.rows, r.2.length ≤ 9223372036854775807) (h : ¬ chkS t a = 0) : PCall Tryd.prog 12 [TB t, I64 a] (.tup [NL [], I64 (chkS t a)]) := by
  have va := error_r t a hv
  generalize chkS t a = e at *
  refine Call.enter' (N := 84) (rs := [.tmp 4, .tmp 5]) Tryd.func12 rfl rfl rfl (by decide) rfl ?_; simp only [argT]; have hD : (0 : Nat) = 0 := rfl
  repeat' first | (with_reducible refine And.intro (by omega) ?_) | (refine SW.seq_k fun K hK => ?_) | (refine SW.block ?_) | ((first | refine SW.region ?_ | refine SW.regionD (Checked.mixed Tryd.checked) (by kernel_rfl) ?_ | refine SW.cond ?_ | refine SW.skip ?_ | refine SW.exit ?_ | refine SW.ret ?_ | refine Call.of_pure (va) ?_ | refine ⟨_, va, ?_⟩ | (refine allF_i fun b hb => ?_; replace hD := And.intro hb hD; clear hb; try simp only [fresh_cons, fresh_nil, and_true, ne_eq, neF] at hD) | simp only [appK, appOsK]); try simp only [go_sem, hD, h]) | (refine And.intro (by omega) ?_) | (refine ifI (fun hc => ?_) (fun hc => ?_) <;> first | (exfalso; omega) | skip) | ((first | apply hK | ((iterate 1 (clear hK K)); apply hK) | ((iterate 2 (clear hK K)); apply hK) | ((iterate 3 (clear hK K)); apply hK) | ((iterate 4 (clear hK K)); apply hK) | ((iterate 5 (clear hK K)); apply hK)); clear hK K)
  refine retQ_le (St.le_nil_fl (i := 4) (sz := 1) (f := fun j => [I64 (([] : List Int).getD j 0)]) rfl) ?_
  simp only [resL_tmp, resL_nil, tupOf, go_sem, hD]
  rfl

set_option maxHeartbeats 4000000 in
set_option maxRecDepth 20000 in
theorem out_r (t : Tb) (a : Nat) (h : chkS t a = 0) (h64 : ∀ r ∈ t.rows, ∀ v ∈ r.2, In64 v.2.1) : PCall Tryd.prog 12 [TB t, I64 a] (.tup [NL (outS t a), I64 0]) := by
  obtain ⟨h1, h2, h3⟩ := chk_ok h
  obtain ⟨r1, r2, r3⟩ := valid_rows h1
  have va := error_r t a (fun r hr => by have := (r3 r hr).1; omega)
  rw [h] at va
  have hal : ∀ r ∈ t.rows, a < r.2.length := fun r hr => by have := r3 r hr; omega
  have qu := quart_r t a h1 (by omega)
  have hso := nums_sorted (sortV_sorted (t.rows.map fun r => r.2.getD a v0))
  have hin := numsOf_mem (col_mem hal h64)
  obtain ⟨X, hX⟩ : ∃ X, X = outS t a := ⟨_, rfl⟩
  rw [← hX]
  unfold outS at hX
  change List.Pairwise _ (numsOf (colS t a)) at hso
  unfold quartS at qu
  generalize numsOf (colS t a) = L at *
  obtain ⟨nm, ats, l⟩ := t
  simp only at hX hal r1 h64 r3 ⊢
  clear h h1 h2 h3
  by_cases hm4 : L.length < 4
  · rw [if_pos hm4] at hX qu
    subst hX
    refine Call.enter' (N := 84) (rs := [.tmp 4, .tmp 5]) Tryd.func12 rfl rfl rfl (by decide) rfl ?_; simp only [argT]; have hD : (0 : Nat) = 0 := rfl
    repeat' first | (with_reducible refine And.intro (by omega) ?_) | (refine SW.seq_k fun K hK => ?_) | (refine SW.block ?_) | ((first | refine SW.region ?_ | refine SW.regionD (Checked.mixed Tryd.checked) (by kernel_rfl) ?_ | refine SW.cond ?_ | refine SW.skip ?_ | refine SW.exit ?_ | refine SW.ret ?_ | refine Call.of_pure (va) ?_ | refine ⟨_, va, ?_⟩ | refine Call.of_pure (qu) ?_ | refine ⟨_, qu, ?_⟩ | (refine allF_i fun b hb => ?_; replace hD := And.intro hb hD; clear hb; try simp only [fresh_cons, fresh_nil, and_true, ne_eq, neF] at hD) | simp only [appK, appOsK]); try simp only [go_sem, hD]) | (refine And.intro (by omega) ?_) | (refine ifI (fun hc => ?_) (fun hc => ?_) <;> first | (exfalso; omega) | skip) | ((first | apply hK | ((iterate 1 (clear hK K)); apply hK) | ((iterate 2 (clear hK K)); apply hK) | ((iterate 3 (clear hK K)); apply hK) | ((iterate 4 (clear hK K)); apply hK) | ((iterate 5 (clear hK K)); apply hK)); clear hK K)
    obtain ⟨tb, rfl⟩ : ∃ x, x = b := ⟨_, rfl⟩
    obtain ⟨I, hI⟩ : ∃ I : Nat → St → Prop, ∀ k S, I k S ↔ (∃ (j : Nat) , k = 0 - j ∧ j ≤ 0 ∧ S = ⟨[(2, .op tb 0), (9, SB false), (10, .sc (.slice none 0 0)), (11, I64 j)], [(tb, .svs [Str nm, SL ats, RL l])]⟩) := ⟨fun k S => _, fun _ _ => Iff.rfl⟩
    refine SW.loop' I (0) ((hI _ _).2 ⟨0, rfl, Nat.zero_le _, rfl⟩) (by repeat' (first | exact rfl | exact trivial | exact int_eq (by omega) | exact int_eq (by (rw [i64_wrap] <;> omega)) | constructor)) ?_
    intro k S hIn
    obtain ⟨j, rfl, hi, rfl⟩ := (hI _ _).1 hIn
    clear hIn
    have ie : ((j : Nat) : Int).toNat = j := Int.toNat_natCast _
    have i0 : (0 : Int) ≤ ((j : Nat) : Int) := by omega
    obtain rfl : j = 0 := by omega
    by_cases hc0 : ((0 : Nat) : Int) < ((l.length : Nat) : Int)
    · have hc1 := eq_true hc0
      repeat' first | (with_reducible refine And.intro (by omega) ?_) | (refine SW.seq_k fun K hK => ?_) | (refine SW.block ?_) | ((first | refine SW.region ?_ | refine SW.regionD (Checked.mixed Tryd.checked) (by kernel_rfl) ?_ | refine SW.cond ?_ | refine SW.skip ?_ | refine SW.exit ?_ | refine SW.ret ?_ | (refine allF_i fun b hb => ?_; replace hD := And.intro hb hD; clear hb; try simp only [fresh_cons, fresh_nil, and_true, ne_eq, neF] at hD) | simp only [appK, appOsK]); try simp only [go_sem, hD, hc1, true_implies]) | (refine And.intro (by omega) ?_) | (refine ifI (fun hc => ?_) (fun hc => ?_) <;> first | (exfalso; omega) | skip) | ((first | apply hK | ((iterate 1 (clear hK K)); apply hK) | ((iterate 2 (clear hK K)); apply hK) | ((iterate 3 (clear hK K)); apply hK) | ((iterate 4 (clear hK K)); apply hK) | ((iterate 5 (clear hK K)); apply hK)); clear hK K)
      refine retQ_le (St.le_nil_fl (i := 4) (sz := 1) (f := fun j => [I64 (([] : List Int).getD j 0)]) rfl) ?_
      simp only [resL_tmp, resL_nil, tupOf, go_sem, hD]
      rfl
    · have hc1 := eq_false hc0
      repeat' first | (with_reducible refine And.intro (by omega) ?_) | (refine SW.seq_k fun K hK => ?_) | (refine SW.block ?_) | ((first | refine SW.region ?_ | refine SW.regionD (Checked.mixed Tryd.checked) (by kernel_rfl) ?_ | refine SW.cond ?_ | refine SW.skip ?_ | refine SW.exit ?_ | refine SW.ret ?_ | (refine allF_i fun b hb => ?_; replace hD := And.intro hb hD; clear hb; try simp only [fresh_cons, fresh_nil, and_true, ne_eq, neF] at hD) | simp only [appK, appOsK]); try simp only [go_sem, hD, hc1, true_implies]) | (refine And.intro (by omega) ?_) | (refine ifI (fun hc => ?_) (fun hc => ?_) <;> first | (exfalso; omega) | skip) | ((first | apply hK | ((iterate 1 (clear hK K)); apply hK) | ((iterate 2 (clear hK K)); apply hK) | ((iterate 3 (clear hK K)); apply hK) | ((iterate 4 (clear hK K)); apply hK) | ((iterate 5 (clear hK K)); apply hK)); clear hK K)
      refine retQ_le (St.le_nil_fl (i := 4) (sz := 1) (f := fun j => [I64 (([] : List Int).getD j 0)]) rfl) ?_
      simp only [resL_tmp, resL_nil, tupOf, go_sem, hD]
      rfl
  · rw [if_neg hm4] at hX qu
    have hle13 := quart_le hso (by omega)
    have in1 : In64 (q1S L) := hin _ (getD_mem 0 (by omega))
    have in3 : In64 (q3S L) := hin _ (getD_mem 0 (by omega))
    generalize q1S L = q1 at *
    generalize q3S L = q3 at *
    unfold In64 at in1 in3
    refine Call.enter' (N := 84) (rs := [.tmp 4, .tmp 5]) Tryd.func12 rfl rfl rfl (by decide) rfl ?_; simp only [argT]; have hD : (0 : Nat) = 0 := rfl
    repeat' first | (with_reducible refine And.intro (by omega) ?_) | (refine SW.seq_k fun K hK => ?_) | (refine SW.block ?_) | ((first | refine SW.region ?_ | refine SW.regionD (Checked.mixed Tryd.checked) (by kernel_rfl) ?_ | refine SW.cond ?_ | refine SW.skip ?_ | refine SW.exit ?_ | refine SW.ret ?_ | refine Call.of_pure (va) ?_ | refine ⟨_, va, ?_⟩ | refine Call.of_pure (qu) ?_ | refine ⟨_, qu, ?_⟩ | (refine allF_i fun b hb => ?_; replace hD := And.intro hb hD; clear hb; try simp only [fresh_cons, fresh_nil, and_true, ne_eq, neF] at hD) | simp only [appK, appOsK]); try simp only [go_sem, hD]) | (refine And.intro (by omega) ?_) | (refine ifI (fun hc => ?_) (fun hc => ?_) <;> first | (exfalso; omega) | skip) | ((first | apply hK | ((iterate 1 (clear hK K)); apply hK) | ((iterate 2 (clear hK K)); apply hK) | ((iterate 3 (clear hK K)); apply hK) | ((iterate 4 (clear hK K)); apply hK) | ((iterate 5 (clear hK K)); apply hK)); clear hK K)
    obtain ⟨tb, rfl⟩ : ∃ x, x = b := ⟨_, rfl⟩
    obtain ⟨I, hI⟩ : ∃ I : Nat → St → Prop, ∀ k S, I k S ↔ (∃ (j : Nat) (x : SV) (h : Heap), k = l.length - j ∧ j ≤ l.length ∧ Acc 1 x h [(tb, .svs [Str nm, SL ats, RL l])] (outRows q1 q3 a (l.take j)).length (fC nC1 (outRows q1 q3 a (l.take j))) ∧ S = ⟨[(1, I64 a), (2, .op tb 0), (7, I64 q1), (8, I64 q3), (9, SB true), (10, x), (11, I64 j)], h⟩) := ⟨fun k S => _, fun _ _ => Iff.rfl⟩
    refine SW.loop' I (l.length) ((hI _ _).2 ⟨0, _, _, rfl, Nat.zero_le _, .nil _ _, rfl⟩) (by repeat' (first | exact rfl | exact trivial | exact int_eq (by omega) | exact int_eq (by (rw [i64_wrap] <;> omega)) | constructor)) ?_
    intro k S hIn
    obtain ⟨j, x, h, rfl, hi, hB, rfl⟩ := (hI _ _).1 hIn
    clear hIn
    have ie : ((j : Nat) : Int).toNat = j := Int.toNat_natCast _
    have i0 : (0 : Int) ≤ ((j : Nat) : Int) := by omega
    by_cases hlt : j < l.length
    · have hli : ((j : Nat) : Int) < (((l.length) : Nat) : Int) := by omega
      have w1 : IntKind.i64.wrap ((j : Int) + 1) = ((j + 1 : Nat) : Int) := by rw [i64_wrap (by omega) (by omega)]; omega
      have hg : l.getD j r0 = l[j] := by simp [List.getD_eq_getElem?_getD, hlt]
      have hm := getD_mem r0 hlt
      have htk : l.take (j + 1) = l.take j ++ [l.getD j r0] := by rw [List.take_add_one, List.getElem?_eq_getElem hlt, hg]; rfl
      have har := hal _ hm
      have h6 := h64 _ hm
      obtain ⟨id, vs, hr⟩ : ∃ id vs, l.getD j r0 = (id, vs) := ⟨_, _, rfl⟩
      have tf : rF l j = [I64 id, VL vs] := by unfold rF; rw [hr]; rfl
      have hsn := outRows_snoc q1 q3 a (l.take j) (l.getD j r0)
      rw [← htk, hr] at hsn
      rw [hr] at har h6
      simp only at har h6 hsn
      have h6v := h6 _ (getD_mem v0 har)
      obtain ⟨vk, vn, vt, hv⟩ : ∃ k n t, vs.getD a v0 = (k, n, t) := ⟨_, _, _, rfl⟩
      have tv : vF vs a = [I64 vk, I64 vn, Str vt] := by unfold vF; rw [hv]
      rw [hv] at hsn h6v
      unfold In64 at h6v
      simp only at h6v
      have hlen := outRows_le q1 q3 a (l.take j)
      rw [List.length_take] at hlen
      generalize outRows q1 q3 a (l.take j) = O at *
      have a0 : (0 : Int) ≤ ((a : Nat) : Int) := by omega
      have al : ((a : Nat) : Int) < ((vs.length : Nat) : Int) := by omega
      have ae : ((a : Nat) : Int).toNat = a := Int.toNat_natCast _
      have ba : (O.length + 1) * 8 ≤ 140737488355328 := by omega
      have three : (vn < q1 ∧ ¬ q3 < vn) ∨ (¬ vn < q1 ∧ q3 < vn) ∨ (¬ vn < q1 ∧ ¬ q3 < vn) := by omega
      rcases three with ⟨pa, pb⟩ | ⟨pa, pb⟩ | ⟨pa, pb⟩
      · skip
        have fp := beyond_r vn q1 q1 q3 (by omega) (by omega) (by omega) (by omega)
        have hO : outB q1 q3 (vk, vn, vt) = (decide (vk = 1) && farI (q1 - vn) (q3 - q1)) := by
          unfold outB
          simp only
          rw [decide_eq_true pa, decide_eq_false pb, Bool.true_and, Bool.false_and, Bool.or_false]
        generalize farI (q1 - vn) (q3 - q1) = f at *
        cases f with
        | false =>
          rw [Bool.and_false] at hO
          rw [hO, if_neg (by simp)] at hsn
          rcases hB.casesH with ⟨e0, e1, rfl, rfl⟩ | ⟨g2, hgf2, e2, rfl, hle2⟩
          · repeat' first | (with_reducible refine And.intro (by omega) ?_) | (refine SW.seq_k fun K hK => ?_) | (refine SW.block ?_) | ((first | refine SW.region ?_ | refine SW.regionD (Checked.mixed Tryd.checked) (by kernel_rfl) ?_ | refine SW.cond ?_ | refine SW.skip ?_ | refine SW.exit ?_ | refine SW.ret ?_ | refine Call.of_pure (fp) ?_ | refine ⟨_, fp, ?_⟩ | (refine allF_i fun b hb => ?_; replace hD := And.intro hb hD; clear hb; try simp only [fresh_cons, fresh_nil, and_true, ne_eq, neF] at hD) | simp only [appK, appOsK]); try simp only [go_sem, hD, hli, ie, i0, w1, tf, tv, a0, al, ae, ba, pa, pb, true_implies]) | (refine And.intro (by omega) ?_) | (refine ifI (fun hc => ?_) (fun hc => ?_) <;> first | (exfalso; omega) | skip) | ((first | apply hK | ((iterate 1 (clear hK K)); apply hK) | ((iterate 2 (clear hK K)); apply hK) | ((iterate 3 (clear hK K)); apply hK) | ((iterate 4 (clear hK K)); apply hK) | ((iterate 5 (clear hK K)); apply hK)); clear hK K)
            all_goals
              refine Rnd.le (St.le_pick _ ?_ ?_) (Rnd.sub (l.length - (j + 1)) (by omega) ((hI _ _).2 ⟨j + 1, _, [(tb, .svs [Str nm, SL ats, RL l])], rfl, by omega, (by rw [hsn]; exact hB), rfl⟩) (by repeat' (first | exact rfl | exact trivial | exact int_eq (by omega) | exact int_eq (by (rw [i64_wrap] <;> omega)) | constructor)))
              · repeat' (first | exact (fun x hx => (List.not_mem_nil hx).elim) | refine List.forall_mem_cons.2 ⟨?_, ?_⟩ | exact List.mem_cons_self | apply List.mem_cons_of_mem)
              · simp [fresh_cons, fresh_nil, hD]
          · refine Ab.SW.le (hle2 _) ?_
            have hgt2 : ¬ g2 = tb := fun e => hgf2.1.1 e.symm
            have hD := And.intro (eq_false hgt2) hD
            repeat' first | (with_reducible refine And.intro (by omega) ?_) | (refine SW.seq_k fun K hK => ?_) | (refine SW.block ?_) | ((first | refine SW.region ?_ | refine SW.regionD (Checked.mixed Tryd.checked) (by kernel_rfl) ?_ | refine SW.cond ?_ | refine SW.skip ?_ | refine SW.exit ?_ | refine SW.ret ?_ | refine Call.of_pure (fp) ?_ | refine ⟨_, fp, ?_⟩ | (refine allF_i fun b hb => ?_; replace hD := And.intro hb hD; clear hb; try simp only [fresh_cons, fresh_nil, and_true, ne_eq, neF] at hD) | simp only [appK, appOsK]); try simp only [go_sem, hD, hli, ie, i0, w1, tf, tv, a0, al, ae, ba, pa, pb, true_implies, hgt2]) | (refine And.intro (by omega) ?_) | (refine ifI (fun hc => ?_) (fun hc => ?_) <;> first | (exfalso; omega) | skip) | ((first | apply hK | ((iterate 1 (clear hK K)); apply hK) | ((iterate 2 (clear hK K)); apply hK) | ((iterate 3 (clear hK K)); apply hK) | ((iterate 4 (clear hK K)); apply hK) | ((iterate 5 (clear hK K)); apply hK)); clear hK K)
            all_goals
              refine Rnd.le (St.le_pick _ ?_ ?_) (Rnd.sub (l.length - (j + 1)) (by omega) ((hI _ _).2 ⟨j + 1, _, [(g2, .svs (fC nC1 O)), (tb, .svs [Str nm, SL ats, RL l])], rfl, by omega, (by rw [hsn]; exact Acc.osH hgf2 e2), rfl⟩) (by repeat' (first | exact rfl | exact trivial | exact int_eq (by omega) | exact int_eq (by (rw [i64_wrap] <;> omega)) | constructor)))
              · repeat' (first | exact (fun x hx => (List.not_mem_nil hx).elim) | refine List.forall_mem_cons.2 ⟨?_, ?_⟩ | exact List.mem_cons_self | apply List.mem_cons_of_mem)
              · simp [fresh_cons, fresh_nil, hD]
        | true =>
          rw [Bool.and_true] at hO
          by_cases hk : vk = 1
          · rw [hO, decide_eq_true hk, if_pos rfl] at hsn
            subst hk
            rcases hB.casesH with ⟨e0, e1, rfl, rfl⟩ | ⟨g2, hgf2, e2, rfl, hle2⟩
            · have hOn : O = [] := List.eq_nil_of_length_eq_zero e0
              subst hOn
              repeat' first | (with_reducible refine And.intro (by omega) ?_) | (refine SW.seq_k fun K hK => ?_) | (refine SW.block ?_) | ((first | refine SW.region ?_ | refine SW.regionD (Checked.mixed Tryd.checked) (by kernel_rfl) ?_ | refine SW.cond ?_ | refine SW.skip ?_ | refine SW.exit ?_ | refine SW.ret ?_ | refine Call.of_pure (fp) ?_ | refine ⟨_, fp, ?_⟩ | (refine allF_i fun b hb => ?_; replace hD := And.intro hb hD; clear hb; try simp only [fresh_cons, fresh_nil, and_true, ne_eq, neF] at hD) | simp only [appK, appOsK]); try simp only [go_sem, hD, hli, ie, i0, w1, tf, tv, a0, al, ae, ba, pa, pb, true_implies]) | (refine And.intro (by omega) ?_) | (refine ifI (fun hc => ?_) (fun hc => ?_) <;> first | (exfalso; omega) | skip) | ((first | apply hK | ((iterate 1 (clear hK K)); apply hK) | ((iterate 2 (clear hK K)); apply hK) | ((iterate 3 (clear hK K)); apply hK) | ((iterate 4 (clear hK K)); apply hK) | ((iterate 5 (clear hK K)); apply hK)); clear hK K)
              refine Rnd.le (St.le_pick _ ?_ ?_) (Rnd.sub (l.length - (j + 1)) (by omega) ((hI _ _).2 ⟨j + 1, _, [(b, .ints .i64 [id]), (tb, .svs [Str nm, SL ats, RL l])], rfl, by omega, (by rw [hsn]; exact .inr ⟨b, .ints .i64 [id], by simp [fresh_cons, fresh_nil, hD], rfl, rfl, rfl, rfl⟩), rfl⟩) (by repeat' (first | exact rfl | exact trivial | exact int_eq (by omega) | exact int_eq (by (rw [i64_wrap] <;> omega)) | constructor)))
              · repeat' (first | exact (fun x hx => (List.not_mem_nil hx).elim) | refine List.forall_mem_cons.2 ⟨?_, ?_⟩ | exact List.mem_cons_self | apply List.mem_cons_of_mem)
              · simp [fresh_cons, fresh_nil, hD]
            · refine Ab.SW.le (hle2 _) ?_
              have hgt2 : ¬ g2 = tb := fun e => hgf2.1.1 e.symm
              repeat' first | (with_reducible refine And.intro (by omega) ?_) | (refine SW.seq_k fun K hK => ?_) | (refine SW.block ?_) | ((first | refine SW.region ?_ | refine SW.regionD (Checked.mixed Tryd.checked) (by kernel_rfl) ?_ | refine SW.cond ?_ | refine SW.skip ?_ | refine SW.exit ?_ | refine SW.ret ?_ | refine Call.of_pure (fp) ?_ | refine ⟨_, fp, ?_⟩ | (refine allF_i fun b hb => ?_; replace hD := And.intro hb hD; clear hb; try simp only [fresh_cons, fresh_nil, and_true, ne_eq, neF] at hD) | simp only [appK, appOsK]); try simp only [go_sem, hD, hli, ie, i0, w1, tf, tv, a0, al, ae, ba, pa, pb, true_implies, hgt2, e2]) | (refine And.intro (by omega) ?_) | (refine ifI (fun hc => ?_) (fun hc => ?_) <;> first | (exfalso; omega) | skip) | ((first | apply hK | ((iterate 1 (clear hK K)); apply hK) | ((iterate 2 (clear hK K)); apply hK) | ((iterate 3 (clear hK K)); apply hK) | ((iterate 4 (clear hK K)); apply hK) | ((iterate 5 (clear hK K)); apply hK)); clear hK K)
              refine Rnd.le (St.le_pick _ ?_ ?_) (Rnd.sub (l.length - (j + 1)) (by omega) ((hI _ _).2 ⟨j + 1, _, [(b, .svs (fC nC1 O ++ nC1 id)), (tb, .svs [Str nm, SL ats, RL l])], rfl, by omega, (by rw [hsn, List.length_append, ← fC_snoc]; exact Acc.osH (by simp [fresh_cons, fresh_nil, hD]) (by rw [List.length_append, ← e2]; simp [nC1])), rfl⟩) (by repeat' (first | exact rfl | exact trivial | exact int_eq (by omega) | exact int_eq (by (rw [i64_wrap] <;> omega)) | constructor)))
              · repeat' (first | exact (fun x hx => (List.not_mem_nil hx).elim) | refine List.forall_mem_cons.2 ⟨?_, ?_⟩ | exact List.mem_cons_self | apply List.mem_cons_of_mem)
              · simp [fresh_cons, fresh_nil, hD]
          · rw [hO, decide_eq_false hk, if_neg (by simp)] at hsn
            have hk0 := eq_false hk
            rcases hB.casesH with ⟨e0, e1, rfl, rfl⟩ | ⟨g2, hgf2, e2, rfl, hle2⟩
            · repeat' first | (with_reducible refine And.intro (by omega) ?_) | (refine SW.seq_k fun K hK => ?_) | (refine SW.block ?_) | ((first | refine SW.region ?_ | refine SW.regionD (Checked.mixed Tryd.checked) (by kernel_rfl) ?_ | refine SW.cond ?_ | refine SW.skip ?_ | refine SW.exit ?_ | refine SW.ret ?_ | refine Call.of_pure (fp) ?_ | refine ⟨_, fp, ?_⟩ | (refine allF_i fun b hb => ?_; replace hD := And.intro hb hD; clear hb; try simp only [fresh_cons, fresh_nil, and_true, ne_eq, neF] at hD) | simp only [appK, appOsK]); try simp only [go_sem, hD, hli, ie, i0, w1, tf, tv, a0, al, ae, ba, pa, pb, true_implies, hk0]) | (refine And.intro (by omega) ?_) | (refine ifI (fun hc => ?_) (fun hc => ?_) <;> first | (exfalso; omega) | skip) | ((first | apply hK | ((iterate 1 (clear hK K)); apply hK) | ((iterate 2 (clear hK K)); apply hK) | ((iterate 3 (clear hK K)); apply hK) | ((iterate 4 (clear hK K)); apply hK) | ((iterate 5 (clear hK K)); apply hK)); clear hK K)
              refine Rnd.le (St.le_pick _ ?_ ?_) (Rnd.sub (l.length - (j + 1)) (by omega) ((hI _ _).2 ⟨j + 1, _, [(tb, .svs [Str nm, SL ats, RL l])], rfl, by omega, (by rw [hsn]; exact hB), rfl⟩) (by repeat' (first | exact rfl | exact trivial | exact int_eq (by omega) | exact int_eq (by (rw [i64_wrap] <;> omega)) | constructor)))
              · repeat' (first | exact (fun x hx => (List.not_mem_nil hx).elim) | refine List.forall_mem_cons.2 ⟨?_, ?_⟩ | exact List.mem_cons_self | apply List.mem_cons_of_mem)
              · simp [fresh_cons, fresh_nil, hD]
            · refine Ab.SW.le (hle2 _) ?_
              have hgt2 : ¬ g2 = tb := fun e => hgf2.1.1 e.symm
              have hD := And.intro (eq_false hgt2) hD
              repeat' first | (with_reducible refine And.intro (by omega) ?_) | (refine SW.seq_k fun K hK => ?_) | (refine SW.block ?_) | ((first | refine SW.region ?_ | refine SW.regionD (Checked.mixed Tryd.checked) (by kernel_rfl) ?_ | refine SW.cond ?_ | refine SW.skip ?_ | refine SW.exit ?_ | refine SW.ret ?_ | refine Call.of_pure (fp) ?_ | refine ⟨_, fp, ?_⟩ | (refine allF_i fun b hb => ?_; replace hD := And.intro hb hD; clear hb; try simp only [fresh_cons, fresh_nil, and_true, ne_eq, neF] at hD) | simp only [appK, appOsK]); try simp only [go_sem, hD, hli, ie, i0, w1, tf, tv, a0, al, ae, ba, pa, pb, true_implies, hgt2, hk0]) | (refine And.intro (by omega) ?_) | (refine ifI (fun hc => ?_) (fun hc => ?_) <;> first | (exfalso; omega) | skip) | ((first | apply hK | ((iterate 1 (clear hK K)); apply hK) | ((iterate 2 (clear hK K)); apply hK) | ((iterate 3 (clear hK K)); apply hK) | ((iterate 4 (clear hK K)); apply hK) | ((iterate 5 (clear hK K)); apply hK)); clear hK K)
              refine Rnd.le (St.le_pick _ ?_ ?_) (Rnd.sub (l.length - (j + 1)) (by omega) ((hI _ _).2 ⟨j + 1, _, [(g2, .svs (fC nC1 O)), (tb, .svs [Str nm, SL ats, RL l])], rfl, by omega, (by rw [hsn]; exact Acc.osH hgf2 e2), rfl⟩) (by repeat' (first | exact rfl | exact trivial | exact int_eq (by omega) | exact int_eq (by (rw [i64_wrap] <;> omega)) | constructor)))
              · repeat' (first | exact (fun x hx => (List.not_mem_nil hx).elim) | refine List.forall_mem_cons.2 ⟨?_, ?_⟩ | exact List.mem_cons_self | apply List.mem_cons_of_mem)
              · simp [fresh_cons, fresh_nil, hD]
      · skip
        have fp := beyond_r q3 vn q1 q3 (by omega) (by omega) (by omega) (by omega)
        have hO : outB q1 q3 (vk, vn, vt) = (decide (vk = 1) && farI (vn - q3) (q3 - q1)) := by
          unfold outB
          simp only
          rw [decide_eq_false pa, decide_eq_true pb, Bool.true_and, Bool.false_and, Bool.false_or]
        generalize farI (vn - q3) (q3 - q1) = f at *
        cases f with
        | false =>
          rw [Bool.and_false] at hO
          rw [hO, if_neg (by simp)] at hsn
          rcases hB.casesH with ⟨e0, e1, rfl, rfl⟩ | ⟨g2, hgf2, e2, rfl, hle2⟩
          · repeat' first | (with_reducible refine And.intro (by omega) ?_) | (refine SW.seq_k fun K hK => ?_) | (refine SW.block ?_) | ((first | refine SW.region ?_ | refine SW.regionD (Checked.mixed Tryd.checked) (by kernel_rfl) ?_ | refine SW.cond ?_ | refine SW.skip ?_ | refine SW.exit ?_ | refine SW.ret ?_ | refine Call.of_pure (fp) ?_ | refine ⟨_, fp, ?_⟩ | (refine allF_i fun b hb => ?_; replace hD := And.intro hb hD; clear hb; try simp only [fresh_cons, fresh_nil, and_true, ne_eq, neF] at hD) | simp only [appK, appOsK]); try simp only [go_sem, hD, hli, ie, i0, w1, tf, tv, a0, al, ae, ba, pa, pb, true_implies]) | (refine And.intro (by omega) ?_) | (refine ifI (fun hc => ?_) (fun hc => ?_) <;> first | (exfalso; omega) | skip) | ((first | apply hK | ((iterate 1 (clear hK K)); apply hK) | ((iterate 2 (clear hK K)); apply hK) | ((iterate 3 (clear hK K)); apply hK) | ((iterate 4 (clear hK K)); apply hK) | ((iterate 5 (clear hK K)); apply hK)); clear hK K)
            all_goals
              refine Rnd.le (St.le_pick _ ?_ ?_) (Rnd.sub (l.length - (j + 1)) (by omega) ((hI _ _).2 ⟨j + 1, _, [(tb, .svs [Str nm, SL ats, RL l])], rfl, by omega, (by rw [hsn]; exact hB), rfl⟩) (by repeat' (first | exact rfl | exact trivial | exact int_eq (by omega) | exact int_eq (by (rw [i64_wrap] <;> omega)) | constructor)))
              · repeat' (first | exact (fun x hx => (List.not_mem_nil hx).elim) | refine List.forall_mem_cons.2 ⟨?_, ?_⟩ | exact List.mem_cons_self | apply List.mem_cons_of_mem)
              · simp [fresh_cons, fresh_nil, hD]
          · refine Ab.SW.le (hle2 _) ?_
            have hgt2 : ¬ g2 = tb := fun e => hgf2.1.1 e.symm
            have hD := And.intro (eq_false hgt2) hD
            repeat' first | (with_reducible refine And.intro (by omega) ?_) | (refine SW.seq_k fun K hK => ?_) | (refine SW.block ?_) | ((first | refine SW.region ?_ | refine SW.regionD (Checked.mixed Tryd.checked) (by kernel_rfl) ?_ | refine SW.cond ?_ | refine SW.skip ?_ | refine SW.exit ?_ | refine SW.ret ?_ | refine Call.of_pure (fp) ?_ | refine ⟨_, fp, ?_⟩ | (refine allF_i fun b hb => ?_; replace hD := And.intro hb hD; clear hb; try simp only [fresh_cons, fresh_nil, and_true, ne_eq, neF] at hD) | simp only [appK, appOsK]); try simp only [go_sem, hD, hli, ie, i0, w1, tf, tv, a0, al, ae, ba, pa, pb, true_implies, hgt2]) | (refine And.intro (by omega) ?_) | (refine ifI (fun hc => ?_) (fun hc => ?_) <;> first | (exfalso; omega) | skip) | ((first | apply hK | ((iterate 1 (clear hK K)); apply hK) | ((iterate 2 (clear hK K)); apply hK) | ((iterate 3 (clear hK K)); apply hK) | ((iterate 4 (clear hK K)); apply hK) | ((iterate 5 (clear hK K)); apply hK)); clear hK K)
            all_goals
              refine Rnd.le (St.le_pick _ ?_ ?_) (Rnd.sub (l.length - (j + 1)) (by omega) ((hI _ _).2 ⟨j + 1, _, [(g2, .svs (fC nC1 O)), (tb, .svs [Str nm, SL ats, RL l])], rfl, by omega, (by rw [hsn]; exact Acc.osH hgf2 e2), rfl⟩) (by repeat' (first | exact rfl | exact trivial | exact int_eq (by omega) | exact int_eq (by (rw [i64_wrap] <;> omega)) | constructor)))
              · repeat' (first | exact (fun x hx => (List.not_mem_nil hx).elim) | refine List.forall_mem_cons.2 ⟨?_, ?_⟩ | exact List.mem_cons_self | apply List.mem_cons_of_mem)
              · simp [fresh_cons, fresh_nil, hD]
        | true =>
          rw [Bool.and_true] at hO
          by_cases hk : vk = 1
          · rw [hO, decide_eq_true hk, if_pos rfl] at hsn
            subst hk
            rcases hB.casesH with ⟨e0, e1, rfl, rfl⟩ | ⟨g2, hgf2, e2, rfl, hle2⟩
            · have hOn : O = [] := List.eq_nil_of_length_eq_zero e0
              subst hOn
              repeat' first | (with_reducible refine And.intro (by omega) ?_) | (refine SW.seq_k fun K hK => ?_) | (refine SW.block ?_) | ((first | refine SW.region ?_ | refine SW.regionD (Checked.mixed Tryd.checked) (by kernel_rfl) ?_ | refine SW.cond ?_ | refine SW.skip ?_ | refine SW.exit ?_ | refine SW.ret ?_ | refine Call.of_pure (fp) ?_ | refine ⟨_, fp, ?_⟩ | (refine allF_i fun b hb => ?_; replace hD := And.intro hb hD; clear hb; try simp only [fresh_cons, fresh_nil, and_true, ne_eq, neF] at hD) | simp only [appK, appOsK]); try simp only [go_sem, hD, hli, ie, i0, w1, tf, tv, a0, al, ae, ba, pa, pb, true_implies]) | (refine And.intro (by omega) ?_) | (refine ifI (fun hc => ?_) (fun hc => ?_) <;> first | (exfalso; omega) | skip) | ((first | apply hK | ((iterate 1 (clear hK K)); apply hK) | ((iterate 2 (clear hK K)); apply hK) | ((iterate 3 (clear hK K)); apply hK) | ((iterate 4 (clear hK K)); apply hK) | ((iterate 5 (clear hK K)); apply hK)); clear hK K)
              refine Rnd.le (St.le_pick _ ?_ ?_) (Rnd.sub (l.length - (j + 1)) (by omega) ((hI _ _).2 ⟨j + 1, _, [(b, .ints .i64 [id]), (tb, .svs [Str nm, SL ats, RL l])], rfl, by omega, (by rw [hsn]; exact .inr ⟨b, .ints .i64 [id], by simp [fresh_cons, fresh_nil, hD], rfl, rfl, rfl, rfl⟩), rfl⟩) (by repeat' (first | exact rfl | exact trivial | exact int_eq (by omega) | exact int_eq (by (rw [i64_wrap] <;> omega)) | constructor)))
              · repeat' (first | exact (fun x hx => (List.not_mem_nil hx).elim) | refine List.forall_mem_cons.2 ⟨?_, ?_⟩ | exact List.mem_cons_self | apply List.mem_cons_of_mem)
              · simp [fresh_cons, fresh_nil, hD]
            · refine Ab.SW.le (hle2 _) ?_
              have hgt2 : ¬ g2 = tb := fun e => hgf2.1.1 e.symm
              repeat' first | (with_reducible refine And.intro (by omega) ?_) | (refine SW.seq_k fun K hK => ?_) | (refine SW.block ?_) | ((first | refine SW.region ?_ | refine SW.regionD (Checked.mixed Tryd.checked) (by kernel_rfl) ?_ | refine SW.cond ?_ | refine SW.skip ?_ | refine SW.exit ?_ | refine SW.ret ?_ | refine Call.of_pure (fp) ?_ | refine ⟨_, fp, ?_⟩ | (refine allF_i fun b hb => ?_; replace hD := And.intro hb hD; clear hb; try simp only [fresh_cons, fresh_nil, and_true, ne_eq, neF] at hD) | simp only [appK, appOsK]); try simp only [go_sem, hD, hli, ie, i0, w1, tf, tv, a0, al, ae, ba, pa, pb, true_implies, hgt2, e2]) | (refine And.intro (by omega) ?_) | (refine ifI (fun hc => ?_) (fun hc => ?_) <;> first | (exfalso; omega) | skip) | ((first | apply hK | ((iterate 1 (clear hK K)); apply hK) | ((iterate 2 (clear hK K)); apply hK) | ((iterate 3 (clear hK K)); apply hK) | ((iterate 4 (clear hK K)); apply hK) | ((iterate 5 (clear hK K)); apply hK)); clear hK K)
              refine Rnd.le (St.le_pick _ ?_ ?_) (Rnd.sub (l.length - (j + 1)) (by omega) ((hI _ _).2 ⟨j + 1, _, [(b, .svs (fC nC1 O ++ nC1 id)), (tb, .svs [Str nm, SL ats, RL l])], rfl, by omega, (by rw [hsn, List.length_append, ← fC_snoc]; exact Acc.osH (by simp [fresh_cons, fresh_nil, hD]) (by rw [List.length_append, ← e2]; simp [nC1])), rfl⟩) (by repeat' (first | exact rfl | exact trivial | exact int_eq (by omega) | exact int_eq (by (rw [i64_wrap] <;> omega)) | constructor)))
              · repeat' (first | exact (fun x hx => (List.not_mem_nil hx).elim) | refine List.forall_mem_cons.2 ⟨?_, ?_⟩ | exact List.mem_cons_self | apply List.mem_cons_of_mem)
              · simp [fresh_cons, fresh_nil, hD]
          · rw [hO, decide_eq_false hk, if_neg (by simp)] at hsn
            have hk0 := eq_false hk
            rcases hB.casesH with ⟨e0, e1, rfl, rfl⟩ | ⟨g2, hgf2, e2, rfl, hle2⟩
            · repeat' first | (with_reducible refine And.intro (by omega) ?_) | (refine SW.seq_k fun K hK => ?_) | (refine SW.block ?_) | ((first | refine SW.region ?_ | refine SW.regionD (Checked.mixed Tryd.checked) (by kernel_rfl) ?_ | refine SW.cond ?_ | refine SW.skip ?_ | refine SW.exit ?_ | refine SW.ret ?_ | refine Call.of_pure (fp) ?_ | refine ⟨_, fp, ?_⟩ | (refine allF_i fun b hb => ?_; replace hD := And.intro hb hD; clear hb; try simp only [fresh_cons, fresh_nil, and_true, ne_eq, neF] at hD) | simp only [appK, appOsK]); try simp only [go_sem, hD, hli, ie, i0, w1, tf, tv, a0, al, ae, ba, pa, pb, true_implies, hk0]) | (refine And.intro (by omega) ?_) | (refine ifI (fun hc => ?_) (fun hc => ?_) <;> first | (exfalso; omega) | skip) | ((first | apply hK | ((iterate 1 (clear hK K)); apply hK) | ((iterate 2 (clear hK K)); apply hK) | ((iterate 3 (clear hK K)); apply hK) | ((iterate 4 (clear hK K)); apply hK) | ((iterate 5 (clear hK K)); apply hK)); clear hK K)
              refine Rnd.le (St.le_pick _ ?_ ?_) (Rnd.sub (l.length - (j + 1)) (by omega) ((hI _ _).2 ⟨j + 1, _, [(tb, .svs [Str nm, SL ats, RL l])], rfl, by omega, (by rw [hsn]; exact hB), rfl⟩) (by repeat' (first | exact rfl | exact trivial | exact int_eq (by omega) | exact int_eq (by (rw [i64_wrap] <;> omega)) | constructor)))
              · repeat' (first | exact (fun x hx => (List.not_mem_nil hx).elim) | refine List.forall_mem_cons.2 ⟨?_, ?_⟩ | exact List.mem_cons_self | apply List.mem_cons_of_mem)
              · simp [fresh_cons, fresh_nil, hD]
            · refine Ab.SW.le (hle2 _) ?_
              have hgt2 : ¬ g2 = tb := fun e => hgf2.1.1 e.symm
              have hD := And.intro (eq_false hgt2) hD
              repeat' first | (with_reducible refine And.intro (by omega) ?_) | (refine SW.seq_k fun K hK => ?_) | (refine SW.block ?_) | ((first | refine SW.region ?_ | refine SW.regionD (Checked.mixed Tryd.checked) (by kernel_rfl) ?_ | refine SW.cond ?_ | refine SW.skip ?_ | refine SW.exit ?_ | refine SW.ret ?_ | refine Call.of_pure (fp) ?_ | refine ⟨_, fp, ?_⟩ | (refine allF_i fun b hb => ?_; replace hD := And.intro hb hD; clear hb; try simp only [fresh_cons, fresh_nil, and_true, ne_eq, neF] at hD) | simp only [appK, appOsK]); try simp only [go_sem, hD, hli, ie, i0, w1, tf, tv, a0, al, ae, ba, pa, pb, true_implies, hgt2, hk0]) | (refine And.intro (by omega) ?_) | (refine ifI (fun hc => ?_) (fun hc => ?_) <;> first | (exfalso; omega) | skip) | ((first | apply hK | ((iterate 1 (clear hK K)); apply hK) | ((iterate 2 (clear hK K)); apply hK) | ((iterate 3 (clear hK K)); apply hK) | ((iterate 4 (clear hK K)); apply hK) | ((iterate 5 (clear hK K)); apply hK)); clear hK K)
              refine Rnd.le (St.le_pick _ ?_ ?_) (Rnd.sub (l.length - (j + 1)) (by omega) ((hI _ _).2 ⟨j + 1, _, [(g2, .svs (fC nC1 O)), (tb, .svs [Str nm, SL ats, RL l])], rfl, by omega, (by rw [hsn]; exact Acc.osH hgf2 e2), rfl⟩) (by repeat' (first | exact rfl | exact trivial | exact int_eq (by omega) | exact int_eq (by (rw [i64_wrap] <;> omega)) | constructor)))
              · repeat' (first | exact (fun x hx => (List.not_mem_nil hx).elim) | refine List.forall_mem_cons.2 ⟨?_, ?_⟩ | exact List.mem_cons_self | apply List.mem_cons_of_mem)
              · simp [fresh_cons, fresh_nil, hD]
      · skip
        have fp := va
        obtain ⟨f, hf⟩ : ∃ f, f = false := ⟨_, rfl⟩
        have hO : outB q1 q3 (vk, vn, vt) = (decide (vk = 1) && f) := by
          unfold outB
          simp only
          rw [decide_eq_false pa, decide_eq_false pb, Bool.false_and, Bool.false_and, Bool.or_false, hf]
        cases f with
        | true => cases hf
        | false =>
          rw [Bool.and_false] at hO
          rw [hO, if_neg (by simp)] at hsn
          rcases hB.casesH with ⟨e0, e1, rfl, rfl⟩ | ⟨g2, hgf2, e2, rfl, hle2⟩
          · repeat' first | (with_reducible refine And.intro (by omega) ?_) | (refine SW.seq_k fun K hK => ?_) | (refine SW.block ?_) | ((first | refine SW.region ?_ | refine SW.regionD (Checked.mixed Tryd.checked) (by kernel_rfl) ?_ | refine SW.cond ?_ | refine SW.skip ?_ | refine SW.exit ?_ | refine SW.ret ?_ | refine Call.of_pure (fp) ?_ | refine ⟨_, fp, ?_⟩ | (refine allF_i fun b hb => ?_; replace hD := And.intro hb hD; clear hb; try simp only [fresh_cons, fresh_nil, and_true, ne_eq, neF] at hD) | simp only [appK, appOsK]); try simp only [go_sem, hD, hli, ie, i0, w1, tf, tv, a0, al, ae, ba, pa, pb, true_implies]) | (refine And.intro (by omega) ?_) | (refine ifI (fun hc => ?_) (fun hc => ?_) <;> first | (exfalso; omega) | skip) | ((first | apply hK | ((iterate 1 (clear hK K)); apply hK) | ((iterate 2 (clear hK K)); apply hK) | ((iterate 3 (clear hK K)); apply hK) | ((iterate 4 (clear hK K)); apply hK) | ((iterate 5 (clear hK K)); apply hK)); clear hK K)
            all_goals
              refine Rnd.le (St.le_pick _ ?_ ?_) (Rnd.sub (l.length - (j + 1)) (by omega) ((hI _ _).2 ⟨j + 1, _, [(tb, .svs [Str nm, SL ats, RL l])], rfl, by omega, (by rw [hsn]; exact hB), rfl⟩) (by repeat' (first | exact rfl | exact trivial | exact int_eq (by omega) | exact int_eq (by (rw [i64_wrap] <;> omega)) | constructor)))
              · repeat' (first | exact (fun x hx => (List.not_mem_nil hx).elim) | refine List.forall_mem_cons.2 ⟨?_, ?_⟩ | exact List.mem_cons_self | apply List.mem_cons_of_mem)
              · simp [fresh_cons, fresh_nil, hD]
          · refine Ab.SW.le (hle2 _) ?_
            have hgt2 : ¬ g2 = tb := fun e => hgf2.1.1 e.symm
            have hD := And.intro (eq_false hgt2) hD
            repeat' first | (with_reducible refine And.intro (by omega) ?_) | (refine SW.seq_k fun K hK => ?_) | (refine SW.block ?_) | ((first | refine SW.region ?_ | refine SW.regionD (Checked.mixed Tryd.checked) (by kernel_rfl) ?_ | refine SW.cond ?_ | refine SW.skip ?_ | refine SW.exit ?_ | refine SW.ret ?_ | refine Call.of_pure (fp) ?_ | refine ⟨_, fp, ?_⟩ | (refine allF_i fun b hb => ?_; replace hD := And.intro hb hD; clear hb; try simp only [fresh_cons, fresh_nil, and_true, ne_eq, neF] at hD) | simp only [appK, appOsK]); try simp only [go_sem, hD, hli, ie, i0, w1, tf, tv, a0, al, ae, ba, pa, pb, true_implies, hgt2]) | (refine And.intro (by omega) ?_) | (refine ifI (fun hc => ?_) (fun hc => ?_) <;> first | (exfalso; omega) | skip) | ((first | apply hK | ((iterate 1 (clear hK K)); apply hK) | ((iterate 2 (clear hK K)); apply hK) | ((iterate 3 (clear hK K)); apply hK) | ((iterate 4 (clear hK K)); apply hK) | ((iterate 5 (clear hK K)); apply hK)); clear hK K)
            all_goals
              refine Rnd.le (St.le_pick _ ?_ ?_) (Rnd.sub (l.length - (j + 1)) (by omega) ((hI _ _).2 ⟨j + 1, _, [(g2, .svs (fC nC1 O)), (tb, .svs [Str nm, SL ats, RL l])], rfl, by omega, (by rw [hsn]; exact Acc.osH hgf2 e2), rfl⟩) (by repeat' (first | exact rfl | exact trivial | exact int_eq (by omega) | exact int_eq (by (rw [i64_wrap] <;> omega)) | constructor)))
              · repeat' (first | exact (fun x hx => (List.not_mem_nil hx).elim) | refine List.forall_mem_cons.2 ⟨?_, ?_⟩ | exact List.mem_cons_self | apply List.mem_cons_of_mem)
              · simp [fresh_cons, fresh_nil, hD]
    · have hli : ¬ ((j : Nat) : Int) < (((l.length) : Nat) : Int) := by omega
      obtain rfl : j = l.length := by omega
      rw [List.take_length, ← hX] at hB
      rcases hB.casesH with ⟨e0, e1, rfl, rfl⟩ | ⟨g2, hgf2, e2, rfl, hle2⟩
      · repeat' first | (with_reducible refine And.intro (by omega) ?_) | (refine SW.seq_k fun K hK => ?_) | (refine SW.block ?_) | ((first | refine SW.region ?_ | refine SW.regionD (Checked.mixed Tryd.checked) (by kernel_rfl) ?_ | refine SW.cond ?_ | refine SW.skip ?_ | refine SW.exit ?_ | refine SW.ret ?_ | (refine allF_i fun b hb => ?_; replace hD := And.intro hb hD; clear hb; try simp only [fresh_cons, fresh_nil, and_true, ne_eq, neF] at hD) | simp only [appK, appOsK]); try simp only [go_sem, hD, hli, true_implies]) | (refine And.intro (by omega) ?_) | (refine ifI (fun hc => ?_) (fun hc => ?_) <;> first | (exfalso; omega) | skip) | ((first | apply hK | ((iterate 1 (clear hK K)); apply hK) | ((iterate 2 (clear hK K)); apply hK) | ((iterate 3 (clear hK K)); apply hK) | ((iterate 4 (clear hK K)); apply hK) | ((iterate 5 (clear hK K)); apply hK)); clear hK K)
        refine retQ_le ((St.le_acc_fl (i := 4) (n := X.length) (sz := 1) (x := .sc (.slice none 0 0)) ?_ hB (fun j => [I64 (X.getD j 0)]) (fun j hj => fC_at nC1_len 0 _ j hj)).trans St.le_drop) ?_
        · exact rfl
        · simp only [resL_tmp, resL_nil, tupOf, go_sem, hD]
          rfl
      · refine Ab.SW.le (hle2 _) ?_
        have hgt2 : ¬ g2 = tb := fun e => hgf2.1.1 e.symm
        repeat' first | (with_reducible refine And.intro (by omega) ?_) | (refine SW.seq_k fun K hK => ?_) | (refine SW.block ?_) | ((first | refine SW.region ?_ | refine SW.regionD (Checked.mixed Tryd.checked) (by kernel_rfl) ?_ | refine SW.cond ?_ | refine SW.skip ?_ | refine SW.exit ?_ | refine SW.ret ?_ | (refine allF_i fun b hb => ?_; replace hD := And.intro hb hD; clear hb; try simp only [fresh_cons, fresh_nil, and_true, ne_eq, neF] at hD) | simp only [appK, appOsK]); try simp only [go_sem, hD, hli, true_implies, hgt2]) | (refine And.intro (by omega) ?_) | (refine ifI (fun hc => ?_) (fun hc => ?_) <;> first | (exfalso; omega) | skip) | ((first | apply hK | ((iterate 1 (clear hK K)); apply hK) | ((iterate 2 (clear hK K)); apply hK) | ((iterate 3 (clear hK K)); apply hK) | ((iterate 4 (clear hK K)); apply hK) | ((iterate 5 (clear hK K)); apply hK)); clear hK K)
        refine retQ_le ((St.le_acc_fl (i := 4) (n := X.length) (sz := 1) (x := .os g2 0 X.length 1) ?_ (Acc.osH hgf2 e2) (fun j => [I64 (X.getD j 0)]) (fun j hj => fC_at nC1_len 0 _ j hj)).trans St.le_drop) ?_
        · exact rfl
        · simp only [resL_tmp, resL_nil, tupOf, go_sem, hD]
          rfl
end Go.Proofs.YtddkacbcecedaaaDoor
