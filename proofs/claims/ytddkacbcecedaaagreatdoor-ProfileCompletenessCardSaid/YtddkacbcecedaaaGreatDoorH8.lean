/- Contracts: Of of the reference. -/
import Derived.Test.YtddkacbcecedaaaGreatDoorH7
set_option linter.unusedSimpArgs false
set_option linter.unusedVariables false
set_option linter.unusedSectionVars false
namespace Go.Proofs.YtddkacbcecedaaaGreatDoor
open Go Go.Ab Go.Ab.A34
variable [Gl] [Tabs]

theorem sb_eq {a b : Bool} (h : a = b) : SV.sc (.bool a) = .sc (.bool b) := by rw [h]
theorem of_r_bad (t : Tb) (a : Int) (hv : ∀ r ∈ t.rows, r.2.length ≤ 9223372036854775807) (h : ¬ chkS t a = 0) : PCall Tryz.prog 23 [TB t, I64 a] (.tup [CO co0, I64 (chkS t a)]) := by
  have va := hist_r_bad t a hv h
  generalize chkS t a = e at *
  refine Call.enter' (N := 102) (rs := [.cell 4 62, .tmp 5]) Tryz.func23 rfl rfl rfl (by decide) rfl ?_; simp only [argT]; have hD : (0 : Nat) = 0 := rfl
  repeat' first | (with_reducible refine And.intro (by omega) ?_) | (refine SW.seq_k fun K hK => ?_) | (refine SW.block ?_) | ((first | refine SW.region ?_ | refine SW.regionD (Checked.mixed Tryz.checked) (by kernel_rfl) ?_ | refine SW.cond ?_ | refine SW.skip ?_ | refine SW.exit ?_ | refine SW.ret ?_ | refine Call.of_pure (va) ?_ | refine ⟨_, va, ?_⟩ | (refine allF_i fun b hb => ?_; replace hD := And.intro hb hD; clear hb; try simp only [fresh_cons, fresh_nil, and_true, ne_eq, neF] at hD) | simp only [appK, appOsK]); try simp only [go_sem, hD, h]) | (refine And.intro (by omega) ?_) | (refine ifI (fun hc => ?_) (fun hc => ?_) <;> first | (exfalso; omega) | skip) | ((first | apply hK | ((iterate 1 (clear hK K)); apply hK) | ((iterate 2 (clear hK K)); apply hK) | ((iterate 3 (clear hK K)); apply hK) | ((iterate 4 (clear hK K)); apply hK) | ((iterate 5 (clear hK K)); apply hK)); clear hK K)
  apply ret_cell (i := 4) (n := 15); exact rfl; (simp only [go_sem, hD]; try rfl); (first | exact Nat.le_refl _ | decide); simp only [resL_tmp, resL_cellE, resC_ok, resL_nil, tupOf, getN, go_sem, hD]
  rfl

set_option maxHeartbeats 4000000 in
set_option maxRecDepth 20000 in
theorem of_r (t : Tb) (a : Nat) (h : chkS t a = 0) : PCall Tryz.prog 23 [TB t, I64 a] (.tup [CO (profS t a), I64 0]) := by
  obtain ⟨h1, h2, h3⟩ := chk_ok h
  obtain ⟨r1, r2, r3⟩ := valid_rows h1
  have hh := hist_r t a h (fun r hr => by have := (r3 r hr).1; omega) (by omega) (fun r hr => ⟨by have := r3 r hr; omega, fun v hv => by have := okV_size ((r3 r hr).2 v hv); omega⟩)
  have hcl : (colS t a).length ≤ 1000000 := by unfold colS; rw [sortV_len, List.length_map]; omega
  obtain ⟨hb1, hb2⟩ := hist_bound (colS t a)
  obtain ⟨X, hX⟩ : ∃ X, X = profS t a := ⟨_, rfl⟩
  rw [← hX]
  unfold profS at hX
  generalize histS (colS t a) = H at *
  generalize colS t a = C at *
  have hvl : (vals H).length = H.length := by simp [vals]
  have hnl : (nums H).length = H.length := by simp [nums]
  rw [← hvl] at hX
  obtain ⟨nm, ats, l⟩ := t
  simp only at hX
  refine Call.enter' (N := 102) (rs := [.cell 4 62, .tmp 5]) Tryz.func23 rfl rfl rfl (by decide) rfl ?_; simp only [argT]; have hD : (0 : Nat) = 0 := rfl
  repeat' first | (with_reducible refine And.intro (by omega) ?_) | (refine SW.seq_k fun K hK => ?_) | (refine SW.block ?_) | ((first | refine SW.region ?_ | refine SW.regionD (Checked.mixed Tryz.checked) (by kernel_rfl) ?_ | refine SW.cond ?_ | refine SW.skip ?_ | refine SW.exit ?_ | refine SW.ret ?_ | refine Call.of_pure (hh) ?_ | refine ⟨_, hh, ?_⟩ | (refine allF_i fun b hb => ?_; replace hD := And.intro hb hD; clear hb; try simp only [fresh_cons, fresh_nil, and_true, ne_eq, neF] at hD) | simp only [appK, appOsK]); try simp only [go_sem, hD]) | (refine And.intro (by omega) ?_) | (refine ifI (fun hc => ?_) (fun hc => ?_) <;> first | (exfalso; omega) | skip) | ((first | apply hK | ((iterate 1 (clear hK K)); apply hK) | ((iterate 2 (clear hK K)); apply hK) | ((iterate 3 (clear hK K)); apply hK) | ((iterate 4 (clear hK K)); apply hK) | ((iterate 5 (clear hK K)); apply hK)); clear hK K)
  obtain ⟨cb, rfl⟩ : ∃ x, x = b := ⟨_, rfl⟩
  obtain ⟨rb, rfl⟩ : ∃ x, x = b := ⟨_, rfl⟩
  have h1 : ¬ cb = rb := by simp [hD]
  have h2 : ¬ rb = cb := by simp [hD]
  refine Ab.SW.le (St.le_pick [(cb, .svs (coC ⟨l.length, 0, (vals H).length, v0, v0, v0, 0, 0, 0⟩)), (rb, .svs (coC co0))] ?_ ?_) ?_
  · repeat' (first | exact (fun x hx => (List.not_mem_nil hx).elim) | refine List.forall_mem_cons.2 ⟨?_, ?_⟩ | exact List.mem_cons_self | apply List.mem_cons_of_mem)
  · simp [fresh_cons, fresh_nil, hD]
  clear hD
  have hD : (cb = rb) = False ∧ (rb = cb) = False := ⟨eq_false h1, eq_false h2⟩
  obtain ⟨I, hI⟩ : ∃ I : Nat → St → Prop, ∀ k S, I k S ↔ (∃ (i : Nat) (c : Co), k = (vals H).length - i ∧ i ≤ (vals H).length ∧ X = (H.drop i).foldl stepC c ∧ 0 ≤ c.numbers ∧ c.numbers ≤ i * 1000000 ∧ 0 ≤ c.texts ∧ c.texts ≤ i * 1000000 ∧ S = ⟨[(4, .op rb 0), (6, VL (vals H)), (7, NL (nums H)), (9, .op cb 0), (10, SB (decide (c.least.1 = 0))), (11, I64 i)], [(cb, .svs (coC c)), (rb, .svs (coC co0))]⟩) := ⟨fun k S => _, fun _ _ => Iff.rfl⟩
  refine SW.loop' I ((vals H).length) ((hI _ _).2 ⟨0, _, rfl, Nat.zero_le _, hX, Int.le_refl _, by simp, Int.le_refl _, by simp, rfl⟩) (by repeat' (first | exact rfl | exact trivial | exact int_eq (by omega) | exact int_eq (by (rw [i64_wrap] <;> omega)) | constructor)) ?_
  intro k S hIn
  obtain ⟨i, c, rfl, hi, hC, n1, n2, n3, n4, rfl⟩ := (hI _ _).1 hIn
  clear hIn
  have ie : ((i : Nat) : Int).toNat = i := Int.toNat_natCast _
  have i0 : (0 : Int) ≤ ((i : Nat) : Int) := by omega
  clear hX
  obtain ⟨cr, cu, cd, ⟨lk, ln, lt⟩, ⟨gk, gn, gt⟩, ⟨mk, mn, mt⟩, ti, nb, tx⟩ := c
  simp only at n1 n2 n3 n4
  by_cases hlt : i < (vals H).length
  · have hli : ((i : Nat) : Int) < ((((vals H).length) : Nat) : Int) := by omega
    have w1 : IntKind.i64.wrap ((i : Int) + 1) = ((i + 1 : Nat) : Int) := by rw [i64_wrap (by omega) (by omega)]; omega
    have hlt2 : i < H.length := by omega
    have hn2 : ((i : Nat) : Int) < (((nums H).length : Nat) : Int) := by omega
    obtain ⟨⟨vk, vn, vt⟩, n, hv⟩ : ∃ v n, H.getD i (v0, 0) = (v, n) := ⟨_, _, rfl⟩
    have hg : H.getD i (v0, 0) = H[i] := by simp [List.getD_eq_getElem?_getD, hlt2]
    have hd : H.drop i = ((vk, vn, vt), n) :: H.drop (i + 1) := by rw [List.drop_eq_getElem_cons hlt2, ← hg, hv]
    have tv : vF (vals H) i = [I64 vk, I64 vn, Str vt] := by
      unfold vF vals
      rw [List.getD_eq_getElem?_getD, List.getElem?_map, List.getElem?_eq_getElem hlt2, ← hg, hv]
      rfl
    have tn : (nums H).getD i 0 = n := by
      unfold nums
      rw [List.getD_eq_getElem?_getD, List.getElem?_map, List.getElem?_eq_getElem hlt2, ← hg, hv]
      rfl
    have hbn := hb2 _ (getD_mem (v0, 0) hlt2)
    rw [hv] at hbn
    simp only at hbn
    have wn : IntKind.i64.wrap (nb + n) = nb + n := by rw [i64_wrap (by omega) (by omega)]
    have wt : IntKind.i64.wrap (tx + n) = tx + n := by rw [i64_wrap (by omega) (by omega)]
    rw [hd, List.foldl_cons] at hC
    have hk : ((vk = 0) = True ∧ (vk = 1) = False ∧ (vk = 2) = False) ∨ ((vk = 0) = False ∧ (vk = 1) = True ∧ (vk = 2) = False) ∨ ((vk = 0) = False ∧ (vk = 1) = False ∧ (vk = 2) = True) ∨ ((vk = 0) = False ∧ (vk = 1) = False ∧ (vk = 2) = False) := by
      simp only [eq_iff_iff, iff_true, iff_false]
      omega
    have ht := Classical.propComplete (ti < n)
    have hlk := Classical.propComplete (lk = 0)
    have hC0 := hC
    rcases hk with ⟨q0, q1, q2⟩ | ⟨q0, q1, q2⟩ | ⟨q0, q1, q2⟩ | ⟨q0, q1, q2⟩ <;> rcases ht with q3 | q3 <;> rcases hlk with q4 | q4
    all_goals
      simp only [stepC, q0, q1, q2, q3, q4, not_true, not_false_eq_true, and_true, true_and, and_self, false_and, and_false, if_true, if_false] at hC
      repeat' first | (with_reducible refine And.intro (by omega) ?_) | (refine SW.seq_k fun K hK => ?_) | (refine SW.block ?_) | ((first | refine SW.region ?_ | refine SW.regionZ (id := 13) (Checked.mixed Tryz.checked) ((.one 0 [0, 1, 6, 7, 8] (.one 1 [1, 6, 7, 8] (.one 2 [2, 4, 5, 6, 7, 8] (.one 3 [3, 4, 5, 6, 7, 8] (.one 4 [4, 5, 6, 7, 8] (.one 5 [5, 6, 7, 8] (.one 6 [6, 7, 8] (.one 7 [7, 8] (.alt 8 .done .nil))))))))) : OZ) (by kernel_rfl) ?_ | refine SW.regionZ (id := 15) (Checked.mixed Tryz.checked) ((.one 0 [0, 1, 6, 7, 8] (.one 1 [1, 6, 7, 8] (.one 2 [2, 4, 5, 6, 7, 8] (.one 3 [3, 4, 5, 6, 7, 8] (.one 4 [4, 5, 6, 7, 8] (.one 5 [5, 6, 7, 8] (.one 6 [6, 7, 8] (.one 7 [7, 8] (.alt 8 .done .nil))))))))) : OZ) (by kernel_rfl) ?_ | refine SW.regionZ (id := 20) (Checked.mixed Tryz.checked) ((.one 0 [0, 2, 3, 6] (.one 1 [1, 2, 3, 6] (.one 2 [2, 3, 6] (.one 3 [3, 6] (.one 4 [4, 5, 6] (.one 5 [5, 6] (.one 6 [6] .done))))))) : OZ) (by kernel_rfl) ?_ | refine SW.regionZ (id := 21) (Checked.mixed Tryz.checked) ((.one 0 [0, 2, 3, 8, 9, 10, 11] (.one 1 [1, 2, 3, 8, 9, 10, 11] (.one 2 [2, 3, 8, 9, 10, 11] (.one 3 [3, 8, 9, 10, 11] (.one 8 [8, 9, 10, 11] (.alt 4 (.alt 5 (.alt 6 (.alt 7 (.alt 9 (.one 10 [10, 11] (.alt 11 .done .nil)) .nil) (.alt 9 (.one 7 [7, 10, 11] (.one 10 [10, 11] (.alt 11 .done .nil))) .nil)) (.alt 9 (.one 6 [6, 7, 10, 11] (.one 7 [7, 10, 11] (.one 10 [10, 11] (.alt 11 .done .nil)))) .nil)) (.alt 9 (.one 5 [5, 6, 7, 10, 11] (.one 6 [6, 7, 10, 11] (.one 7 [7, 10, 11] (.one 10 [10, 11] (.alt 11 .done .nil))))) .nil)) (.alt 5 (.alt 4 (.alt 6 (.alt 7 (.alt 9 (.one 10 [10, 11] (.alt 11 .done .nil)) .nil) (.alt 9 (.one 7 [7, 10, 11] (.one 10 [10, 11] (.alt 11 .done .nil))) .nil)) (.alt 9 (.one 6 [6, 7, 10, 11] (.one 7 [7, 10, 11] (.one 10 [10, 11] (.alt 11 .done .nil)))) .nil)) (.alt 9 (.one 4 [4, 6, 7, 10, 11] (.one 6 [6, 7, 10, 11] (.one 7 [7, 10, 11] (.one 10 [10, 11] (.alt 11 .done .nil))))) .nil)) (.alt 9 (.one 4 [4, 6, 7, 10, 11] (.one 5 [5, 6, 7, 10, 11] (.one 6 [6, 7, 10, 11] (.one 7 [7, 10, 11] (.one 10 [10, 11] (.alt 11 .done .nil)))))) .nil)))))))) : OZ) (by kernel_rfl) ?_ | refine SW.regionD (Checked.mixed Tryz.checked) (by kernel_rfl) ?_ | refine SW.cond ?_ | refine SW.skip ?_ | refine SW.exit ?_ | refine SW.ret ?_ | (refine allF_i fun b hb => ?_; replace hD := And.intro hb hD; clear hb; try simp only [fresh_cons, fresh_nil, and_true, ne_eq, neF] at hD) | simp only [appK, appOsK]); try simp only [go_sem, hD, hli, ie, i0, w1, hn2, tv, tn, wn, wt, q0, q1, q2, q3, q4, true_implies]) | (refine And.intro (by omega) ?_) | (refine ifI (fun hc => ?_) (fun hc => ?_) <;> first | (exfalso; omega) | skip) | ((first | apply hK | ((iterate 1 (clear hK K)); apply hK) | ((iterate 2 (clear hK K)); apply hK) | ((iterate 3 (clear hK K)); apply hK) | ((iterate 4 (clear hK K)); apply hK) | ((iterate 5 (clear hK K)); apply hK)); clear hK K) | (refine And.intro ?_ ?_)
      all_goals
        refine Rnd.le (St.le_pick _ ?_ ?_) (Rnd.sub ((vals H).length - (i + 1)) (by omega) ((hI _ _).2 ⟨i + 1, _, rfl, by omega, hC, by simp only; omega, by simp only; omega, by simp only; omega, by simp only; omega, rfl⟩) (by repeat' (first | exact rfl | exact trivial | exact int_eq (by omega) | exact sb_eq (by simp only [q0, q4, decide_true, decide_false]) | constructor)))
        · repeat' (first | exact (fun x hx => (List.not_mem_nil hx).elim) | refine List.forall_mem_cons.2 ⟨?_, ?_⟩ | exact List.mem_cons_self | apply List.mem_cons_of_mem)
        · simp [fresh_cons, fresh_nil, hD]
  · have hli : ¬ ((i : Nat) : Int) < ((((vals H).length) : Nat) : Int) := by omega
    rw [List.drop_of_length_le (by omega)] at hC
    have hC2 : X = ⟨cr, cu, cd, (lk, ln, lt), (gk, gn, gt), (mk, mn, mt), ti, nb, tx⟩ := hC
    subst hC2
    repeat' first | (with_reducible refine And.intro (by omega) ?_) | (refine SW.seq_k fun K hK => ?_) | (refine SW.block ?_) | ((first | refine SW.region ?_ | refine SW.regionD (Checked.mixed Tryz.checked) (by kernel_rfl) ?_ | refine SW.cond ?_ | refine SW.skip ?_ | refine SW.exit ?_ | refine SW.ret ?_ | (refine allF_i fun b hb => ?_; replace hD := And.intro hb hD; clear hb; try simp only [fresh_cons, fresh_nil, and_true, ne_eq, neF] at hD) | simp only [appK, appOsK]); try simp only [go_sem, hD, hli]) | (refine And.intro (by omega) ?_) | (refine ifI (fun hc => ?_) (fun hc => ?_) <;> first | (exfalso; omega) | skip) | ((first | apply hK | ((iterate 1 (clear hK K)); apply hK) | ((iterate 2 (clear hK K)); apply hK) | ((iterate 3 (clear hK K)); apply hK) | ((iterate 4 (clear hK K)); apply hK) | ((iterate 5 (clear hK K)); apply hK)); clear hK K)
    apply ret_cell (i := 4) (n := 15); exact rfl; (simp only [go_sem, hD]; try rfl); (first | exact Nat.le_refl _ | decide); simp only [resL_tmp, resL_cellE, resC_ok, resL_nil, tupOf, getN, go_sem, hD]
end Go.Proofs.YtddkacbcecedaaaGreatDoor
