/- Several texts in one: H4, H5, H6, H7, I1. -/
import Derived.Test.YtddkacbcecedaaaDoorM2
/- Contracts: a column in order, of the reference. -/
set_option linter.unusedSimpArgs false
set_option linter.unusedVariables false
set_option linter.unusedSectionVars false
namespace Go.Proofs.YtddkacbcecedaaaDoor
open Go Go.Ab Go.Ab.A34
variable [Gl] [Tabs]

set_option maxHeartbeats 2000000 in
set_option maxRecDepth 20000 in
theorem column_r (t : Tb) (a : Nat) (hl : t.rows.length ≤ 1000000) (ha : ∀ r ∈ t.rows, a < r.2.length ∧ (∀ v ∈ r.2, v.2.2.size ≤ 9223372036854775807)) : PCall Tryd.prog 35 [TB t, I64 a] (VL (colS t a)) := by
  unfold colS
  obtain ⟨nm, ats, l⟩ := t
  simp only at hl ha ⊢
  refine Call.enter' (N := 64) (rs := [.tmp 4]) Tryd.func35 rfl rfl rfl (by decide) rfl ?_; simp only [argT]; have hD : (0 : Nat) = 0 := rfl
  repeat' first | (with_reducible refine And.intro (by omega) ?_) | (refine SW.seq_k fun K hK => ?_) | (refine SW.block ?_) | ((first | refine SW.region ?_ | refine SW.regionD (Checked.mixed Tryd.checked) (by kernel_rfl) ?_ | refine SW.cond ?_ | refine SW.skip ?_ | refine SW.exit ?_ | refine SW.ret ?_ | (refine allF_i fun b hb => ?_; replace hD := And.intro hb hD; clear hb; try simp only [fresh_cons, fresh_nil, and_true, ne_eq, neF] at hD) | simp only [appK, appOsK]); try simp only [go_sem, hD]) | (refine And.intro (by omega) ?_) | (refine ifI (fun hc => ?_) (fun hc => ?_) <;> first | (exfalso; omega) | skip) | ((first | apply hK | ((iterate 1 (clear hK K)); apply hK) | ((iterate 2 (clear hK K)); apply hK) | ((iterate 3 (clear hK K)); apply hK) | ((iterate 4 (clear hK K)); apply hK) | ((iterate 5 (clear hK K)); apply hK)); clear hK K)
  obtain ⟨tb, rfl⟩ : ∃ x, x = b := ⟨_, rfl⟩
  obtain ⟨I, hI⟩ : ∃ I : Nat → St → Prop, ∀ k S, I k S ↔ (∃ (i : Nat) (x : SV) (h : Heap), k = l.length - i ∧ i ≤ l.length ∧ Acc 3 x h [(tb, .svs [Str nm, SL ats, RL l])] i (vCs (sortV ((l.take i).map fun r => r.2.getD a v0))) ∧ S = ⟨[(1, I64 a), (2, .op tb 0), (5, x), (6, I64 i)], h⟩) := ⟨fun k S => _, fun _ _ => Iff.rfl⟩
  refine SW.loop' I (l.length) ((hI _ _).2 ⟨0, _, _, rfl, Nat.zero_le _, by rw [List.take_zero, List.map_nil]; simp [sortV]; exact .nil _ _, rfl⟩) (by repeat' (first | exact rfl | exact trivial | exact int_eq (by omega) | exact int_eq (by (rw [i64_wrap] <;> omega)) | constructor)) ?_
  intro k S hIn
  obtain ⟨i, x, h, rfl, hi, hB, rfl⟩ := (hI _ _).1 hIn
  clear hIn
  have ie : ((i : Nat) : Int).toNat = i := Int.toNat_natCast _
  have i0 : (0 : Int) ≤ ((i : Nat) : Int) := by omega
  by_cases hlt : i < l.length
  · have hli : ((i : Nat) : Int) < (((l.length) : Nat) : Int) := by omega
    have w1 : IntKind.i64.wrap ((i : Int) + 1) = ((i + 1 : Nat) : Int) := by rw [i64_wrap (by omega) (by omega)]; omega
    have hg : l.getD i r0 = l[i] := by simp [List.getD_eq_getElem?_getD, hlt]
    have har := ha _ (List.getElem_mem hlt)
    rw [← hg] at har
    have hmp : ((l.take (i + 1)).map fun r => r.2.getD a v0) = ((l.take i).map fun r => r.2.getD a v0) ++ [(l.getD i r0).2.getD a v0] := by
      rw [List.take_add_one, List.getElem?_eq_getElem hlt, List.map_append, hg]
      rfl
    have hln : ((l.take i).map fun r => r.2.getD a v0).length = i := by rw [List.length_map, List.length_take]; omega
    obtain ⟨id, vs, hr⟩ : ∃ id vs, l.getD i r0 = (id, vs) := ⟨_, _, rfl⟩
    have tf : rF l i = [I64 id, VL vs] := by unfold rF; rw [hr]; rfl
    rw [hr] at har hmp
    simp only at har hmp
    obtain ⟨vk, vn, vt, hv⟩ : ∃ k n t, vs.getD a v0 = (k, n, t) := ⟨_, _, _, rfl⟩
    have tv : vF vs a = [I64 vk, I64 vn, Str vt] := by unfold vF; rw [hv]
    have hvt := har.2 _ (getD_mem v0 har.1)
    rw [hv] at hmp hvt
    have a0 : (0 : Int) ≤ ((a : Nat) : Int) := by omega
    have al : ((a : Nat) : Int) < ((vs.length : Nat) : Int) := by omega
    have ae : ((a : Nat) : Int).toNat = a := Int.toNat_natCast _
    have ba : (i + 1) * 32 ≤ 140737488355328 := by omega
    have wj : IntKind.i64.wrap (((i + 1 : Nat) : Int) - 1) = ((i : Nat) : Int) := by rw [i64_wrap (by omega) (by omega)]; omega
    have hst : ∀ y ∈ (l.take i).map fun r => r.2.getD a v0, y.2.2.size ≤ 9223372036854775807 := fun y hy => by
      obtain ⟨r, hr1, rfl⟩ := List.mem_map.1 hy
      have h1 := ha r (List.mem_of_mem_take hr1)
      exact h1.2 _ (getD_mem v0 h1.1)
    generalize ((l.take i).map fun r => r.2.getD a v0) = X at *
    have hsl : (sortV X).length = i := by rw [sortV_len, hln]
    rcases hB.casesH with ⟨e0, e1, rfl, rfl⟩ | ⟨g, hgf, e0, rfl, hle⟩
    · repeat' first | (with_reducible refine And.intro (by omega) ?_) | (refine SW.seq_k fun K hK => ?_) | (refine SW.block ?_) | ((first | refine SW.region ?_ | refine SW.regionD (Checked.mixed Tryd.checked) (by kernel_rfl) ?_ | refine SW.cond ?_ | refine SW.skip ?_ | refine SW.exit ?_ | refine SW.ret ?_ | (refine allF_i fun b hb => ?_; replace hD := And.intro hb hD; clear hb; try simp only [fresh_cons, fresh_nil, and_true, ne_eq, neF] at hD) | simp only [appK, appOsK]); try simp only [go_sem, hD, hli, ie, i0, w1, tf, tv, a0, al, ae, ba, wj, true_implies]) | (refine And.intro (by omega) ?_) | (refine ifI (fun hc => ?_) (fun hc => ?_) <;> first | (exfalso; omega) | skip) | ((first | apply hK | ((iterate 1 (clear hK K)); apply hK) | ((iterate 2 (clear hK K)); apply hK) | ((iterate 3 (clear hK K)); apply hK) | ((iterate 4 (clear hK K)); apply hK) | ((iterate 5 (clear hK K)); apply hK)); clear hK K)
      refine Ab.SW.le (St.le_pick [(b, .svs [I64 vk, I64 vn, Str vt]), (tb, .svs [Str nm, SL ats, RL l])] ?_ ?_) ?_
      · repeat' (first | exact (fun x hx => (List.not_mem_nil hx).elim) | refine List.forall_mem_cons.2 ⟨?_, ?_⟩ | exact List.mem_cons_self | apply List.mem_cons_of_mem)
      · simp [fresh_cons, fresh_nil, hD]
      have hK1 : ([I64 vk, I64 vn, Str vt] : List SV) = vCs (sortV X ++ [(vk, vn, vt)]) := by rw [← vCs_snoc, e1]; rfl
      rw [hK1]
      have hbt : ¬ b = tb := by simp [hD]
      have htb : ¬ tb = b := by simp [hD]
      obtain ⟨J, hJ⟩ : ∃ J : Nat → St → Prop, ∀ k S, J k S ↔ (∃ (p q : List V3), k = p.length ∧ p ++ q = sortV X ∧ (∀ y ∈ q, cmp3 (vk, vn, vt) y < 0) ∧ S = ⟨[(1, I64 a), (2, .op tb 0), (5, .os b 0 (i + 1) 3), (6, I64 i), (7, I64 p.length)], [(b, .svs (vCs (p ++ (vk, vn, vt) :: q))), (tb, .svs [Str nm, SL ats, RL l])]⟩) := ⟨fun k S => _, fun _ _ => Iff.rfl⟩
      refine SW.loop' J i ((hJ _ _).2 ⟨sortV X, [], hsl.symm, by simp, fun y hy => (List.not_mem_nil hy).elim, rfl⟩) (by rw [hsl]; repeat' (first | exact rfl | exact trivial | exact int_eq (by omega) | exact int_eq (by (rw [i64_wrap] <;> omega)) | (subst e0; exact rfl) | constructor)) ?_
      clear hD
      have hD : (0 : Nat) = 0 := rfl
      intro k S hIn
      obtain ⟨p, q, rfl, hpq, hq, rfl⟩ := (hJ _ _).1 hIn
      clear hIn
      have hpl : p.length + q.length = i := by rw [← hsl, ← hpq, List.length_append]
      rcases List.eq_nil_or_concat p with rfl | ⟨p', ⟨yk, yn, yt⟩, e⟩
      · have hins := ins_sort hpq (v := (vk, vn, vt)) (fun y hy => by cases hy) hq
        have z0 : ((([] : List V3).length : Nat) : Int) = 0 := rfl
        have c0 : (i + 1) * 3 = (vCs ((vk, vn, vt) :: q)).length := by rw [← vCs_len, List.length_cons]; rw [List.length_nil] at hpl; omega
        rw [List.nil_append] at hins
        repeat' first | (with_reducible refine And.intro (by omega) ?_) | (refine SW.seq_k fun K hK => ?_) | (refine SW.block ?_) | ((first | refine SW.region ?_ | refine SW.regionD (Checked.mixed Tryd.checked) (by kernel_rfl) ?_ | refine SW.cond ?_ | refine SW.skip ?_ | refine SW.exit ?_ | refine SW.ret ?_ | (refine allF_i fun b hb => ?_; replace hD := And.intro hb hD; clear hb; try simp only [fresh_cons, fresh_nil, and_true, ne_eq, neF] at hD) | simp only [appK, appOsK]); try simp only [go_sem, hD, w1, i0, z0]) | (refine And.intro (by omega) ?_) | (refine ifI (fun hc => ?_) (fun hc => ?_) <;> first | (exfalso; omega) | skip) | ((first | apply hK | ((iterate 1 (clear hK K)); apply hK) | ((iterate 2 (clear hK K)); apply hK) | ((iterate 3 (clear hK K)); apply hK) | ((iterate 4 (clear hK K)); apply hK) | ((iterate 5 (clear hK K)); apply hK)); clear hK K)
        refine Rnd.sub (l.length - (i + 1)) (by omega) ((hI _ _).2 ⟨i + 1, _, _, rfl, by omega, (by rw [hmp, ← hins]; exact Acc.osH ⟨⟨htb, hbt⟩, trivial⟩ c0), rfl⟩) (by repeat' (first | exact rfl | exact trivial | exact int_eq (by omega) | exact int_eq (by (rw [i64_wrap] <;> omega)) | constructor))
      · rw [List.concat_eq_append] at e
        subst e
        have e7 : (p' ++ [(yk, yn, yt)]).length = p'.length + 1 := by simp
        rw [e7] at hpl
        rw [e7]
        obtain ⟨L, hL⟩ : ∃ L, L = p' ++ [(yk, yn, yt)] ++ (vk, vn, vt) :: q := ⟨_, rfl⟩
        rw [← hL]
        have hLl : L.length = i + 1 := by rw [hL]; simp; omega
        have c0 : (vCs L).length = (i + 1) * 3 := by rw [← vCs_len, hLl]
        obtain ⟨g1, g2, g3⟩ := vCs_get L (p'.length + 1) (by omega)
        obtain ⟨g4, g5, g6⟩ := vCs_get L p'.length (by omega)
        have m1 : L.getD (p'.length + 1) v0 = (vk, vn, vt) := by rw [hL, ← e7]; exact mid_get _ _ _
        have m2 : L.getD p'.length v0 = (yk, yn, yt) := by rw [hL]; exact mid_get' _ _ _ _
        rw [m1] at g1 g2 g3
        rw [m2] at g4 g5 g6
        simp only at g1 g2 g3 g4 g5 g6
        have k0 : (0 : Int) < ((p'.length + 1 : Nat) : Int) := by omega
        have wk : IntKind.i64.wrap (((p'.length + 1 : Nat) : Int) - 1) = ((p'.length : Nat) : Int) := by rw [i64_wrap (by omega) (by omega)]; omega
        have k1 : (0 : Int) ≤ ((p'.length + 1 : Nat) : Int) := by omega
        have k2 : ((p'.length + 1 : Nat) : Int) < ((i + 1 : Nat) : Int) := by omega
        have k3 : (0 : Int) ≤ ((p'.length : Nat) : Int) := by omega
        have k4 : ((p'.length : Nat) : Int) < ((i + 1 : Nat) : Int) := by omega
        have k5 : ((p'.length + 1 : Nat) : Int).toNat = p'.length + 1 := Int.toNat_natCast _
        have k6 : ((p'.length : Nat) : Int).toNat = p'.length := Int.toNat_natCast _
        have hyt := hst (yk, yn, yt) ((sortV_perm X).mem_iff.1 (by rw [← hpq]; simp))
        have cr := compare_r vk vn vt yk yn yt hvt hyt
        by_cases hcmp : cmp3 (vk, vn, vt) (yk, yn, yt) < 0
        · have hcl : cmpV vk vn vt yk yn yt < 0 := hcmp
          generalize cmpV vk vn vt yk yn yt = cv at *
          have s1 := vCs_set L (p'.length + 1) (yk, yn, yt) (by omega)
          have s2 := vCs_set (L.set (p'.length + 1) (yk, yn, yt)) p'.length (vk, vn, vt) (by rw [List.length_set]; omega)
          have s3 := vCs_set L p'.length (vk, vn, vt) (by omega)
          have s4 := vCs_set (L.set p'.length (vk, vn, vt)) (p'.length + 1) (yk, yn, yt) (by rw [List.length_set]; omega)
          have s5 : (L.set (p'.length + 1) (yk, yn, yt)).set p'.length (vk, vn, vt) = p' ++ (vk, vn, vt) :: (yk, yn, yt) :: q := by rw [hL]; exact mid_swap _ _ _ _
          have s6 : (L.set p'.length (vk, vn, vt)).set (p'.length + 1) (yk, yn, yt) = p' ++ (vk, vn, vt) :: (yk, yn, yt) :: q := by rw [hL]; exact mid_swap' _ _ _ _
          rw [s5] at s2
          rw [s6] at s4
          simp only at s1 s2 s3 s4
          have hq2 : ∀ y ∈ (yk, yn, yt) :: q, cmp3 (vk, vn, vt) y < 0 := fun y hy => by
            rcases List.mem_cons.1 hy with rfl | hy
            · exact hcmp
            · exact hq y hy
          repeat' first | (with_reducible refine And.intro (by omega) ?_) | (refine SW.seq_k fun K hK => ?_) | (refine SW.block ?_) | ((first | refine SW.region ?_ | refine SW.regionZ (id := 7) (Checked.mixed Tryd.checked) ((.one 0 [0, 1, 2, 3, 4, 5, 6, 7, 8, 9, 10, 11, 12, 13, 14] (.one 1 [1, 2, 3, 4, 5, 6, 7, 8, 9, 10, 11, 12, 13, 14] (.one 2 [2, 3, 4, 5, 6, 7, 8, 9, 10, 11, 12, 13, 14] (.one 3 [3, 5, 6, 12, 13, 14] (.one 4 [4, 5, 6, 12, 13, 14] (.one 5 [5, 6, 12, 13, 14] (.one 6 [6, 12, 13, 14] (.one 7 [7, 10, 11, 12, 13, 14] (.one 8 [8, 9, 10, 11, 12, 13, 14] (.one 9 [9, 10, 11, 12, 13, 14] (.one 10 [10, 11, 12, 13, 14] (.one 11 [11, 12, 13, 14] (.one 12 [12, 13, 14] (.one 13 [13, 14] (.one 14 [14] .done))))))))))))))) : OZ) (by kernel_rfl) ?_ | refine SW.regionZ (id := 9) (Checked.mixed Tryd.checked) ((.one 0 [0, 14, 15, 16, 17] (.one 1 [1, 14, 15, 16, 17] (.one 5 [5, 8, 9, 14, 15, 16, 17] (.one 6 [6, 7, 8, 9, 14, 15, 16, 17] (.one 7 [7, 8, 9, 14, 15, 16, 17] (.one 8 [8, 9, 14, 15, 16, 17] (.one 9 [9, 14, 15, 16, 17] (.one 10 [10, 12, 13, 14, 15, 16, 17] (.one 11 [11, 12, 13, 14, 15, 16, 17] (.one 12 [12, 13, 14, 15, 16, 17] (.one 13 [13, 14, 15, 16, 17] (.one 14 [14, 15, 16, 17] (.alt 2 (.alt 3 (.alt 4 (.alt 15 (.one 16 [16, 17] (.alt 17 .done .nil)) .nil) (.alt 15 (.one 4 [4, 16, 17] (.one 16 [16, 17] (.alt 17 .done .nil))) .nil)) (.alt 15 (.one 3 [3, 4, 16, 17] (.one 4 [4, 16, 17] (.one 16 [16, 17] (.alt 17 .done .nil)))) .nil)) (.alt 3 (.alt 2 (.alt 4 (.alt 15 (.one 16 [16, 17] (.alt 17 .done .nil)) .nil) (.alt 15 (.one 4 [4, 16, 17] (.one 16 [16, 17] (.alt 17 .done .nil))) .nil)) (.alt 4 (.alt 2 (.alt 15 (.one 16 [16, 17] (.alt 17 .done .nil)) .nil) (.alt 15 (.one 2 [2, 16, 17] (.one 16 [16, 17] (.alt 17 .done .nil))) .nil)) (.alt 15 (.one 2 [2, 16, 17] (.one 4 [4, 16, 17] (.one 16 [16, 17] (.alt 17 .done .nil)))) .nil))) (.alt 15 (.one 2 [2, 16, 17] (.one 3 [3, 4, 16, 17] (.one 4 [4, 16, 17] (.one 16 [16, 17] (.alt 17 .done .nil))))) .nil))))))))))))))) : OZ) (by kernel_rfl) ?_ | refine SW.regionD (Checked.mixed Tryd.checked) (by kernel_rfl) ?_ | refine SW.cond ?_ | refine SW.skip ?_ | refine SW.exit ?_ | refine SW.ret ?_ | refine Call.of_pure (cr) ?_ | refine ⟨_, cr, ?_⟩ | (refine allF_i fun b hb => ?_; replace hD := And.intro hb hD; clear hb; try simp only [fresh_cons, fresh_nil, and_true, ne_eq, neF] at hD) | simp only [appK, appOsK]); try simp only [go_sem, hD, w1, i0, k0, wk, k1, k2, k3, k4, k5, k6, g1, g2, g3, g4, g5, g6, c0, hcl, true_implies]) | (refine And.intro (by omega) ?_) | (refine ifI (fun hc => ?_) (fun hc => ?_) <;> first | (exfalso; omega) | skip) | ((first | apply hK | ((iterate 1 (clear hK K)); apply hK) | ((iterate 2 (clear hK K)); apply hK) | ((iterate 3 (clear hK K)); apply hK) | ((iterate 4 (clear hK K)); apply hK) | ((iterate 5 (clear hK K)); apply hK)); clear hK K) | (refine And.intro ?_ ?_)
          all_goals
            first | rw [s1, s2] | rw [s3, s4]
            refine Rnd.sub p'.length (by omega) ((hJ _ _).2 ⟨p', (yk, yn, yt) :: q, rfl, by rw [← hpq]; simp, hq2, rfl⟩) (by repeat' (first | exact rfl | exact trivial | exact int_eq (by omega) | exact int_eq (by (rw [i64_wrap] <;> omega)) | constructor))
        · have hcl : ¬ cmpV vk vn vt yk yn yt < 0 := hcmp
          have hins := ins_sort hpq (v := (vk, vn, vt)) (fun y hy => by
            rw [List.getLast?_concat] at hy
            cases hy
            rw [cmp3_swap]
            omega) hq
          rw [← hL] at hins
          generalize cmpV vk vn vt yk yn yt = cv at *
          repeat' first | (with_reducible refine And.intro (by omega) ?_) | (refine SW.seq_k fun K hK => ?_) | (refine SW.block ?_) | ((first | refine SW.region ?_ | refine SW.regionZ (id := 7) (Checked.mixed Tryd.checked) ((.one 0 [0, 1, 2, 3, 4, 5, 6, 7, 8, 9, 10, 11, 12, 13, 14] (.one 1 [1, 2, 3, 4, 5, 6, 7, 8, 9, 10, 11, 12, 13, 14] (.one 2 [2, 3, 4, 5, 6, 7, 8, 9, 10, 11, 12, 13, 14] (.one 3 [3, 5, 6, 12, 13, 14] (.one 4 [4, 5, 6, 12, 13, 14] (.one 5 [5, 6, 12, 13, 14] (.one 6 [6, 12, 13, 14] (.one 7 [7, 10, 11, 12, 13, 14] (.one 8 [8, 9, 10, 11, 12, 13, 14] (.one 9 [9, 10, 11, 12, 13, 14] (.one 10 [10, 11, 12, 13, 14] (.one 11 [11, 12, 13, 14] (.one 12 [12, 13, 14] (.one 13 [13, 14] (.one 14 [14] .done))))))))))))))) : OZ) (by kernel_rfl) ?_ | refine SW.regionZ (id := 9) (Checked.mixed Tryd.checked) ((.one 0 [0, 14, 15, 16, 17] (.one 1 [1, 14, 15, 16, 17] (.one 5 [5, 8, 9, 14, 15, 16, 17] (.one 6 [6, 7, 8, 9, 14, 15, 16, 17] (.one 7 [7, 8, 9, 14, 15, 16, 17] (.one 8 [8, 9, 14, 15, 16, 17] (.one 9 [9, 14, 15, 16, 17] (.one 10 [10, 12, 13, 14, 15, 16, 17] (.one 11 [11, 12, 13, 14, 15, 16, 17] (.one 12 [12, 13, 14, 15, 16, 17] (.one 13 [13, 14, 15, 16, 17] (.one 14 [14, 15, 16, 17] (.alt 2 (.alt 3 (.alt 4 (.alt 15 (.one 16 [16, 17] (.alt 17 .done .nil)) .nil) (.alt 15 (.one 4 [4, 16, 17] (.one 16 [16, 17] (.alt 17 .done .nil))) .nil)) (.alt 15 (.one 3 [3, 4, 16, 17] (.one 4 [4, 16, 17] (.one 16 [16, 17] (.alt 17 .done .nil)))) .nil)) (.alt 3 (.alt 2 (.alt 4 (.alt 15 (.one 16 [16, 17] (.alt 17 .done .nil)) .nil) (.alt 15 (.one 4 [4, 16, 17] (.one 16 [16, 17] (.alt 17 .done .nil))) .nil)) (.alt 4 (.alt 2 (.alt 15 (.one 16 [16, 17] (.alt 17 .done .nil)) .nil) (.alt 15 (.one 2 [2, 16, 17] (.one 16 [16, 17] (.alt 17 .done .nil))) .nil)) (.alt 15 (.one 2 [2, 16, 17] (.one 4 [4, 16, 17] (.one 16 [16, 17] (.alt 17 .done .nil)))) .nil))) (.alt 15 (.one 2 [2, 16, 17] (.one 3 [3, 4, 16, 17] (.one 4 [4, 16, 17] (.one 16 [16, 17] (.alt 17 .done .nil))))) .nil))))))))))))))) : OZ) (by kernel_rfl) ?_ | refine SW.regionD (Checked.mixed Tryd.checked) (by kernel_rfl) ?_ | refine SW.cond ?_ | refine SW.skip ?_ | refine SW.exit ?_ | refine SW.ret ?_ | refine Call.of_pure (cr) ?_ | refine ⟨_, cr, ?_⟩ | (refine allF_i fun b hb => ?_; replace hD := And.intro hb hD; clear hb; try simp only [fresh_cons, fresh_nil, and_true, ne_eq, neF] at hD) | simp only [appK, appOsK]); try simp only [go_sem, hD, w1, i0, k0, wk, k1, k2, k3, k4, k5, k6, g1, g2, g3, g4, g5, g6, c0, hcl, true_implies]) | (refine And.intro (by omega) ?_) | (refine ifI (fun hc => ?_) (fun hc => ?_) <;> first | (exfalso; omega) | skip) | ((first | apply hK | ((iterate 1 (clear hK K)); apply hK) | ((iterate 2 (clear hK K)); apply hK) | ((iterate 3 (clear hK K)); apply hK) | ((iterate 4 (clear hK K)); apply hK) | ((iterate 5 (clear hK K)); apply hK)); clear hK K) | (refine And.intro ?_ ?_)
          all_goals
            refine Rnd.sub (l.length - (i + 1)) (by omega) ((hI _ _).2 ⟨i + 1, _, _, rfl, by omega, (by rw [hmp, ← hins]; exact Acc.osH ⟨⟨htb, hbt⟩, trivial⟩ c0.symm), rfl⟩) (by repeat' (first | exact rfl | exact trivial | exact int_eq (by omega) | exact int_eq (by (rw [i64_wrap] <;> omega)) | constructor))
    · refine Ab.SW.le (hle _) ?_
      have hgt : ¬ g = tb := fun e => hgf.1.1 e.symm
      repeat' first | (with_reducible refine And.intro (by omega) ?_) | (refine SW.seq_k fun K hK => ?_) | (refine SW.block ?_) | ((first | refine SW.region ?_ | refine SW.regionD (Checked.mixed Tryd.checked) (by kernel_rfl) ?_ | refine SW.cond ?_ | refine SW.skip ?_ | refine SW.exit ?_ | refine SW.ret ?_ | (refine allF_i fun b hb => ?_; replace hD := And.intro hb hD; clear hb; try simp only [fresh_cons, fresh_nil, and_true, ne_eq, neF] at hD) | simp only [appK, appOsK]); try simp only [go_sem, hD, hli, ie, i0, w1, tf, tv, a0, al, ae, ba, wj, true_implies, hgt, e0]) | (refine And.intro (by omega) ?_) | (refine ifI (fun hc => ?_) (fun hc => ?_) <;> first | (exfalso; omega) | skip) | ((first | apply hK | ((iterate 1 (clear hK K)); apply hK) | ((iterate 2 (clear hK K)); apply hK) | ((iterate 3 (clear hK K)); apply hK) | ((iterate 4 (clear hK K)); apply hK) | ((iterate 5 (clear hK K)); apply hK)); clear hK K)
      refine Ab.SW.le (St.le_pick [(b, .svs (vCs (sortV X) ++ [I64 vk, I64 vn, Str vt])), (tb, .svs [Str nm, SL ats, RL l])] ?_ ?_) ?_
      · repeat' (first | exact (fun x hx => (List.not_mem_nil hx).elim) | refine List.forall_mem_cons.2 ⟨?_, ?_⟩ | exact List.mem_cons_self | apply List.mem_cons_of_mem)
      · simp [fresh_cons, fresh_nil, hD]
      have hK1 : vCs (sortV X) ++ [I64 vk, I64 vn, Str vt] = vCs (sortV X ++ [(vk, vn, vt)]) := by rw [← vCs_snoc]
      rw [hK1]
      have hbt : ¬ b = tb := by simp [hD]
      have htb : ¬ tb = b := by simp [hD]
      obtain ⟨J, hJ⟩ : ∃ J : Nat → St → Prop, ∀ k S, J k S ↔ (∃ (p q : List V3), k = p.length ∧ p ++ q = sortV X ∧ (∀ y ∈ q, cmp3 (vk, vn, vt) y < 0) ∧ S = ⟨[(1, I64 a), (2, .op tb 0), (5, .os b 0 (i + 1) 3), (6, I64 i), (7, I64 p.length)], [(b, .svs (vCs (p ++ (vk, vn, vt) :: q))), (tb, .svs [Str nm, SL ats, RL l])]⟩) := ⟨fun k S => _, fun _ _ => Iff.rfl⟩
      refine SW.loop' J i ((hJ _ _).2 ⟨sortV X, [], hsl.symm, by simp, fun y hy => (List.not_mem_nil hy).elim, rfl⟩) (by rw [hsl]; repeat' (first | exact rfl | exact trivial | exact int_eq (by omega) | exact int_eq (by (rw [i64_wrap] <;> omega)) | (subst e0; exact rfl) | constructor)) ?_
      clear hD
      have hD : (0 : Nat) = 0 := rfl
      intro k S hIn
      obtain ⟨p, q, rfl, hpq, hq, rfl⟩ := (hJ _ _).1 hIn
      clear hIn
      have hpl : p.length + q.length = i := by rw [← hsl, ← hpq, List.length_append]
      rcases List.eq_nil_or_concat p with rfl | ⟨p', ⟨yk, yn, yt⟩, e⟩
      · have hins := ins_sort hpq (v := (vk, vn, vt)) (fun y hy => by cases hy) hq
        have z0 : ((([] : List V3).length : Nat) : Int) = 0 := rfl
        have c0 : (i + 1) * 3 = (vCs ((vk, vn, vt) :: q)).length := by rw [← vCs_len, List.length_cons]; rw [List.length_nil] at hpl; omega
        rw [List.nil_append] at hins
        repeat' first | (with_reducible refine And.intro (by omega) ?_) | (refine SW.seq_k fun K hK => ?_) | (refine SW.block ?_) | ((first | refine SW.region ?_ | refine SW.regionD (Checked.mixed Tryd.checked) (by kernel_rfl) ?_ | refine SW.cond ?_ | refine SW.skip ?_ | refine SW.exit ?_ | refine SW.ret ?_ | (refine allF_i fun b hb => ?_; replace hD := And.intro hb hD; clear hb; try simp only [fresh_cons, fresh_nil, and_true, ne_eq, neF] at hD) | simp only [appK, appOsK]); try simp only [go_sem, hD, w1, i0, z0]) | (refine And.intro (by omega) ?_) | (refine ifI (fun hc => ?_) (fun hc => ?_) <;> first | (exfalso; omega) | skip) | ((first | apply hK | ((iterate 1 (clear hK K)); apply hK) | ((iterate 2 (clear hK K)); apply hK) | ((iterate 3 (clear hK K)); apply hK) | ((iterate 4 (clear hK K)); apply hK) | ((iterate 5 (clear hK K)); apply hK)); clear hK K)
        refine Rnd.sub (l.length - (i + 1)) (by omega) ((hI _ _).2 ⟨i + 1, _, _, rfl, by omega, (by rw [hmp, ← hins]; exact Acc.osH ⟨⟨htb, hbt⟩, trivial⟩ c0), rfl⟩) (by repeat' (first | exact rfl | exact trivial | exact int_eq (by omega) | exact int_eq (by (rw [i64_wrap] <;> omega)) | constructor))
      · rw [List.concat_eq_append] at e
        subst e
        have e7 : (p' ++ [(yk, yn, yt)]).length = p'.length + 1 := by simp
        rw [e7] at hpl
        rw [e7]
        obtain ⟨L, hL⟩ : ∃ L, L = p' ++ [(yk, yn, yt)] ++ (vk, vn, vt) :: q := ⟨_, rfl⟩
        rw [← hL]
        have hLl : L.length = i + 1 := by rw [hL]; simp; omega
        have c0 : (vCs L).length = (i + 1) * 3 := by rw [← vCs_len, hLl]
        obtain ⟨g1, g2, g3⟩ := vCs_get L (p'.length + 1) (by omega)
        obtain ⟨g4, g5, g6⟩ := vCs_get L p'.length (by omega)
        have m1 : L.getD (p'.length + 1) v0 = (vk, vn, vt) := by rw [hL, ← e7]; exact mid_get _ _ _
        have m2 : L.getD p'.length v0 = (yk, yn, yt) := by rw [hL]; exact mid_get' _ _ _ _
        rw [m1] at g1 g2 g3
        rw [m2] at g4 g5 g6
        simp only at g1 g2 g3 g4 g5 g6
        have k0 : (0 : Int) < ((p'.length + 1 : Nat) : Int) := by omega
        have wk : IntKind.i64.wrap (((p'.length + 1 : Nat) : Int) - 1) = ((p'.length : Nat) : Int) := by rw [i64_wrap (by omega) (by omega)]; omega
        have k1 : (0 : Int) ≤ ((p'.length + 1 : Nat) : Int) := by omega
        have k2 : ((p'.length + 1 : Nat) : Int) < ((i + 1 : Nat) : Int) := by omega
        have k3 : (0 : Int) ≤ ((p'.length : Nat) : Int) := by omega
        have k4 : ((p'.length : Nat) : Int) < ((i + 1 : Nat) : Int) := by omega
        have k5 : ((p'.length + 1 : Nat) : Int).toNat = p'.length + 1 := Int.toNat_natCast _
        have k6 : ((p'.length : Nat) : Int).toNat = p'.length := Int.toNat_natCast _
        have hyt := hst (yk, yn, yt) ((sortV_perm X).mem_iff.1 (by rw [← hpq]; simp))
        have cr := compare_r vk vn vt yk yn yt hvt hyt
        by_cases hcmp : cmp3 (vk, vn, vt) (yk, yn, yt) < 0
        · have hcl : cmpV vk vn vt yk yn yt < 0 := hcmp
          generalize cmpV vk vn vt yk yn yt = cv at *
          have s1 := vCs_set L (p'.length + 1) (yk, yn, yt) (by omega)
          have s2 := vCs_set (L.set (p'.length + 1) (yk, yn, yt)) p'.length (vk, vn, vt) (by rw [List.length_set]; omega)
          have s3 := vCs_set L p'.length (vk, vn, vt) (by omega)
          have s4 := vCs_set (L.set p'.length (vk, vn, vt)) (p'.length + 1) (yk, yn, yt) (by rw [List.length_set]; omega)
          have s5 : (L.set (p'.length + 1) (yk, yn, yt)).set p'.length (vk, vn, vt) = p' ++ (vk, vn, vt) :: (yk, yn, yt) :: q := by rw [hL]; exact mid_swap _ _ _ _
          have s6 : (L.set p'.length (vk, vn, vt)).set (p'.length + 1) (yk, yn, yt) = p' ++ (vk, vn, vt) :: (yk, yn, yt) :: q := by rw [hL]; exact mid_swap' _ _ _ _
          rw [s5] at s2
          rw [s6] at s4
          simp only at s1 s2 s3 s4
          have hq2 : ∀ y ∈ (yk, yn, yt) :: q, cmp3 (vk, vn, vt) y < 0 := fun y hy => by
            rcases List.mem_cons.1 hy with rfl | hy
            · exact hcmp
            · exact hq y hy
          repeat' first | (with_reducible refine And.intro (by omega) ?_) | (refine SW.seq_k fun K hK => ?_) | (refine SW.block ?_) | ((first | refine SW.region ?_ | refine SW.regionZ (id := 7) (Checked.mixed Tryd.checked) ((.one 0 [0, 1, 2, 3, 4, 5, 6, 7, 8, 9, 10, 11, 12, 13, 14] (.one 1 [1, 2, 3, 4, 5, 6, 7, 8, 9, 10, 11, 12, 13, 14] (.one 2 [2, 3, 4, 5, 6, 7, 8, 9, 10, 11, 12, 13, 14] (.one 3 [3, 5, 6, 12, 13, 14] (.one 4 [4, 5, 6, 12, 13, 14] (.one 5 [5, 6, 12, 13, 14] (.one 6 [6, 12, 13, 14] (.one 7 [7, 10, 11, 12, 13, 14] (.one 8 [8, 9, 10, 11, 12, 13, 14] (.one 9 [9, 10, 11, 12, 13, 14] (.one 10 [10, 11, 12, 13, 14] (.one 11 [11, 12, 13, 14] (.one 12 [12, 13, 14] (.one 13 [13, 14] (.one 14 [14] .done))))))))))))))) : OZ) (by kernel_rfl) ?_ | refine SW.regionZ (id := 9) (Checked.mixed Tryd.checked) ((.one 0 [0, 14, 15, 16, 17] (.one 1 [1, 14, 15, 16, 17] (.one 5 [5, 8, 9, 14, 15, 16, 17] (.one 6 [6, 7, 8, 9, 14, 15, 16, 17] (.one 7 [7, 8, 9, 14, 15, 16, 17] (.one 8 [8, 9, 14, 15, 16, 17] (.one 9 [9, 14, 15, 16, 17] (.one 10 [10, 12, 13, 14, 15, 16, 17] (.one 11 [11, 12, 13, 14, 15, 16, 17] (.one 12 [12, 13, 14, 15, 16, 17] (.one 13 [13, 14, 15, 16, 17] (.one 14 [14, 15, 16, 17] (.alt 2 (.alt 3 (.alt 4 (.alt 15 (.one 16 [16, 17] (.alt 17 .done .nil)) .nil) (.alt 15 (.one 4 [4, 16, 17] (.one 16 [16, 17] (.alt 17 .done .nil))) .nil)) (.alt 15 (.one 3 [3, 4, 16, 17] (.one 4 [4, 16, 17] (.one 16 [16, 17] (.alt 17 .done .nil)))) .nil)) (.alt 3 (.alt 2 (.alt 4 (.alt 15 (.one 16 [16, 17] (.alt 17 .done .nil)) .nil) (.alt 15 (.one 4 [4, 16, 17] (.one 16 [16, 17] (.alt 17 .done .nil))) .nil)) (.alt 4 (.alt 2 (.alt 15 (.one 16 [16, 17] (.alt 17 .done .nil)) .nil) (.alt 15 (.one 2 [2, 16, 17] (.one 16 [16, 17] (.alt 17 .done .nil))) .nil)) (.alt 15 (.one 2 [2, 16, 17] (.one 4 [4, 16, 17] (.one 16 [16, 17] (.alt 17 .done .nil)))) .nil))) (.alt 15 (.one 2 [2, 16, 17] (.one 3 [3, 4, 16, 17] (.one 4 [4, 16, 17] (.one 16 [16, 17] (.alt 17 .done .nil))))) .nil))))))))))))))) : OZ) (by kernel_rfl) ?_ | refine SW.regionD (Checked.mixed Tryd.checked) (by kernel_rfl) ?_ | refine SW.cond ?_ | refine SW.skip ?_ | refine SW.exit ?_ | refine SW.ret ?_ | refine Call.of_pure (cr) ?_ | refine ⟨_, cr, ?_⟩ | (refine allF_i fun b hb => ?_; replace hD := And.intro hb hD; clear hb; try simp only [fresh_cons, fresh_nil, and_true, ne_eq, neF] at hD) | simp only [appK, appOsK]); try simp only [go_sem, hD, w1, i0, k0, wk, k1, k2, k3, k4, k5, k6, g1, g2, g3, g4, g5, g6, c0, hcl, true_implies]) | (refine And.intro (by omega) ?_) | (refine ifI (fun hc => ?_) (fun hc => ?_) <;> first | (exfalso; omega) | skip) | ((first | apply hK | ((iterate 1 (clear hK K)); apply hK) | ((iterate 2 (clear hK K)); apply hK) | ((iterate 3 (clear hK K)); apply hK) | ((iterate 4 (clear hK K)); apply hK) | ((iterate 5 (clear hK K)); apply hK)); clear hK K) | (refine And.intro ?_ ?_)
          all_goals
            first | rw [s1, s2] | rw [s3, s4]
            refine Rnd.sub p'.length (by omega) ((hJ _ _).2 ⟨p', (yk, yn, yt) :: q, rfl, by rw [← hpq]; simp, hq2, rfl⟩) (by repeat' (first | exact rfl | exact trivial | exact int_eq (by omega) | exact int_eq (by (rw [i64_wrap] <;> omega)) | constructor))
        · have hcl : ¬ cmpV vk vn vt yk yn yt < 0 := hcmp
          have hins := ins_sort hpq (v := (vk, vn, vt)) (fun y hy => by
            rw [List.getLast?_concat] at hy
            cases hy
            rw [cmp3_swap]
            omega) hq
          rw [← hL] at hins
          generalize cmpV vk vn vt yk yn yt = cv at *
          repeat' first | (with_reducible refine And.intro (by omega) ?_) | (refine SW.seq_k fun K hK => ?_) | (refine SW.block ?_) | ((first | refine SW.region ?_ | refine SW.regionZ (id := 7) (Checked.mixed Tryd.checked) ((.one 0 [0, 1, 2, 3, 4, 5, 6, 7, 8, 9, 10, 11, 12, 13, 14] (.one 1 [1, 2, 3, 4, 5, 6, 7, 8, 9, 10, 11, 12, 13, 14] (.one 2 [2, 3, 4, 5, 6, 7, 8, 9, 10, 11, 12, 13, 14] (.one 3 [3, 5, 6, 12, 13, 14] (.one 4 [4, 5, 6, 12, 13, 14] (.one 5 [5, 6, 12, 13, 14] (.one 6 [6, 12, 13, 14] (.one 7 [7, 10, 11, 12, 13, 14] (.one 8 [8, 9, 10, 11, 12, 13, 14] (.one 9 [9, 10, 11, 12, 13, 14] (.one 10 [10, 11, 12, 13, 14] (.one 11 [11, 12, 13, 14] (.one 12 [12, 13, 14] (.one 13 [13, 14] (.one 14 [14] .done))))))))))))))) : OZ) (by kernel_rfl) ?_ | refine SW.regionZ (id := 9) (Checked.mixed Tryd.checked) ((.one 0 [0, 14, 15, 16, 17] (.one 1 [1, 14, 15, 16, 17] (.one 5 [5, 8, 9, 14, 15, 16, 17] (.one 6 [6, 7, 8, 9, 14, 15, 16, 17] (.one 7 [7, 8, 9, 14, 15, 16, 17] (.one 8 [8, 9, 14, 15, 16, 17] (.one 9 [9, 14, 15, 16, 17] (.one 10 [10, 12, 13, 14, 15, 16, 17] (.one 11 [11, 12, 13, 14, 15, 16, 17] (.one 12 [12, 13, 14, 15, 16, 17] (.one 13 [13, 14, 15, 16, 17] (.one 14 [14, 15, 16, 17] (.alt 2 (.alt 3 (.alt 4 (.alt 15 (.one 16 [16, 17] (.alt 17 .done .nil)) .nil) (.alt 15 (.one 4 [4, 16, 17] (.one 16 [16, 17] (.alt 17 .done .nil))) .nil)) (.alt 15 (.one 3 [3, 4, 16, 17] (.one 4 [4, 16, 17] (.one 16 [16, 17] (.alt 17 .done .nil)))) .nil)) (.alt 3 (.alt 2 (.alt 4 (.alt 15 (.one 16 [16, 17] (.alt 17 .done .nil)) .nil) (.alt 15 (.one 4 [4, 16, 17] (.one 16 [16, 17] (.alt 17 .done .nil))) .nil)) (.alt 4 (.alt 2 (.alt 15 (.one 16 [16, 17] (.alt 17 .done .nil)) .nil) (.alt 15 (.one 2 [2, 16, 17] (.one 16 [16, 17] (.alt 17 .done .nil))) .nil)) (.alt 15 (.one 2 [2, 16, 17] (.one 4 [4, 16, 17] (.one 16 [16, 17] (.alt 17 .done .nil)))) .nil))) (.alt 15 (.one 2 [2, 16, 17] (.one 3 [3, 4, 16, 17] (.one 4 [4, 16, 17] (.one 16 [16, 17] (.alt 17 .done .nil))))) .nil))))))))))))))) : OZ) (by kernel_rfl) ?_ | refine SW.regionD (Checked.mixed Tryd.checked) (by kernel_rfl) ?_ | refine SW.cond ?_ | refine SW.skip ?_ | refine SW.exit ?_ | refine SW.ret ?_ | refine Call.of_pure (cr) ?_ | refine ⟨_, cr, ?_⟩ | (refine allF_i fun b hb => ?_; replace hD := And.intro hb hD; clear hb; try simp only [fresh_cons, fresh_nil, and_true, ne_eq, neF] at hD) | simp only [appK, appOsK]); try simp only [go_sem, hD, w1, i0, k0, wk, k1, k2, k3, k4, k5, k6, g1, g2, g3, g4, g5, g6, c0, hcl, true_implies]) | (refine And.intro (by omega) ?_) | (refine ifI (fun hc => ?_) (fun hc => ?_) <;> first | (exfalso; omega) | skip) | ((first | apply hK | ((iterate 1 (clear hK K)); apply hK) | ((iterate 2 (clear hK K)); apply hK) | ((iterate 3 (clear hK K)); apply hK) | ((iterate 4 (clear hK K)); apply hK) | ((iterate 5 (clear hK K)); apply hK)); clear hK K) | (refine And.intro ?_ ?_)
          all_goals
            refine Rnd.sub (l.length - (i + 1)) (by omega) ((hI _ _).2 ⟨i + 1, _, _, rfl, by omega, (by rw [hmp, ← hins]; exact Acc.osH ⟨⟨htb, hbt⟩, trivial⟩ c0.symm), rfl⟩) (by repeat' (first | exact rfl | exact trivial | exact int_eq (by omega) | exact int_eq (by (rw [i64_wrap] <;> omega)) | constructor))
  · have hli : ¬ ((i : Nat) : Int) < (((l.length) : Nat) : Int) := by omega
    obtain rfl : i = l.length := by omega
    rw [List.take_length] at hB
    have hsl := sortV_len (l.map fun r => r.2.getD a v0)
    rw [List.length_map] at hsl
    rcases hB.casesH with ⟨e0, e1, rfl, rfl⟩ | ⟨g, hgf, e0, rfl, hle⟩
    · repeat' first | (with_reducible refine And.intro (by omega) ?_) | (refine SW.seq_k fun K hK => ?_) | (refine SW.block ?_) | ((first | refine SW.region ?_ | refine SW.regionD (Checked.mixed Tryd.checked) (by kernel_rfl) ?_ | refine SW.cond ?_ | refine SW.skip ?_ | refine SW.exit ?_ | refine SW.ret ?_ | (refine allF_i fun b hb => ?_; replace hD := And.intro hb hD; clear hb; try simp only [fresh_cons, fresh_nil, and_true, ne_eq, neF] at hD) | simp only [appK, appOsK]); try simp only [go_sem, hD, hli, true_implies]) | (refine And.intro (by omega) ?_) | (refine ifI (fun hc => ?_) (fun hc => ?_) <;> first | (exfalso; omega) | skip) | ((first | apply hK | ((iterate 1 (clear hK K)); apply hK) | ((iterate 2 (clear hK K)); apply hK) | ((iterate 3 (clear hK K)); apply hK) | ((iterate 4 (clear hK K)); apply hK) | ((iterate 5 (clear hK K)); apply hK)); clear hK K)
      refine retQ_le ((St.le_acc_fl (i := 4) (n := l.length) (sz := 3) (x := .sc (.slice none 0 0)) ?_ hB (vF (sortV (l.map fun r => r.2.getD a v0))) (fun j hj => vCs_at _ j (by omega))).trans St.le_drop) ?_
      · exact rfl
      simp only [resL_tmp, resL_nil, tupOf, go_sem, hD]
      unfold VL
      rw [hsl]
    · refine Ab.SW.le (hle _) ?_
      have hgt : ¬ g = tb := fun e => hgf.1.1 e.symm
      repeat' first | (with_reducible refine And.intro (by omega) ?_) | (refine SW.seq_k fun K hK => ?_) | (refine SW.block ?_) | ((first | refine SW.region ?_ | refine SW.regionD (Checked.mixed Tryd.checked) (by kernel_rfl) ?_ | refine SW.cond ?_ | refine SW.skip ?_ | refine SW.exit ?_ | refine SW.ret ?_ | (refine allF_i fun b hb => ?_; replace hD := And.intro hb hD; clear hb; try simp only [fresh_cons, fresh_nil, and_true, ne_eq, neF] at hD) | simp only [appK, appOsK]); try simp only [go_sem, hD, hli, true_implies, hgt]) | (refine And.intro (by omega) ?_) | (refine ifI (fun hc => ?_) (fun hc => ?_) <;> first | (exfalso; omega) | skip) | ((first | apply hK | ((iterate 1 (clear hK K)); apply hK) | ((iterate 2 (clear hK K)); apply hK) | ((iterate 3 (clear hK K)); apply hK) | ((iterate 4 (clear hK K)); apply hK) | ((iterate 5 (clear hK K)); apply hK)); clear hK K)
      refine retQ_le ((St.le_acc_fl (i := 4) (n := l.length) (sz := 3) (x := .os g 0 l.length 3) ?_ (Acc.osH hgf e0) (vF (sortV (l.map fun r => r.2.getD a v0))) (fun j hj => vCs_at _ j (by omega))).trans St.le_drop) ?_
      · exact rfl
      simp only [resL_tmp, resL_nil, tupOf, go_sem, hD]
      unfold VL
      rw [hsl]
end Go.Proofs.YtddkacbcecedaaaDoor
/- Contracts: the errors of a table with an attribute; the histograms of both. -/
set_option linter.unusedSimpArgs false
set_option linter.unusedVariables false
set_option linter.unusedSectionVars false
namespace Go.Ab.A34
open Go Go.Ab Go.Proofs
/-- The error of a table with an attribute. -/
def chkS (t : Tb) (a : Int) : Int := if validS t = 0 then (if a < 0 ∨ (t.attrs.length : Int) ≤ a then 6 else 0) else validS t
abbrev NL (l : List Int) : SV := ints .i64 l
end Go.Ab.A34
namespace Go.Proofs.YtddkacbcecedaaaDoor
open Go Go.Ab Go.Ab.A34
variable [Gl] [Tabs]

theorem checked_p (t : Tb) (a : Int) : PCall Tryd.prog 30 [TB t, I64 a] (I64 (chkS t a)) := by
  have va := valid_tp t
  unfold chkS
  by_cases h : validS t = 0
  · rw [if_pos h]
    rw [h] at va
    by_cases h1 : a < 0
    · rw [if_pos (.inl h1)]
      refine Call.enter' (N := 20) (rs := [.tmp 4]) Tryd.func30 rfl rfl rfl (by decide) rfl ?_; simp only [argT]; have hD : (0 : Nat) = 0 := rfl
      repeat' first | (with_reducible refine And.intro (by omega) ?_) | (refine SW.seq_k fun K hK => ?_) | (refine SW.block ?_) | ((first | refine SW.region ?_ | refine SW.regionD (Checked.mixed Tryd.checked) (by kernel_rfl) ?_ | refine SW.cond ?_ | refine SW.skip ?_ | refine SW.exit ?_ | refine SW.ret ?_ | refine Call.of_pure (va) ?_ | refine ⟨_, va, ?_⟩ | (refine allF_i fun b hb => ?_; replace hD := And.intro hb hD; clear hb; try simp only [fresh_cons, fresh_nil, and_true, ne_eq, neF] at hD) | simp only [appK, appOsK]); try simp only [go_sem, hD, h1]) | (refine And.intro (by omega) ?_) | (refine ifI (fun hc => ?_) (fun hc => ?_) <;> first | (exfalso; omega) | skip) | ((first | apply hK | ((iterate 1 (clear hK K)); apply hK) | ((iterate 2 (clear hK K)); apply hK) | ((iterate 3 (clear hK K)); apply hK) | ((iterate 4 (clear hK K)); apply hK) | ((iterate 5 (clear hK K)); apply hK)); clear hK K)
      refine ret_pure ?_; simp only [resL_tmp, resL_nil, tupOf, go_sem, hD]
    · by_cases h2 : (t.attrs.length : Int) ≤ a
      · rw [if_pos (.inr h2)]
        refine Call.enter' (N := 20) (rs := [.tmp 4]) Tryd.func30 rfl rfl rfl (by decide) rfl ?_; simp only [argT]; have hD : (0 : Nat) = 0 := rfl
        repeat' first | (with_reducible refine And.intro (by omega) ?_) | (refine SW.seq_k fun K hK => ?_) | (refine SW.block ?_) | ((first | refine SW.region ?_ | refine SW.regionD (Checked.mixed Tryd.checked) (by kernel_rfl) ?_ | refine SW.cond ?_ | refine SW.skip ?_ | refine SW.exit ?_ | refine SW.ret ?_ | refine Call.of_pure (va) ?_ | refine ⟨_, va, ?_⟩ | (refine allF_i fun b hb => ?_; replace hD := And.intro hb hD; clear hb; try simp only [fresh_cons, fresh_nil, and_true, ne_eq, neF] at hD) | simp only [appK, appOsK]); try simp only [go_sem, hD, h1, h2]) | (refine And.intro (by omega) ?_) | (refine ifI (fun hc => ?_) (fun hc => ?_) <;> first | (exfalso; omega) | skip) | ((first | apply hK | ((iterate 1 (clear hK K)); apply hK) | ((iterate 2 (clear hK K)); apply hK) | ((iterate 3 (clear hK K)); apply hK) | ((iterate 4 (clear hK K)); apply hK) | ((iterate 5 (clear hK K)); apply hK)); clear hK K)
        refine ret_pure ?_; simp only [resL_tmp, resL_nil, tupOf, go_sem, hD]
      · rw [if_neg (by omega)]
        refine Call.enter' (N := 20) (rs := [.tmp 4]) Tryd.func30 rfl rfl rfl (by decide) rfl ?_; simp only [argT]; have hD : (0 : Nat) = 0 := rfl
        repeat' first | (with_reducible refine And.intro (by omega) ?_) | (refine SW.seq_k fun K hK => ?_) | (refine SW.block ?_) | ((first | refine SW.region ?_ | refine SW.regionD (Checked.mixed Tryd.checked) (by kernel_rfl) ?_ | refine SW.cond ?_ | refine SW.skip ?_ | refine SW.exit ?_ | refine SW.ret ?_ | refine Call.of_pure (va) ?_ | refine ⟨_, va, ?_⟩ | (refine allF_i fun b hb => ?_; replace hD := And.intro hb hD; clear hb; try simp only [fresh_cons, fresh_nil, and_true, ne_eq, neF] at hD) | simp only [appK, appOsK]); try simp only [go_sem, hD, h1, h2]) | (refine And.intro (by omega) ?_) | (refine ifI (fun hc => ?_) (fun hc => ?_) <;> first | (exfalso; omega) | skip) | ((first | apply hK | ((iterate 1 (clear hK K)); apply hK) | ((iterate 2 (clear hK K)); apply hK) | ((iterate 3 (clear hK K)); apply hK) | ((iterate 4 (clear hK K)); apply hK) | ((iterate 5 (clear hK K)); apply hK)); clear hK K)
        refine ret_pure ?_; simp only [resL_tmp, resL_nil, tupOf, go_sem, hD]
  · rw [if_neg h]
    generalize validS t = e at *
    refine Call.enter' (N := 20) (rs := [.tmp 4]) Tryd.func30 rfl rfl rfl (by decide) rfl ?_; simp only [argT]; have hD : (0 : Nat) = 0 := rfl
    repeat' first | (with_reducible refine And.intro (by omega) ?_) | (refine SW.seq_k fun K hK => ?_) | (refine SW.block ?_) | ((first | refine SW.region ?_ | refine SW.regionD (Checked.mixed Tryd.checked) (by kernel_rfl) ?_ | refine SW.cond ?_ | refine SW.skip ?_ | refine SW.exit ?_ | refine SW.ret ?_ | refine Call.of_pure (va) ?_ | refine ⟨_, va, ?_⟩ | (refine allF_i fun b hb => ?_; replace hD := And.intro hb hD; clear hb; try simp only [fresh_cons, fresh_nil, and_true, ne_eq, neF] at hD) | simp only [appK, appOsK]); try simp only [go_sem, hD, h]) | (refine And.intro (by omega) ?_) | (refine ifI (fun hc => ?_) (fun hc => ?_) <;> first | (exfalso; omega) | skip) | ((first | apply hK | ((iterate 1 (clear hK K)); apply hK) | ((iterate 2 (clear hK K)); apply hK) | ((iterate 3 (clear hK K)); apply hK) | ((iterate 4 (clear hK K)); apply hK) | ((iterate 5 (clear hK K)); apply hK)); clear hK K)
    refine ret_pure ?_; simp only [resL_tmp, resL_nil, tupOf, go_sem, hD]

theorem error_r (t : Tb) (a : Int) (hv : ∀ r ∈ t.rows, r.2.length ≤ 9223372036854775807) : PCall Tryd.prog 33 [TB t, I64 a] (I64 (chkS t a)) := by
  have va := valid_tr t hv
  unfold chkS
  by_cases h : validS t = 0
  · rw [if_pos h]
    rw [h] at va
    by_cases h1 : a < 0
    · rw [if_pos (.inl h1)]
      refine Call.enter' (N := 20) (rs := [.tmp 4]) Tryd.func33 rfl rfl rfl (by decide) rfl ?_; simp only [argT]; have hD : (0 : Nat) = 0 := rfl
      repeat' first | (with_reducible refine And.intro (by omega) ?_) | (refine SW.seq_k fun K hK => ?_) | (refine SW.block ?_) | ((first | refine SW.region ?_ | refine SW.regionD (Checked.mixed Tryd.checked) (by kernel_rfl) ?_ | refine SW.cond ?_ | refine SW.skip ?_ | refine SW.exit ?_ | refine SW.ret ?_ | refine Call.of_pure (va) ?_ | refine ⟨_, va, ?_⟩ | (refine allF_i fun b hb => ?_; replace hD := And.intro hb hD; clear hb; try simp only [fresh_cons, fresh_nil, and_true, ne_eq, neF] at hD) | simp only [appK, appOsK]); try simp only [go_sem, hD, h1]) | (refine And.intro (by omega) ?_) | (refine ifI (fun hc => ?_) (fun hc => ?_) <;> first | (exfalso; omega) | skip) | ((first | apply hK | ((iterate 1 (clear hK K)); apply hK) | ((iterate 2 (clear hK K)); apply hK) | ((iterate 3 (clear hK K)); apply hK) | ((iterate 4 (clear hK K)); apply hK) | ((iterate 5 (clear hK K)); apply hK)); clear hK K)
      refine ret_pure ?_; simp only [resL_tmp, resL_nil, tupOf, go_sem, hD]
    · by_cases h2 : (t.attrs.length : Int) ≤ a
      · rw [if_pos (.inr h2)]
        refine Call.enter' (N := 20) (rs := [.tmp 4]) Tryd.func33 rfl rfl rfl (by decide) rfl ?_; simp only [argT]; have hD : (0 : Nat) = 0 := rfl
        repeat' first | (with_reducible refine And.intro (by omega) ?_) | (refine SW.seq_k fun K hK => ?_) | (refine SW.block ?_) | ((first | refine SW.region ?_ | refine SW.regionD (Checked.mixed Tryd.checked) (by kernel_rfl) ?_ | refine SW.cond ?_ | refine SW.skip ?_ | refine SW.exit ?_ | refine SW.ret ?_ | refine Call.of_pure (va) ?_ | refine ⟨_, va, ?_⟩ | (refine allF_i fun b hb => ?_; replace hD := And.intro hb hD; clear hb; try simp only [fresh_cons, fresh_nil, and_true, ne_eq, neF] at hD) | simp only [appK, appOsK]); try simp only [go_sem, hD, h1, h2]) | (refine And.intro (by omega) ?_) | (refine ifI (fun hc => ?_) (fun hc => ?_) <;> first | (exfalso; omega) | skip) | ((first | apply hK | ((iterate 1 (clear hK K)); apply hK) | ((iterate 2 (clear hK K)); apply hK) | ((iterate 3 (clear hK K)); apply hK) | ((iterate 4 (clear hK K)); apply hK) | ((iterate 5 (clear hK K)); apply hK)); clear hK K)
        refine ret_pure ?_; simp only [resL_tmp, resL_nil, tupOf, go_sem, hD]
      · rw [if_neg (by omega)]
        refine Call.enter' (N := 20) (rs := [.tmp 4]) Tryd.func33 rfl rfl rfl (by decide) rfl ?_; simp only [argT]; have hD : (0 : Nat) = 0 := rfl
        repeat' first | (with_reducible refine And.intro (by omega) ?_) | (refine SW.seq_k fun K hK => ?_) | (refine SW.block ?_) | ((first | refine SW.region ?_ | refine SW.regionD (Checked.mixed Tryd.checked) (by kernel_rfl) ?_ | refine SW.cond ?_ | refine SW.skip ?_ | refine SW.exit ?_ | refine SW.ret ?_ | refine Call.of_pure (va) ?_ | refine ⟨_, va, ?_⟩ | (refine allF_i fun b hb => ?_; replace hD := And.intro hb hD; clear hb; try simp only [fresh_cons, fresh_nil, and_true, ne_eq, neF] at hD) | simp only [appK, appOsK]); try simp only [go_sem, hD, h1, h2]) | (refine And.intro (by omega) ?_) | (refine ifI (fun hc => ?_) (fun hc => ?_) <;> first | (exfalso; omega) | skip) | ((first | apply hK | ((iterate 1 (clear hK K)); apply hK) | ((iterate 2 (clear hK K)); apply hK) | ((iterate 3 (clear hK K)); apply hK) | ((iterate 4 (clear hK K)); apply hK) | ((iterate 5 (clear hK K)); apply hK)); clear hK K)
        refine ret_pure ?_; simp only [resL_tmp, resL_nil, tupOf, go_sem, hD]
  · rw [if_neg h]
    generalize validS t = e at *
    refine Call.enter' (N := 20) (rs := [.tmp 4]) Tryd.func33 rfl rfl rfl (by decide) rfl ?_; simp only [argT]; have hD : (0 : Nat) = 0 := rfl
    repeat' first | (with_reducible refine And.intro (by omega) ?_) | (refine SW.seq_k fun K hK => ?_) | (refine SW.block ?_) | ((first | refine SW.region ?_ | refine SW.regionD (Checked.mixed Tryd.checked) (by kernel_rfl) ?_ | refine SW.cond ?_ | refine SW.skip ?_ | refine SW.exit ?_ | refine SW.ret ?_ | refine Call.of_pure (va) ?_ | refine ⟨_, va, ?_⟩ | (refine allF_i fun b hb => ?_; replace hD := And.intro hb hD; clear hb; try simp only [fresh_cons, fresh_nil, and_true, ne_eq, neF] at hD) | simp only [appK, appOsK]); try simp only [go_sem, hD, h]) | (refine And.intro (by omega) ?_) | (refine ifI (fun hc => ?_) (fun hc => ?_) <;> first | (exfalso; omega) | skip) | ((first | apply hK | ((iterate 1 (clear hK K)); apply hK) | ((iterate 2 (clear hK K)); apply hK) | ((iterate 3 (clear hK K)); apply hK) | ((iterate 4 (clear hK K)); apply hK) | ((iterate 5 (clear hK K)); apply hK)); clear hK K)
    refine ret_pure ?_; simp only [resL_tmp, resL_nil, tupOf, go_sem, hD]

theorem hist_p_bad (t : Tb) (a : Int) (h : ¬ chkS t a = 0) : PCall Tryd.prog 20 [TB t, I64 a] (.tup [VL [], NL [], I64 (chkS t a)]) := by
  have va := checked_p t a
  generalize chkS t a = e at *
  refine Call.enter' (N := 25) (rs := [.tmp 4, .tmp 5, .tmp 6]) Tryd.func20 rfl rfl rfl (by decide) rfl ?_; simp only [argT]; have hD : (0 : Nat) = 0 := rfl
  repeat' first | (with_reducible refine And.intro (by omega) ?_) | (refine SW.seq_k fun K hK => ?_) | (refine SW.block ?_) | ((first | refine SW.region ?_ | refine SW.regionD (Checked.mixed Tryd.checked) (by kernel_rfl) ?_ | refine SW.cond ?_ | refine SW.skip ?_ | refine SW.exit ?_ | refine SW.ret ?_ | refine Call.of_pure (va) ?_ | refine ⟨_, va, ?_⟩ | (refine allF_i fun b hb => ?_; replace hD := And.intro hb hD; clear hb; try simp only [fresh_cons, fresh_nil, and_true, ne_eq, neF] at hD) | simp only [appK, appOsK]); try simp only [go_sem, hD, h]) | (refine And.intro (by omega) ?_) | (refine ifI (fun hc => ?_) (fun hc => ?_) <;> first | (exfalso; omega) | skip) | ((first | apply hK | ((iterate 1 (clear hK K)); apply hK) | ((iterate 2 (clear hK K)); apply hK) | ((iterate 3 (clear hK K)); apply hK) | ((iterate 4 (clear hK K)); apply hK) | ((iterate 5 (clear hK K)); apply hK)); clear hK K)
  refine retQ_le ((St.le_nil_fl (i := 4) (sz := 3) (f := vF []) rfl).trans (St.le_nil_fl (i := 5) (sz := 1) (f := fun j => [I64 (([] : List Int).getD j 0)]) rfl)) ?_
  simp only [resL_tmp, resL_nil, tupOf, go_sem, hD]
  rfl
theorem hist_r_bad (t : Tb) (a : Int) (hv : ∀ r ∈ t.rows, r.2.length ≤ 9223372036854775807) (h : ¬ chkS t a = 0) : PCall Tryd.prog 21 [TB t, I64 a] (.tup [VL [], NL [], I64 (chkS t a)]) := by
  have va := error_r t a hv
  generalize chkS t a = e at *
  refine Call.enter' (N := 61) (rs := [.tmp 4, .tmp 5, .tmp 6]) Tryd.func21 rfl rfl rfl (by decide) rfl ?_; simp only [argT]; have hD : (0 : Nat) = 0 := rfl
  repeat' first | (with_reducible refine And.intro (by omega) ?_) | (refine SW.seq_k fun K hK => ?_) | (refine SW.block ?_) | ((first | refine SW.region ?_ | refine SW.regionD (Checked.mixed Tryd.checked) (by kernel_rfl) ?_ | refine SW.cond ?_ | refine SW.skip ?_ | refine SW.exit ?_ | refine SW.ret ?_ | refine Call.of_pure (va) ?_ | refine ⟨_, va, ?_⟩ | (refine allF_i fun b hb => ?_; replace hD := And.intro hb hD; clear hb; try simp only [fresh_cons, fresh_nil, and_true, ne_eq, neF] at hD) | simp only [appK, appOsK]); try simp only [go_sem, hD, h]) | (refine And.intro (by omega) ?_) | (refine ifI (fun hc => ?_) (fun hc => ?_) <;> first | (exfalso; omega) | skip) | ((first | apply hK | ((iterate 1 (clear hK K)); apply hK) | ((iterate 2 (clear hK K)); apply hK) | ((iterate 3 (clear hK K)); apply hK) | ((iterate 4 (clear hK K)); apply hK) | ((iterate 5 (clear hK K)); apply hK)); clear hK K)
  refine retQ_le ((St.le_nil_fl (i := 4) (sz := 3) (f := vF []) rfl).trans (St.le_nil_fl (i := 5) (sz := 1) (f := fun j => [I64 (([] : List Int).getD j 0)]) rfl)) ?_
  simp only [resL_tmp, resL_nil, tupOf, go_sem, hD]
  rfl

theorem hist_p (t : Tb) (a : Nat) (h : chkS t a = 0) (hl : t.rows.length ≤ 1000000) (ha : ∀ r ∈ t.rows, a < r.2.length) : PCall Tryd.prog 20 [TB t, I64 a] (.tup [VL (vals (histS (colS t a))), NL (nums (histS (colS t a))), I64 0]) := by
  have va := checked_p t a
  rw [h] at va
  have co := column_p t a hl ha
  have hh := histogram_p (colS t a) (by unfold colS; rw [sortV_len, List.length_map]; exact hl)
  generalize histS (colS t a) = H at *
  generalize colS t a = C at *
  refine Call.enter' (N := 25) (rs := [.tmp 4, .tmp 5, .tmp 6]) Tryd.func20 rfl rfl rfl (by decide) rfl ?_; simp only [argT]; have hD : (0 : Nat) = 0 := rfl
  repeat' first | (with_reducible refine And.intro (by omega) ?_) | (refine SW.seq_k fun K hK => ?_) | (refine SW.block ?_) | ((first | refine SW.region ?_ | refine SW.regionD (Checked.mixed Tryd.checked) (by kernel_rfl) ?_ | refine SW.cond ?_ | refine SW.skip ?_ | refine SW.exit ?_ | refine SW.ret ?_ | refine Call.of_pure (va) ?_ | refine ⟨_, va, ?_⟩ | refine Call.of_pure (co) ?_ | refine ⟨_, co, ?_⟩ | refine Call.of_pure (hh) ?_ | refine ⟨_, hh, ?_⟩ | (refine allF_i fun b hb => ?_; replace hD := And.intro hb hD; clear hb; try simp only [fresh_cons, fresh_nil, and_true, ne_eq, neF] at hD) | simp only [appK, appOsK]); try simp only [go_sem, hD]) | (refine And.intro (by omega) ?_) | (refine ifI (fun hc => ?_) (fun hc => ?_) <;> first | (exfalso; omega) | skip) | ((first | apply hK | ((iterate 1 (clear hK K)); apply hK) | ((iterate 2 (clear hK K)); apply hK) | ((iterate 3 (clear hK K)); apply hK) | ((iterate 4 (clear hK K)); apply hK) | ((iterate 5 (clear hK K)); apply hK)); clear hK K)
  refine ret_pure ?_; simp only [resL_tmp, resL_nil, tupOf, go_sem, hD]

set_option maxHeartbeats 2000000 in
set_option maxRecDepth 20000 in
theorem hist_r (t : Tb) (a : Nat) (h : chkS t a = 0) (hv : ∀ r ∈ t.rows, r.2.length ≤ 9223372036854775807) (hl : t.rows.length ≤ 1000000) (ha : ∀ r ∈ t.rows, a < r.2.length ∧ (∀ v ∈ r.2, v.2.2.size ≤ 9223372036854775807)) : PCall Tryd.prog 21 [TB t, I64 a] (.tup [VL (vals (histS (colS t a))), NL (nums (histS (colS t a))), I64 0]) := by
  have va := error_r t a hv
  rw [h] at va
  have co := column_r t a hl ha
  obtain ⟨X, hX⟩ : ∃ X, X = histS (colS t a) := ⟨_, rfl⟩
  rw [← hX]
  have hC0 : X = ((colS t a).drop 0).foldl hAdd [] := hX
  have hl : (colS t a).length ≤ 1000000 := by unfold colS; rw [sortV_len, List.length_map]; exact hl
  clear hX
  generalize colS t a = l at *
  refine Call.enter' (N := 61) (rs := [.tmp 4, .tmp 5, .tmp 6]) Tryd.func21 rfl rfl rfl (by decide) rfl ?_; simp only [argT]; have hD : (0 : Nat) = 0 := rfl
  repeat' first | (with_reducible refine And.intro (by omega) ?_) | (refine SW.seq_k fun K hK => ?_) | (refine SW.block ?_) | ((first | refine SW.region ?_ | refine SW.regionD (Checked.mixed Tryd.checked) (by kernel_rfl) ?_ | refine SW.cond ?_ | refine SW.skip ?_ | refine SW.exit ?_ | refine SW.ret ?_ | refine Call.of_pure (va) ?_ | refine ⟨_, va, ?_⟩ | refine Call.of_pure (co) ?_ | refine ⟨_, co, ?_⟩ | (refine allF_i fun b hb => ?_; replace hD := And.intro hb hD; clear hb; try simp only [fresh_cons, fresh_nil, and_true, ne_eq, neF] at hD) | simp only [appK, appOsK]); try simp only [go_sem, hD]) | (refine And.intro (by omega) ?_) | (refine ifI (fun hc => ?_) (fun hc => ?_) <;> first | (exfalso; omega) | skip) | ((first | apply hK | ((iterate 1 (clear hK K)); apply hK) | ((iterate 2 (clear hK K)); apply hK) | ((iterate 3 (clear hK K)); apply hK) | ((iterate 4 (clear hK K)); apply hK) | ((iterate 5 (clear hK K)); apply hK)); clear hK K)
  refine Ab.SW.le St.le_drop ?_
  obtain ⟨I, hI⟩ : ∃ I : Nat → St → Prop, ∀ k S, I k S ↔ (∃ (i : Nat) (R : List (V3 × Int)) (x y : SV) (h : Heap), k = l.length - i ∧ i ≤ l.length ∧ R.length ≤ i ∧ X = (l.drop i).foldl hAdd R ∧ (∀ p ∈ R, 0 ≤ p.2 ∧ p.2 ≤ i) ∧ (0 < i → ∃ R' n, R = R' ++ [(l.getD (i - 1) v0, n)]) ∧ HB x y h R ∧ S = ⟨[(8, x), (9, y), (10, VL l), (11, I64 i)], h⟩) := ⟨fun k S => _, fun _ _ => Iff.rfl⟩
  refine SW.loop' I l.length ((hI _ _).2 ⟨0, [], _, _, _, rfl, Nat.zero_le _, Nat.le_refl _, hC0, fun p hp => absurd hp List.not_mem_nil, fun x => absurd x (Nat.lt_irrefl 0), .inl ⟨rfl, rfl, rfl, rfl⟩, rfl⟩) (by repeat' (first | exact rfl | exact trivial | exact int_eq (by omega) | exact int_eq (by (rw [i64_wrap] <;> omega)) | constructor)) ?_
  clear hC0
  intro k S hIn
  obtain ⟨i, R, x, y, h, rfl, hi, hR, hC, hN, hLa, hB, rfl⟩ := (hI _ _).1 hIn
  clear hIn
  have ie : ((i : Nat) : Int).toNat = i := Int.toNat_natCast _
  have i0 : (0 : Int) ≤ ((i : Nat) : Int) := by omega
  have w01 : IntKind.i64.wrap ((0 : Int) + 1) = 1 := by rw [i64_wrap (by omega) (by omega)]; rfl
  by_cases hlt : i < l.length
  · have hli : ((i : Nat) : Int) < (((l.length) : Nat) : Int) := by omega
    have w1 : IntKind.i64.wrap ((i : Int) + 1) = ((i + 1 : Nat) : Int) := by rw [i64_wrap (by omega) (by omega)]; omega
    have hg : l.getD i v0 = l[i] := by simp [List.getD_eq_getElem?_getD, hlt]
    have hd : l.drop i = l.getD i v0 :: l.drop (i + 1) := by rw [List.drop_eq_getElem_cons hlt, hg]
    rw [hd, List.foldl_cons] at hC
    obtain ⟨vk, vn, vt, hv⟩ : ∃ k n t, l.getD i v0 = (k, n, t) := ⟨_, _, _, rfl⟩
    have tv : vF l i = [I64 vk, I64 vn, Str vt] := by unfold vF; rw [hv]
    rw [hv] at hC
    have hlen := hAdd_len R (vk, vn, vt)
    have hne := hAdd_ne R (vk, vn, vt)
    rcases Nat.eq_zero_or_pos i with hi0 | hi0
    · have hRn : R = [] := List.eq_nil_of_length_eq_zero (by omega)
      subst hRn
      subst hi0
      rcases hB with ⟨_, rfl, rfl, rfl⟩ | ⟨hR0, _⟩
      · have hA : hAdd [] (vk, vn, vt) = [((vk, vn, vt), 1)] := rfl
        rw [hA] at hC hlen hne
        have w10 : IntKind.i64.wrap (((1 : Nat) : Int) - 1) = 0 := by rw [i64_wrap (by omega) (by omega)]; rfl
        have z1 : ((0 : Nat) : Int) = 0 := rfl
        repeat' first | (with_reducible refine And.intro (by omega) ?_) | (refine SW.seq_k fun K hK => ?_) | (refine SW.block ?_) | ((first | refine SW.region ?_ | refine SW.regionZ (id := 10) (Checked.mixed Tryd.checked) ((.one 0 [0, 1, 2, 3, 4, 5, 6, 7, 8, 9, 10, 11, 12, 13] (.one 1 [1, 2, 3, 4, 5, 6, 7, 8, 9, 10, 11, 12, 13] (.one 2 [2, 3, 4, 5, 6, 7, 8, 9, 10, 11, 12, 13] (.one 3 [3, 5, 6, 12, 13] (.one 4 [4, 5, 6, 12, 13] (.one 5 [5, 6, 12, 13] (.one 6 [6, 12, 13] (.one 7 [7, 10, 11, 12, 13] (.one 8 [8, 9, 10, 11, 12, 13] (.one 9 [9, 10, 11, 12, 13] (.one 10 [10, 11, 12, 13] (.one 11 [11, 12, 13] (.one 12 [12, 13] (.one 13 [13] .done)))))))))))))) : OZ) (by kernel_rfl) ?_ | refine SW.regionD (Checked.mixed Tryd.checked) (by kernel_rfl) ?_ | refine SW.cond ?_ | refine SW.skip ?_ | refine SW.exit ?_ | refine SW.ret ?_ | (refine allF_i fun b hb => ?_; replace hD := And.intro hb hD; clear hb; try simp only [fresh_cons, fresh_nil, and_true, ne_eq, neF] at hD) | simp only [appK, appOsK]); try simp only [go_sem, hD, hli, ie, i0, w1, w01, w10, tv, z1, true_implies]) | (refine And.intro (by omega) ?_) | (refine ifI (fun hc => ?_) (fun hc => ?_) <;> first | (exfalso; omega) | skip) | ((first | apply hK | ((iterate 1 (clear hK K)); apply hK) | ((iterate 2 (clear hK K)); apply hK) | ((iterate 3 (clear hK K)); apply hK) | ((iterate 4 (clear hK K)); apply hK) | ((iterate 5 (clear hK K)); apply hK)); clear hK K) | (refine And.intro ?_ ?_)
        refine Rnd.le (St.le_two 8 9 rfl rfl (k := .svs (vCs [(vk, vn, vt)])) (m := .ints .i64 [1]) (by repeat (first | exact List.mem_cons_self | apply List.mem_cons_of_mem)) (by repeat (first | exact List.mem_cons_self | apply List.mem_cons_of_mem)) (by simp [hD])) ?_
        refine Rnd.sub (l.length - (0 + 1)) (by omega) ((hI _ _).2 ⟨0 + 1, [((vk, vn, vt), 1)], _, _, _, rfl, by omega, by simp, hC, by simp, fun _ => ⟨[], 1, by rw [show l.getD (0 + 1 - 1) v0 = l.getD 0 v0 from rfl, hv]; rfl⟩, .inr ⟨hne, _, _, by simp [hD], rfl, rfl, rfl⟩, rfl⟩) (by repeat' (first | exact rfl | exact trivial | exact int_eq (by omega) | exact int_eq (by (rw [i64_wrap] <;> omega)) | constructor))
      · exact absurd rfl hR0
    · obtain ⟨R', n, rfl⟩ := hLa hi0
      clear hLa
      rcases hB with ⟨e, _⟩ | ⟨hR0, b1, b2, hb, rfl, rfl, rfl⟩
      · exact absurd e (by simp)
      · obtain ⟨uk, un, ut, hu⟩ : ∃ k n t, l.getD (i - 1) v0 = (k, n, t) := ⟨_, _, _, rfl⟩
        rw [hu] at hR hN hC hlen hne hR0
        rw [hu]
        have tu : vF l (i - 1) = [I64 uk, I64 un, Str ut] := by unfold vF; rw [hu]
        have wi : IntKind.i64.wrap (((i : Nat) : Int) - 1) = ((i - 1 : Nat) : Int) := by rw [i64_wrap (by omega) (by omega)]; omega
        have ui : ((i - 1 : Nat) : Int).toNat = i - 1 := Int.toNat_natCast _
        have ui0 : (0 : Int) ≤ ((i - 1 : Nat) : Int) := by omega
        have uil : ((i - 1 : Nat) : Int) < ((l.length : Nat) : Int) := by omega
        have iz : ¬ ((i : Nat) : Int) = 0 := by omega
        have hl2 : (R' ++ [((uk, un, ut), n)]).length = R'.length + 1 := by simp
        have hv2 : vals (R' ++ [((uk, un, ut), n)]) = vals R' ++ [(uk, un, ut)] := by simp [vals]
        have hn2 : nums (R' ++ [((uk, un, ut), n)]) = nums R' ++ [n] := by simp [nums]
        rw [hl2, hv2, hn2]
        rw [hl2] at hR hlen
        have wj : IntKind.i64.wrap (((R'.length + 1 : Nat) : Int) - 1) = ((R'.length : Nat) : Int) := by rw [i64_wrap (by omega) (by omega)]; omega
        have je : ((R'.length : Nat) : Int).toNat = R'.length := Int.toNat_natCast _
        have j1 : (0 : Int) ≤ ((R'.length : Nat) : Int) := by omega
        have j2 : ((R'.length : Nat) : Int) < ((R'.length + 1 : Nat) : Int) := by omega
        have hvl : (vals R').length = R'.length := by simp [vals]
        have hnl : (nums R').length = R'.length := by simp [nums]
        have c0 : (vCs (vals R' ++ [(uk, un, ut)])).length = (R'.length + 1) * 3 := by rw [← vCs_len, List.length_append, hvl]; rfl
        have hb2 : ¬ b2 = b1 := fun e => hb e.symm
        have gn : (nums R' ++ [n]).getD R'.length 0 = n := by simp [List.getD_eq_getElem?_getD, hnl]
        have hnn := hN ((uk, un, ut), n) (List.mem_append_right _ (List.mem_singleton.2 rfl))
        simp only at hnn
        have wn : IntKind.i64.wrap (n + 1) = n + 1 := by rw [i64_wrap (by omega) (by omega)]
        by_cases hq : ((uk, un, ut) : V3) = (vk, vn, vt)
        · simp only [Prod.mk.injEq] at hq
          obtain ⟨rfl, rfl, rfl⟩ := hq
          have bq : (ut.toList == ut.toList) = true := by rw [beq_self_eq_true]
          repeat' first | (with_reducible refine And.intro (by omega) ?_) | (refine SW.seq_k fun K hK => ?_) | (refine SW.block ?_) | ((first | refine SW.region ?_ | refine SW.regionZ (id := 10) (Checked.mixed Tryd.checked) ((.one 0 [0, 1, 2, 3, 4, 5, 6, 7, 8, 9, 10, 11, 12, 13] (.one 1 [1, 2, 3, 4, 5, 6, 7, 8, 9, 10, 11, 12, 13] (.one 2 [2, 3, 4, 5, 6, 7, 8, 9, 10, 11, 12, 13] (.one 3 [3, 5, 6, 12, 13] (.one 4 [4, 5, 6, 12, 13] (.one 5 [5, 6, 12, 13] (.one 6 [6, 12, 13] (.one 7 [7, 10, 11, 12, 13] (.one 8 [8, 9, 10, 11, 12, 13] (.one 9 [9, 10, 11, 12, 13] (.one 10 [10, 11, 12, 13] (.one 11 [11, 12, 13] (.one 12 [12, 13] (.one 13 [13] .done)))))))))))))) : OZ) (by kernel_rfl) ?_ | refine SW.regionD (Checked.mixed Tryd.checked) (by kernel_rfl) ?_ | refine SW.cond ?_ | refine SW.skip ?_ | refine SW.exit ?_ | refine SW.ret ?_ | (refine allF_i fun b hb => ?_; replace hD := And.intro hb hD; clear hb; try simp only [fresh_cons, fresh_nil, and_true, ne_eq, neF] at hD) | simp only [appK, appOsK]); try simp only [go_sem, hD, hli, ie, i0, w1, tv, tu, wi, ui, ui0, uil, iz, wj, je, j1, j2, true_implies, c0, hb, hb2, gn, wn, bq]) | (refine And.intro (by omega) ?_) | (refine ifI (fun hc => ?_) (fun hc => ?_) <;> first | (exfalso; omega) | skip) | ((first | apply hK | ((iterate 1 (clear hK K)); apply hK) | ((iterate 2 (clear hK K)); apply hK) | ((iterate 3 (clear hK K)); apply hK) | ((iterate 4 (clear hK K)); apply hK) | ((iterate 5 (clear hK K)); apply hK)); clear hK K) | (refine And.intro ?_ ?_)
          rw [hAdd_same] at hC hlen hne
          refine Rnd.le (St.le_two 8 9 rfl rfl (k := .svs (vCs (vals R' ++ [(uk, un, ut)]))) (m := .ints .i64 ((nums R' ++ [n]).set R'.length (n + 1))) ?_ ?_ hb) ?_
          · repeat (first | exact List.mem_cons_self | apply List.mem_cons_of_mem)
          · repeat (first | exact List.mem_cons_self | apply List.mem_cons_of_mem)
          refine Rnd.sub (l.length - (i + 1)) (by omega) ((hI _ _).2 ⟨i + 1, R' ++ [((uk, un, ut), n + 1)], .os b1 0 (R'.length + 1) 3, .os b2 0 (R'.length + 1) 1, _, rfl, by omega, by simp; omega, hC, fun p hp => ?_, fun _ => ⟨R', n + 1, by rw [Nat.add_sub_cancel, hv]⟩, .inr ⟨hne, b1, b2, hb, by simp, by simp, ?_⟩, rfl⟩) (by repeat' (first | exact rfl | exact trivial | exact int_eq (by omega) | exact int_eq (by (rw [i64_wrap] <;> omega)) | constructor))
          · rcases List.mem_append.1 hp with hp | hp
            · have := hN p (List.mem_append_left _ hp)
              omega
            · rw [List.mem_singleton.1 hp]
              simp only
              omega
          · have e1 : vals (R' ++ [((uk, un, ut), n + 1)]) = vals R' ++ [(uk, un, ut)] := by simp [vals]
            have e2 : nums (R' ++ [((uk, un, ut), n + 1)]) = (nums R' ++ [n]).set R'.length (n + 1) := by
              rw [← hnl, List.set_append_right _ _ (Nat.le_refl _), Nat.sub_self]
              simp [nums]
            rw [e1, e2]
        · have ways : (¬ vk = uk) ∨ (vk = uk ∧ ¬ vn = un) ∨ (vk = uk ∧ vn = un ∧ ¬ vt = ut) := by
            simp only [Prod.mk.injEq] at hq
            by_cases h1 : vk = uk
            · by_cases h2 : vn = un
              · exact .inr (.inr ⟨h1, h2, fun h3 => hq ⟨h1.symm, h2.symm, h3.symm⟩⟩)
              · exact .inr (.inl ⟨h1, h2⟩)
            · exact .inl h1
          rw [hAdd_new _ _ _ _ hq] at hC hlen hne
          have ba : (R'.length + 1 + 1) * 32 ≤ 140737488355328 := by omega
          have bb : (R'.length + 1 + 1) * 8 ≤ 140737488355328 := by omega
          have wj2 : IntKind.i64.wrap (((R'.length + 1 + 1 : Nat) : Int) - 1) = ((R'.length + 1 : Nat) : Int) := by rw [i64_wrap (by omega) (by omega)]; omega
          have je2 : ((R'.length + 1 : Nat) : Int).toNat = R'.length + 1 := Int.toNat_natCast _
          have j12 : (0 : Int) ≤ ((R'.length + 1 : Nat) : Int) := by omega
          have j22 : ((R'.length + 1 : Nat) : Int) < ((R'.length + 1 + 1 : Nat) : Int) := by omega
          have gn2 : (nums R' ++ [n] ++ [0]).getD (R'.length + 1) 0 = 0 := by simp [List.getD_eq_getElem?_getD, hnl]
          have sn2 : (nums R' ++ [n] ++ [0]).set (R'.length + 1) 1 = nums R' ++ [n] ++ [1] := by
            rw [← hnl, List.set_append_right _ _ (by simp)]
            simp
          have nl2 : (nums R' ++ [n] ++ [0]).length = R'.length + 1 + 1 := by simp [hnl]
          have fin : ∀ b3 b4, ¬ b3 = b4 → HB (.os b3 0 (R'.length + 1 + 1) 3) (.os b4 0 (R'.length + 1 + 1) 1) [(b3, .svs (vCs (vals R' ++ [(uk, un, ut)]) ++ vC (vk, vn, vt))), (b4, .ints .i64 (nums R' ++ [n] ++ [1]))] (R' ++ [((uk, un, ut), n)] ++ [((vk, vn, vt), 1)]) := fun b3 b4 h34 => by
            refine .inr ⟨hne, b3, b4, h34, by simp, by simp, ?_⟩
            have e1 : vals (R' ++ [((uk, un, ut), n)] ++ [((vk, vn, vt), 1)]) = vals R' ++ [(uk, un, ut)] ++ [(vk, vn, vt)] := by simp [vals]
            have e2 : nums (R' ++ [((uk, un, ut), n)] ++ [((vk, vn, vt), 1)]) = nums R' ++ [n] ++ [1] := by simp [nums]
            rw [e1, e2, vCs_snoc]
          have hNN : ∀ p ∈ R' ++ [((uk, un, ut), n)] ++ [((vk, vn, vt), (1 : Int))], 0 ≤ p.2 ∧ p.2 ≤ ((i + 1 : Nat) : Int) := fun p hp => by
            rcases List.mem_append.1 hp with hp | hp
            · have := hN p hp
              omega
            · rw [List.mem_singleton.1 hp]
              simp only
              omega
          have hlast : 0 < i + 1 → ∃ R'' n', R' ++ [((uk, un, ut), n)] ++ [((vk, vn, vt), (1 : Int))] = R'' ++ [(l.getD (i + 1 - 1) v0, n')] := fun _ => ⟨_, 1, by rw [Nat.add_sub_cancel, hv]⟩
          rcases ways with q1 | ⟨q0, q1⟩ | ⟨q0, q3, q1⟩
          · repeat' first | (with_reducible refine And.intro (by omega) ?_) | (refine SW.seq_k fun K hK => ?_) | (refine SW.block ?_) | ((first | refine SW.region ?_ | refine SW.regionZ (id := 10) (Checked.mixed Tryd.checked) ((.one 0 [0, 1, 2, 3, 4, 5, 6, 7, 8, 9, 10, 11, 12, 13] (.one 1 [1, 2, 3, 4, 5, 6, 7, 8, 9, 10, 11, 12, 13] (.one 2 [2, 3, 4, 5, 6, 7, 8, 9, 10, 11, 12, 13] (.one 3 [3, 5, 6, 12, 13] (.one 4 [4, 5, 6, 12, 13] (.one 5 [5, 6, 12, 13] (.one 6 [6, 12, 13] (.one 7 [7, 10, 11, 12, 13] (.one 8 [8, 9, 10, 11, 12, 13] (.one 9 [9, 10, 11, 12, 13] (.one 10 [10, 11, 12, 13] (.one 11 [11, 12, 13] (.one 12 [12, 13] (.one 13 [13] .done)))))))))))))) : OZ) (by kernel_rfl) ?_ | refine SW.regionD (Checked.mixed Tryd.checked) (by kernel_rfl) ?_ | refine SW.cond ?_ | refine SW.skip ?_ | refine SW.exit ?_ | refine SW.ret ?_ | (refine allF_i fun b hb => ?_; replace hD := And.intro hb hD; clear hb; try simp only [fresh_cons, fresh_nil, and_true, ne_eq, neF] at hD) | simp only [appK, appOsK]); try simp only [go_sem, hD, hli, ie, i0, w1, w01, tv, tu, wi, ui, ui0, uil, iz, wj, je, j1, j2, wj2, je2, j12, j22, gn2, sn2, nl2, true_implies, c0, hb, hb2, q1, ba, bb]) | (refine And.intro (by omega) ?_) | (refine ifI (fun hc => ?_) (fun hc => ?_) <;> first | (exfalso; omega) | skip) | ((first | apply hK | ((iterate 1 (clear hK K)); apply hK) | ((iterate 2 (clear hK K)); apply hK) | ((iterate 3 (clear hK K)); apply hK) | ((iterate 4 (clear hK K)); apply hK) | ((iterate 5 (clear hK K)); apply hK)); clear hK K) | (refine And.intro ?_ ?_)
            refine Rnd.le (St.le_two 8 9 rfl rfl (k := .svs (vCs (vals R' ++ [(uk, un, ut)]) ++ vC (vk, vn, vt))) (m := .ints .i64 (nums R' ++ [n] ++ [1])) ?_ ?_ ?_) ?_
            · repeat (first | exact List.mem_cons_self | apply List.mem_cons_of_mem)
            · repeat (first | exact List.mem_cons_self | apply List.mem_cons_of_mem)
            · simp [hD]
            refine Rnd.sub (l.length - (i + 1)) (by omega) ((hI _ _).2 ⟨i + 1, R' ++ [((uk, un, ut), n)] ++ [((vk, vn, vt), 1)], _, _, _, rfl, by omega, by simp; omega, hC, hNN, hlast, fin _ _ (by simp [hD]), rfl⟩) (by repeat' (first | exact rfl | exact trivial | exact int_eq (by omega) | exact int_eq (by (rw [i64_wrap] <;> omega)) | constructor))
          · have p0 := eq_true q0
            repeat' first | (with_reducible refine And.intro (by omega) ?_) | (refine SW.seq_k fun K hK => ?_) | (refine SW.block ?_) | ((first | refine SW.region ?_ | refine SW.regionZ (id := 10) (Checked.mixed Tryd.checked) ((.one 0 [0, 1, 2, 3, 4, 5, 6, 7, 8, 9, 10, 11, 12, 13] (.one 1 [1, 2, 3, 4, 5, 6, 7, 8, 9, 10, 11, 12, 13] (.one 2 [2, 3, 4, 5, 6, 7, 8, 9, 10, 11, 12, 13] (.one 3 [3, 5, 6, 12, 13] (.one 4 [4, 5, 6, 12, 13] (.one 5 [5, 6, 12, 13] (.one 6 [6, 12, 13] (.one 7 [7, 10, 11, 12, 13] (.one 8 [8, 9, 10, 11, 12, 13] (.one 9 [9, 10, 11, 12, 13] (.one 10 [10, 11, 12, 13] (.one 11 [11, 12, 13] (.one 12 [12, 13] (.one 13 [13] .done)))))))))))))) : OZ) (by kernel_rfl) ?_ | refine SW.regionD (Checked.mixed Tryd.checked) (by kernel_rfl) ?_ | refine SW.cond ?_ | refine SW.skip ?_ | refine SW.exit ?_ | refine SW.ret ?_ | (refine allF_i fun b hb => ?_; replace hD := And.intro hb hD; clear hb; try simp only [fresh_cons, fresh_nil, and_true, ne_eq, neF] at hD) | simp only [appK, appOsK]); try simp only [go_sem, hD, hli, ie, i0, w1, w01, tv, tu, wi, ui, ui0, uil, iz, wj, je, j1, j2, wj2, je2, j12, j22, gn2, sn2, nl2, true_implies, c0, hb, hb2, p0, q1, ba, bb]) | (refine And.intro (by omega) ?_) | (refine ifI (fun hc => ?_) (fun hc => ?_) <;> first | (exfalso; omega) | skip) | ((first | apply hK | ((iterate 1 (clear hK K)); apply hK) | ((iterate 2 (clear hK K)); apply hK) | ((iterate 3 (clear hK K)); apply hK) | ((iterate 4 (clear hK K)); apply hK) | ((iterate 5 (clear hK K)); apply hK)); clear hK K) | (refine And.intro ?_ ?_)
            refine Rnd.le (St.le_two 8 9 rfl rfl (k := .svs (vCs (vals R' ++ [(uk, un, ut)]) ++ vC (vk, vn, vt))) (m := .ints .i64 (nums R' ++ [n] ++ [1])) ?_ ?_ ?_) ?_
            · repeat (first | exact List.mem_cons_self | apply List.mem_cons_of_mem)
            · repeat (first | exact List.mem_cons_self | apply List.mem_cons_of_mem)
            · simp [hD]
            refine Rnd.sub (l.length - (i + 1)) (by omega) ((hI _ _).2 ⟨i + 1, R' ++ [((uk, un, ut), n)] ++ [((vk, vn, vt), 1)], _, _, _, rfl, by omega, by simp; omega, hC, hNN, hlast, fin _ _ (by simp [hD]), rfl⟩) (by repeat' (first | exact rfl | exact trivial | exact int_eq (by omega) | exact int_eq (by (rw [i64_wrap] <;> omega)) | constructor))
          · have q2 := str_ne q1
            have p0 := eq_true q0
            have p3 := eq_true q3
            repeat' first | (with_reducible refine And.intro (by omega) ?_) | (refine SW.seq_k fun K hK => ?_) | (refine SW.block ?_) | ((first | refine SW.region ?_ | refine SW.regionZ (id := 10) (Checked.mixed Tryd.checked) ((.one 0 [0, 1, 2, 3, 4, 5, 6, 7, 8, 9, 10, 11, 12, 13] (.one 1 [1, 2, 3, 4, 5, 6, 7, 8, 9, 10, 11, 12, 13] (.one 2 [2, 3, 4, 5, 6, 7, 8, 9, 10, 11, 12, 13] (.one 3 [3, 5, 6, 12, 13] (.one 4 [4, 5, 6, 12, 13] (.one 5 [5, 6, 12, 13] (.one 6 [6, 12, 13] (.one 7 [7, 10, 11, 12, 13] (.one 8 [8, 9, 10, 11, 12, 13] (.one 9 [9, 10, 11, 12, 13] (.one 10 [10, 11, 12, 13] (.one 11 [11, 12, 13] (.one 12 [12, 13] (.one 13 [13] .done)))))))))))))) : OZ) (by kernel_rfl) ?_ | refine SW.regionD (Checked.mixed Tryd.checked) (by kernel_rfl) ?_ | refine SW.cond ?_ | refine SW.skip ?_ | refine SW.exit ?_ | refine SW.ret ?_ | (refine allF_i fun b hb => ?_; replace hD := And.intro hb hD; clear hb; try simp only [fresh_cons, fresh_nil, and_true, ne_eq, neF] at hD) | simp only [appK, appOsK]); try simp only [go_sem, hD, hli, ie, i0, w1, w01, tv, tu, wi, ui, ui0, uil, iz, wj, je, j1, j2, wj2, je2, j12, j22, gn2, sn2, nl2, true_implies, c0, hb, hb2, p0, p3, q2, ba, bb]) | (refine And.intro (by omega) ?_) | (refine ifI (fun hc => ?_) (fun hc => ?_) <;> first | (exfalso; omega) | skip) | ((first | apply hK | ((iterate 1 (clear hK K)); apply hK) | ((iterate 2 (clear hK K)); apply hK) | ((iterate 3 (clear hK K)); apply hK) | ((iterate 4 (clear hK K)); apply hK) | ((iterate 5 (clear hK K)); apply hK)); clear hK K) | (refine And.intro ?_ ?_)
            refine Rnd.le (St.le_two 8 9 rfl rfl (k := .svs (vCs (vals R' ++ [(uk, un, ut)]) ++ vC (vk, vn, vt))) (m := .ints .i64 (nums R' ++ [n] ++ [1])) ?_ ?_ ?_) ?_
            · repeat (first | exact List.mem_cons_self | apply List.mem_cons_of_mem)
            · repeat (first | exact List.mem_cons_self | apply List.mem_cons_of_mem)
            · simp [hD]
            refine Rnd.sub (l.length - (i + 1)) (by omega) ((hI _ _).2 ⟨i + 1, R' ++ [((uk, un, ut), n)] ++ [((vk, vn, vt), 1)], _, _, _, rfl, by omega, by simp; omega, hC, hNN, hlast, fin _ _ (by simp [hD]), rfl⟩) (by repeat' (first | exact rfl | exact trivial | exact int_eq (by omega) | exact int_eq (by (rw [i64_wrap] <;> omega)) | constructor))
  · have hli : ¬ ((i : Nat) : Int) < (((l.length) : Nat) : Int) := by omega
    obtain rfl : i = l.length := by omega
    rw [List.drop_length, List.foldl_nil] at hC
    subst hC
    rcases hB with ⟨rfl, rfl, rfl, rfl⟩ | ⟨hR0, b1, b2, hb, rfl, rfl, rfl⟩
    · repeat' first | (with_reducible refine And.intro (by omega) ?_) | (refine SW.seq_k fun K hK => ?_) | (refine SW.block ?_) | ((first | refine SW.region ?_ | refine SW.regionD (Checked.mixed Tryd.checked) (by kernel_rfl) ?_ | refine SW.cond ?_ | refine SW.skip ?_ | refine SW.exit ?_ | refine SW.ret ?_ | (refine allF_i fun b hb => ?_; replace hD := And.intro hb hD; clear hb; try simp only [fresh_cons, fresh_nil, and_true, ne_eq, neF] at hD) | simp only [appK, appOsK]); try simp only [go_sem, hD, hli]) | (refine And.intro (by omega) ?_) | (refine ifI (fun hc => ?_) (fun hc => ?_) <;> first | (exfalso; omega) | skip) | ((first | apply hK | ((iterate 1 (clear hK K)); apply hK) | ((iterate 2 (clear hK K)); apply hK) | ((iterate 3 (clear hK K)); apply hK) | ((iterate 4 (clear hK K)); apply hK) | ((iterate 5 (clear hK K)); apply hK)); clear hK K)
      refine retQ_le ((St.le_nil_fl (i := 4) (sz := 3) (f := vF []) rfl).trans (St.le_nil_fl (i := 5) (sz := 1) (f := fun j => [I64 (([] : List Int).getD j 0)]) rfl)) ?_
      simp only [resL_tmp, resL_nil, tupOf, go_sem, hD]
      rfl
    · have e2 := vCs_len (vals X)
      have e3 : (vals X).length = X.length := by simp [vals]
      have e4 : (nums X).length = X.length := by simp [nums]
      rw [e3] at e2
      repeat' first | (with_reducible refine And.intro (by omega) ?_) | (refine SW.seq_k fun K hK => ?_) | (refine SW.block ?_) | ((first | refine SW.region ?_ | refine SW.regionD (Checked.mixed Tryd.checked) (by kernel_rfl) ?_ | refine SW.cond ?_ | refine SW.skip ?_ | refine SW.exit ?_ | refine SW.ret ?_ | (refine allF_i fun b hb => ?_; replace hD := And.intro hb hD; clear hb; try simp only [fresh_cons, fresh_nil, and_true, ne_eq, neF] at hD) | simp only [appK, appOsK]); try simp only [go_sem, hD, hli]) | (refine And.intro (by omega) ?_) | (refine ifI (fun hc => ?_) (fun hc => ?_) <;> first | (exfalso; omega) | skip) | ((first | apply hK | ((iterate 1 (clear hK K)); apply hK) | ((iterate 2 (clear hK K)); apply hK) | ((iterate 3 (clear hK K)); apply hK) | ((iterate 4 (clear hK K)); apply hK) | ((iterate 5 (clear hK K)); apply hK)); clear hK K)
      refine retQ_le ((St.le_acc_fl (i := 4) (n := X.length) (sz := 3) (x := .os b1 0 X.length 3) (h := [(b1, .svs (vCs (vals X))), (b2, .ints .i64 (nums X))]) (h0 := [(b2, .ints .i64 (nums X))]) rfl (.inr ⟨b1, .svs (vCs (vals X)), by simp [fresh_cons, fresh_nil, hb, Ne.symm hb], rfl, e2, rfl, rfl⟩) (vF (vals X)) (fun j hj => vCs_at (vals X) j (by omega))).trans (St.le_acc_fl (i := 5) (n := X.length) (sz := 1) (x := .os b2 0 X.length 1) (h := [(b2, .ints .i64 (nums X))]) (h0 := []) rfl (.inr ⟨b2, .ints .i64 (nums X), by simp [fresh_nil], rfl, by simp [Blk.cells, e4], rfl, rfl⟩) (fun j => [I64 ((nums X).getD j 0)]) (fun j hj => ?_))) ?_
      · have : j < (nums X).length := by omega
        simp only [Blk.cells, Nat.mul_one]
        rw [List.drop_eq_getElem_cons (by rw [List.length_map]; exact this), List.take_succ_cons, List.take_zero, List.getElem_map]
        simp [this]
      · simp only [resL_tmp, resL_nil, tupOf, go_sem, hD]
        unfold VL NL ints
        rw [e3, e4]
end Go.Proofs.YtddkacbcecedaaaDoor
/- Contracts: profiles. -/
set_option linter.unusedSimpArgs false
set_option linter.unusedVariables false
set_option linter.unusedSectionVars false
namespace Go.Ab.A34
open Go Go.Ab Go.Proofs
/-- Cells of a list. -/
def fC {α : Type} (enc : α → List SV) (l : List α) : List SV := l.flatMap enc
theorem fC_snoc {α : Type} {enc : α → List SV} (l : List α) (x : α) : fC enc l ++ enc x = fC enc (l ++ [x]) := by unfold fC; rw [List.flatMap_append]; simp
theorem fC_len {α : Type} {enc : α → List SV} {k : Nat} (hk : ∀ x, (enc x).length = k) (l : List α) : l.length * k = (fC enc l).length := by
  unfold fC
  induction l with
  | nil => simp
  | cons a r ih => rw [List.flatMap_cons, List.length_append, ← ih, hk, List.length_cons, Nat.add_mul, Nat.one_mul, Nat.add_comm]
theorem fC_at {α : Type} {enc : α → List SV} {k : Nat} (hk : ∀ x, (enc x).length = k) (d : α) : ∀ (l : List α) (j : Nat), j < l.length → enc (l.getD j d) = ((fC enc l).drop (j * k)).take k
  | [], j, h => absurd h (by simp)
  | a :: l, 0, _ => by
    unfold fC
    rw [Nat.zero_mul, List.drop_zero, List.flatMap_cons, List.take_append_of_le_length (by rw [hk]; exact Nat.le_refl _), List.take_of_length_le (by rw [hk]; exact Nat.le_refl _)]
    rfl
  | a :: l, j + 1, h => by
    have := fC_at hk d l j (by rw [List.length_cons] at h; omega)
    unfold fC at *
    rw [List.flatMap_cons, show (j + 1) * k = (enc a).length + j * k by rw [hk, Nat.add_mul, Nat.one_mul, Nat.add_comm], ← List.drop_drop, List.drop_left]
    exact this
/-- A profile. -/
structure Co where
  rows : Int
  nulls : Int
  distinct : Int
  least : V3
  greatest : V3
  common : V3
  times : Int
  numbers : Int
  texts : Int
abbrev coC (c : Co) : List SV := [I64 c.rows, I64 c.nulls, I64 c.distinct, I64 c.least.1, I64 c.least.2.1, Str c.least.2.2, I64 c.greatest.1, I64 c.greatest.2.1, Str c.greatest.2.2, I64 c.common.1, I64 c.common.2.1, Str c.common.2.2, I64 c.times, I64 c.numbers, I64 c.texts]
abbrev CO (c : Co) : SV := .agg (coC c)
def co0 : Co := ⟨0, 0, 0, v0, v0, v0, 0, 0, 0⟩
/-- One value more. -/
def stepC (c : Co) (p : V3 × Int) : Co :=
  ⟨c.rows, if p.1.1 = 0 then p.2 else c.nulls, c.distinct, if ¬ p.1.1 = 0 ∧ c.least.1 = 0 then p.1 else c.least, if p.1.1 = 0 then c.greatest else p.1, if c.times < p.2 then p.1 else c.common, if c.times < p.2 then p.2 else c.times, if p.1.1 = 1 then c.numbers + p.2 else c.numbers, if p.1.1 = 2 then c.texts + p.2 else c.texts⟩
def profS (t : Tb) (a : Nat) : Co := (histS (colS t a)).foldl stepC ⟨t.rows.length, 0, (histS (colS t a)).length, v0, v0, v0, 0, 0, 0⟩
theorem hist_inv (l : List V3) : ∀ (acc : List (V3 × Int)) (n : Nat), acc.length ≤ n → (∀ p ∈ acc, 1 ≤ p.2 ∧ p.2 ≤ n) → (l.foldl hAdd acc).length ≤ n + l.length ∧ ∀ p ∈ l.foldl hAdd acc, 1 ≤ p.2 ∧ p.2 ≤ n + l.length := by
  induction l with
  | nil => intro acc n h1 h2; exact ⟨by simpa using h1, by simpa using h2⟩
  | cons v l ih =>
    intro acc n h1 h2
    rw [List.foldl_cons]
    have h3 := hAdd_len acc v
    have := ih (hAdd acc v) (n + 1) (by omega) (fun p hp => by
      unfold hAdd at hp
      split at hp
      · rw [List.mem_singleton.1 hp]; simp; omega
      · rename_i hne
        have hm : acc.getLastD (v0, 0) ∈ acc := by
          rw [List.getLastD_eq_getLast?, List.getLast?_eq_some_getLast hne]
          exact List.getLast_mem hne
        have hb := h2 _ hm
        split at hp
        · rcases List.mem_append.1 hp with hp | hp
          · have := h2 p (List.dropLast_subset _ hp); omega
          · rw [List.mem_singleton.1 hp]; simp only; omega
        · rcases List.mem_append.1 hp with hp | hp
          · have := h2 p hp; omega
          · rw [List.mem_singleton.1 hp]; simp; omega)
    rw [List.length_cons]
    refine ⟨by omega, fun p hp => ?_⟩
    have := this.2 p hp
    omega
theorem hist_bound (l : List V3) : (histS l).length ≤ l.length ∧ ∀ p ∈ histS l, 1 ≤ p.2 ∧ p.2 ≤ l.length := by
  have := hist_inv l [] 0 (by simp) (fun p hp => by cases hp)
  simpa [histS] using this
end Go.Ab.A34
namespace Go.Proofs.YtddkacbcecedaaaDoor
open Go Go.Ab Go.Ab.A34
variable [Gl] [Tabs]

set_option maxHeartbeats 4000000 in
set_option maxRecDepth 20000 in
theorem profile_p (t : Tb) (a : Nat) (hl : t.rows.length ≤ 1000000) (ha : ∀ r ∈ t.rows, a < r.2.length) : PCall Tryd.prog 36 [TB t, I64 a] (CO (profS t a)) := by
  have co := column_p t a hl ha
  have hcl : (colS t a).length ≤ 1000000 := by unfold colS; rw [sortV_len, List.length_map]; exact hl
  have hh := histogram_p (colS t a) hcl
  obtain ⟨hb1, hb2⟩ := hist_bound (colS t a)
  obtain ⟨X, hX⟩ : ∃ X, X = profS t a := ⟨_, rfl⟩
  rw [← hX]
  unfold profS at hX
  generalize histS (colS t a) = H at *
  generalize colS t a = C at *
  have hvl : (vals H).length = H.length := by simp [vals]
  have hnl : (nums H).length = H.length := by simp [nums]
  rw [← hvl] at hX
  obtain ⟨nm, ats, l⟩ := t
  simp only at hl ha hX
  refine Call.enter' (N := 76) (rs := [.cell 4 48]) Tryd.func36 rfl rfl rfl (by decide) rfl ?_; simp only [argT]; have hD : (0 : Nat) = 0 := rfl
  repeat' first | (with_reducible refine And.intro (by omega) ?_) | (refine SW.seq_k fun K hK => ?_) | (refine SW.block ?_) | ((first | refine SW.region ?_ | refine SW.regionD (Checked.mixed Tryd.checked) (by kernel_rfl) ?_ | refine SW.cond ?_ | refine SW.skip ?_ | refine SW.exit ?_ | refine SW.ret ?_ | refine Call.of_pure (co) ?_ | refine ⟨_, co, ?_⟩ | refine Call.of_pure (hh) ?_ | refine ⟨_, hh, ?_⟩ | (refine allF_i fun b hb => ?_; replace hD := And.intro hb hD; clear hb; try simp only [fresh_cons, fresh_nil, and_true, ne_eq, neF] at hD) | simp only [appK, appOsK]); try simp only [go_sem, hD]) | (refine And.intro (by omega) ?_) | (refine ifI (fun hc => ?_) (fun hc => ?_) <;> first | (exfalso; omega) | skip) | ((first | apply hK | ((iterate 1 (clear hK K)); apply hK) | ((iterate 2 (clear hK K)); apply hK) | ((iterate 3 (clear hK K)); apply hK) | ((iterate 4 (clear hK K)); apply hK) | ((iterate 5 (clear hK K)); apply hK)); clear hK K)
  obtain ⟨cb, rfl⟩ : ∃ x, x = b := ⟨_, rfl⟩
  obtain ⟨rb, rfl⟩ : ∃ x, x = b := ⟨_, rfl⟩
  have h1 : ¬ cb = rb := by simp [hD]
  have h2 : ¬ rb = cb := by simp [hD]
  refine Ab.SW.le (St.le_pick [(cb, .svs (coC ⟨l.length, 0, (vals H).length, v0, v0, v0, 0, 0, 0⟩)), (rb, .svs (coC co0))] ?_ ?_) ?_
  · repeat' (first | exact (fun x hx => (List.not_mem_nil hx).elim) | refine List.forall_mem_cons.2 ⟨?_, ?_⟩ | exact List.mem_cons_self | apply List.mem_cons_of_mem)
  · simp [fresh_cons, fresh_nil, hD]
  clear hD
  have hD : (cb = rb) = False ∧ (rb = cb) = False := ⟨eq_false h1, eq_false h2⟩
  obtain ⟨I, hI⟩ : ∃ I : Nat → St → Prop, ∀ k S, I k S ↔ (∃ (i : Nat) (c : Co), k = (vals H).length - i ∧ i ≤ (vals H).length ∧ X = (H.drop i).foldl stepC c ∧ 0 ≤ c.numbers ∧ c.numbers ≤ i * 1000000 ∧ 0 ≤ c.texts ∧ c.texts ≤ i * 1000000 ∧ S = ⟨[(4, .op rb 0), (5, VL (vals H)), (6, NL (nums H)), (7, .op cb 0), (24, VL (vals H)), (25, I64 (vals H).length), (26, I64 i)], [(cb, .svs (coC c)), (rb, .svs (coC co0))]⟩) := ⟨fun k S => _, fun _ _ => Iff.rfl⟩
  refine SW.loop' I ((vals H).length) ((hI _ _).2 ⟨0, _, rfl, Nat.zero_le _, hX, Int.le_refl _, by simp, Int.le_refl _, by simp, rfl⟩) (by repeat' (first | exact rfl | exact trivial | exact int_eq (by omega) | exact int_eq (by (rw [i64_wrap] <;> omega)) | constructor)) ?_
  intro k S hIn
  obtain ⟨i, c, rfl, hi, hC, n1, n2, n3, n4, rfl⟩ := (hI _ _).1 hIn
  clear hIn
  have ie : ((i : Nat) : Int).toNat = i := Int.toNat_natCast _
  have i0 : (0 : Int) ≤ ((i : Nat) : Int) := by omega
  clear hX
  obtain ⟨cr, cu, cd, ⟨lk, ln, lt⟩, ⟨gk, gn, gt⟩, ⟨mk, mn, mt⟩, ti, nb, tx⟩ := c
  simp only at n1 n2 n3 n4
  by_cases hlt : i < (vals H).length
  · have hli : ((i : Nat) : Int) < ((((vals H).length) : Nat) : Int) := by omega
    have w1 : IntKind.i64.wrap ((i : Int) + 1) = ((i + 1 : Nat) : Int) := by rw [i64_wrap (by omega) (by omega)]; omega
    have hlt2 : i < H.length := by omega
    have hn2 : ((i : Nat) : Int) < (((nums H).length : Nat) : Int) := by omega
    obtain ⟨⟨vk, vn, vt⟩, n, hv⟩ : ∃ v n, H.getD i (v0, 0) = (v, n) := ⟨_, _, rfl⟩
    have hg : H.getD i (v0, 0) = H[i] := by simp [List.getD_eq_getElem?_getD, hlt2]
    have hd : H.drop i = ((vk, vn, vt), n) :: H.drop (i + 1) := by rw [List.drop_eq_getElem_cons hlt2, ← hg, hv]
    have tv : vF (vals H) i = [I64 vk, I64 vn, Str vt] := by
      unfold vF vals
      rw [List.getD_eq_getElem?_getD, List.getElem?_map, List.getElem?_eq_getElem hlt2, ← hg, hv]
      rfl
    have tn : (nums H).getD i 0 = n := by
      unfold nums
      rw [List.getD_eq_getElem?_getD, List.getElem?_map, List.getElem?_eq_getElem hlt2, ← hg, hv]
      rfl
    have hbn := hb2 _ (getD_mem (v0, 0) hlt2)
    rw [hv] at hbn
    simp only at hbn
    have wn : IntKind.i64.wrap (nb + n) = nb + n := by rw [i64_wrap (by omega) (by omega)]
    have wt : IntKind.i64.wrap (tx + n) = tx + n := by rw [i64_wrap (by omega) (by omega)]
    rw [hd, List.foldl_cons] at hC
    have hk : ((vk = 0) = True ∧ (vk = 1) = False ∧ (vk = 2) = False) ∨ ((vk = 0) = False ∧ (vk = 1) = True ∧ (vk = 2) = False) ∨ ((vk = 0) = False ∧ (vk = 1) = False ∧ (vk = 2) = True) ∨ ((vk = 0) = False ∧ (vk = 1) = False ∧ (vk = 2) = False) := by
      simp only [eq_iff_iff, iff_true, iff_false]
      omega
    have ht := Classical.propComplete (ti < n)
    have hlk := Classical.propComplete (lk = 0)
    have hC0 := hC
    rcases hk with ⟨q0, q1, q2⟩ | ⟨q0, q1, q2⟩ | ⟨q0, q1, q2⟩ | ⟨q0, q1, q2⟩ <;> rcases ht with q3 | q3 <;> rcases hlk with q4 | q4
    all_goals
      simp only [stepC, q0, q1, q2, q3, q4, not_true, not_false_eq_true, and_true, true_and, and_self, false_and, and_false, if_true, if_false] at hC
      repeat' first | (with_reducible refine And.intro (by omega) ?_) | (refine SW.seq_k fun K hK => ?_) | (refine SW.block ?_) | ((first | refine SW.region ?_ | refine SW.regionD (Checked.mixed Tryd.checked) (by kernel_rfl) ?_ | refine SW.cond ?_ | refine SW.skip ?_ | refine SW.exit ?_ | refine SW.ret ?_ | (refine allF_i fun b hb => ?_; replace hD := And.intro hb hD; clear hb; try simp only [fresh_cons, fresh_nil, and_true, ne_eq, neF] at hD) | simp only [appK, appOsK]); try simp only [go_sem, hD, hli, ie, i0, w1, hn2, tv, tn, wn, wt, q0, q1, q2, q3, q4]) | (refine And.intro (by omega) ?_) | (refine ifI (fun hc => ?_) (fun hc => ?_) <;> first | (exfalso; omega) | skip) | ((first | apply hK | ((iterate 1 (clear hK K)); apply hK) | ((iterate 2 (clear hK K)); apply hK) | ((iterate 3 (clear hK K)); apply hK) | ((iterate 4 (clear hK K)); apply hK) | ((iterate 5 (clear hK K)); apply hK)); clear hK K)
      refine Rnd.le (St.le_pick _ ?_ ?_) (Rnd.sub ((vals H).length - (i + 1)) (by omega) ((hI _ _).2 ⟨i + 1, _, rfl, by omega, hC, by simp only; omega, by simp only; omega, by simp only; omega, by simp only; omega, rfl⟩) (by repeat' (first | exact rfl | exact trivial | exact int_eq (by omega) | exact int_eq (by (rw [i64_wrap] <;> omega)) | constructor)))
      · repeat' (first | exact (fun x hx => (List.not_mem_nil hx).elim) | refine List.forall_mem_cons.2 ⟨?_, ?_⟩ | exact List.mem_cons_self | apply List.mem_cons_of_mem)
      · simp [fresh_cons, fresh_nil, hD]
  · have hli : ¬ ((i : Nat) : Int) < ((((vals H).length) : Nat) : Int) := by omega
    rw [List.drop_of_length_le (by omega)] at hC
    have hC2 : X = ⟨cr, cu, cd, (lk, ln, lt), (gk, gn, gt), (mk, mn, mt), ti, nb, tx⟩ := hC
    subst hC2
    repeat' first | (with_reducible refine And.intro (by omega) ?_) | (refine SW.seq_k fun K hK => ?_) | (refine SW.block ?_) | ((first | refine SW.region ?_ | refine SW.regionD (Checked.mixed Tryd.checked) (by kernel_rfl) ?_ | refine SW.cond ?_ | refine SW.skip ?_ | refine SW.exit ?_ | refine SW.ret ?_ | (refine allF_i fun b hb => ?_; replace hD := And.intro hb hD; clear hb; try simp only [fresh_cons, fresh_nil, and_true, ne_eq, neF] at hD) | simp only [appK, appOsK]); try simp only [go_sem, hD, hli]) | (refine And.intro (by omega) ?_) | (refine ifI (fun hc => ?_) (fun hc => ?_) <;> first | (exfalso; omega) | skip) | ((first | apply hK | ((iterate 1 (clear hK K)); apply hK) | ((iterate 2 (clear hK K)); apply hK) | ((iterate 3 (clear hK K)); apply hK) | ((iterate 4 (clear hK K)); apply hK) | ((iterate 5 (clear hK K)); apply hK)); clear hK K)
    apply ret_cell (i := 4) (n := 15); exact rfl; (simp only [go_sem, hD]; try rfl); (first | exact Nat.le_refl _ | decide); simp only [resL_tmp, resL_cellE, resC_ok, resL_nil, tupOf, getN, go_sem, hD]
end Go.Proofs.YtddkacbcecedaaaDoor
/- Contracts: Of, All. -/
set_option linter.unusedSimpArgs false
set_option linter.unusedVariables false
set_option linter.unusedSectionVars false
namespace Go.Ab.A34
open Go Go.Ab Go.Proofs
theorem rowsV_ok {n : Nat} : ∀ {l : List R3} {p : Int}, rowsV n p l = 0 → ∀ r ∈ l, r.2.length = n ∧ r.2.all okV = true
  | [], p, _, r, hr => by cases hr
  | x :: l, p, h, r, hr => by
    unfold rowsV at h
    split at h
    · cases h
    · split at h
      · cases h
      · rename_i h2
        split at h
        · rename_i h3
          rcases List.mem_cons.1 hr with rfl | hr
          · exact ⟨by omega, h3⟩
          · exact rowsV_ok h r hr
        · cases h
theorem okV_size {v : V3} (h : okV v = true) : v.2.2.size ≤ 200 := by
  unfold okV vok at h
  have he : ∀ s : ByteArray, emp s = true → s.size ≤ 200 := fun s hs => by
    unfold emp at hs
    rw [barr_eq.1 hs]
    exact Nat.zero_le _
  repeat' split at h
  all_goals first | (cases h; done) | skip
  all_goals (try simp only [Bool.and_eq_true, decide_eq_true_eq] at h)
  · exact he _ h.2
  · exact he _ h
  · exact h.2
  · exact he _ h.2
/-- What a valid table is. -/
theorem valid_rows {t : Tb} (h : validS t = 0) : t.rows.length ≤ 1000 ∧ t.attrs.length ≤ 16 ∧ ∀ r ∈ t.rows, r.2.length = t.attrs.length ∧ ∀ v ∈ r.2, okV v = true := by
  unfold validS at h
  split at h
  · split at h
    · cases h
    · split at h
      · exact ⟨by omega, by omega, fun r hr => ⟨(rowsV_ok h r hr).1, fun v hv => List.all_eq_true.1 (rowsV_ok h r hr).2 v hv⟩⟩
      · cases h
  · cases h
theorem chk_ok {t : Tb} {a : Int} (h : chkS t a = 0) : validS t = 0 ∧ 0 ≤ a ∧ a < t.attrs.length := by
  unfold chkS at h
  split at h
  · rename_i h1
    split at h
    · cases h
    · exact ⟨h1, by omega, by omega⟩
  · rename_i h1
    exact absurd h h1
abbrev CL (l : List Co) : SV := .fl l.length 15 (fun j => coC (l.getD j co0))
/-- The step of the reference says the same. -/
theorem co_len (c : Co) : (coC c).length = 15 := rfl
end Go.Ab.A34
namespace Go.Proofs.YtddkacbcecedaaaDoor
open Go Go.Ab Go.Ab.A34
variable [Gl] [Tabs]

theorem of_p_bad (t : Tb) (a : Int) (h : ¬ chkS t a = 0) : PCall Tryd.prog 16 [TB t, I64 a] (.tup [CO co0, I64 (chkS t a)]) := by
  have va := checked_p t a
  generalize chkS t a = e at *
  refine Call.enter' (N := 17) (rs := [.cell 4 48, .tmp 5]) Tryd.func16 rfl rfl rfl (by decide) rfl ?_; simp only [argT]; have hD : (0 : Nat) = 0 := rfl
  repeat' first | (with_reducible refine And.intro (by omega) ?_) | (refine SW.seq_k fun K hK => ?_) | (refine SW.block ?_) | ((first | refine SW.region ?_ | refine SW.regionD (Checked.mixed Tryd.checked) (by kernel_rfl) ?_ | refine SW.cond ?_ | refine SW.skip ?_ | refine SW.exit ?_ | refine SW.ret ?_ | refine Call.of_pure (va) ?_ | refine ⟨_, va, ?_⟩ | (refine allF_i fun b hb => ?_; replace hD := And.intro hb hD; clear hb; try simp only [fresh_cons, fresh_nil, and_true, ne_eq, neF] at hD) | simp only [appK, appOsK]); try simp only [go_sem, hD, h]) | (refine And.intro (by omega) ?_) | (refine ifI (fun hc => ?_) (fun hc => ?_) <;> first | (exfalso; omega) | skip) | ((first | apply hK | ((iterate 1 (clear hK K)); apply hK) | ((iterate 2 (clear hK K)); apply hK) | ((iterate 3 (clear hK K)); apply hK) | ((iterate 4 (clear hK K)); apply hK) | ((iterate 5 (clear hK K)); apply hK)); clear hK K)
  apply ret_cell (i := 4) (n := 15); exact rfl; (simp only [go_sem, hD]; try rfl); (first | exact Nat.le_refl _ | decide); simp only [resL_tmp, resL_cellE, resC_ok, resL_nil, tupOf, getN, go_sem, hD]
  rfl
theorem of_p (t : Tb) (a : Nat) (h : chkS t a = 0) : PCall Tryd.prog 16 [TB t, I64 a] (.tup [CO (profS t a), I64 0]) := by
  have va := checked_p t a
  rw [h] at va
  obtain ⟨h1, h2, h3⟩ := chk_ok h
  obtain ⟨r1, r2, r3⟩ := valid_rows h1
  have pr := profile_p t a (by omega) (fun r hr => by have := r3 r hr; omega)
  generalize profS t a = c at *
  refine Call.enter' (N := 17) (rs := [.cell 4 48, .tmp 5]) Tryd.func16 rfl rfl rfl (by decide) rfl ?_; simp only [argT]; have hD : (0 : Nat) = 0 := rfl
  repeat' first | (with_reducible refine And.intro (by omega) ?_) | (refine SW.seq_k fun K hK => ?_) | (refine SW.block ?_) | ((first | refine SW.region ?_ | refine SW.regionD (Checked.mixed Tryd.checked) (by kernel_rfl) ?_ | refine SW.cond ?_ | refine SW.skip ?_ | refine SW.exit ?_ | refine SW.ret ?_ | refine Call.of_pure (va) ?_ | refine ⟨_, va, ?_⟩ | refine Call.of_pure (pr) ?_ | refine ⟨_, pr, ?_⟩ | (refine allF_i fun b hb => ?_; replace hD := And.intro hb hD; clear hb; try simp only [fresh_cons, fresh_nil, and_true, ne_eq, neF] at hD) | simp only [appK, appOsK]); try simp only [go_sem, hD]) | (refine And.intro (by omega) ?_) | (refine ifI (fun hc => ?_) (fun hc => ?_) <;> first | (exfalso; omega) | skip) | ((first | apply hK | ((iterate 1 (clear hK K)); apply hK) | ((iterate 2 (clear hK K)); apply hK) | ((iterate 3 (clear hK K)); apply hK) | ((iterate 4 (clear hK K)); apply hK) | ((iterate 5 (clear hK K)); apply hK)); clear hK K)
  apply ret_cell (i := 4) (n := 15); exact rfl; (simp only [go_sem, hD]; try rfl); (first | exact Nat.le_refl _ | decide); simp only [resL_tmp, resL_cellE, resC_ok, resL_nil, tupOf, getN, go_sem, hD]

theorem all_p_bad (t : Tb) (h : ¬ validS t = 0) : PCall Tryd.prog 18 [TB t] (.tup [CL [], I64 (validS t)]) := by
  have va := valid_tp t
  generalize validS t = e at *
  refine Call.enter' (N := 26) (rs := [.tmp 2, .tmp 3]) Tryd.func18 rfl rfl rfl (by decide) rfl ?_; simp only [argT]; have hD : (0 : Nat) = 0 := rfl
  repeat' first | (with_reducible refine And.intro (by omega) ?_) | (refine SW.seq_k fun K hK => ?_) | (refine SW.block ?_) | ((first | refine SW.region ?_ | refine SW.regionD (Checked.mixed Tryd.checked) (by kernel_rfl) ?_ | refine SW.cond ?_ | refine SW.skip ?_ | refine SW.exit ?_ | refine SW.ret ?_ | refine Call.of_pure (va) ?_ | refine ⟨_, va, ?_⟩ | (refine allF_i fun b hb => ?_; replace hD := And.intro hb hD; clear hb; try simp only [fresh_cons, fresh_nil, and_true, ne_eq, neF] at hD) | simp only [appK, appOsK]); try simp only [go_sem, hD, h]) | (refine And.intro (by omega) ?_) | (refine ifI (fun hc => ?_) (fun hc => ?_) <;> first | (exfalso; omega) | skip) | ((first | apply hK | ((iterate 1 (clear hK K)); apply hK) | ((iterate 2 (clear hK K)); apply hK) | ((iterate 3 (clear hK K)); apply hK) | ((iterate 4 (clear hK K)); apply hK) | ((iterate 5 (clear hK K)); apply hK)); clear hK K)
  refine retQ_le (St.le_nil_fl (i := 2) (sz := 15) (f := fun j => coC (([] : List Co).getD j co0)) rfl) ?_
  simp only [resL_tmp, resL_nil, tupOf, go_sem, hD]
  rfl
set_option maxHeartbeats 2000000 in
set_option maxRecDepth 20000 in
theorem all_p (t : Tb) (h : validS t = 0) : PCall Tryd.prog 18 [TB t] (.tup [CL ((List.range t.attrs.length).map (profS t)), I64 0]) := by
  have va := valid_tp t
  rw [h] at va
  obtain ⟨r1, r2, r3⟩ := valid_rows h
  have pr : ∀ a : Nat, a < t.attrs.length → PCall Tryd.prog 36 [TB t, I64 a] (CO (profS t a)) := fun a ha => profile_p t a (by omega) (fun r hr => by have := r3 r hr; omega)
  obtain ⟨F, hF⟩ : ∃ F, F = profS t := ⟨_, rfl⟩
  rw [← hF]
  rw [← hF] at pr
  clear hF
  obtain ⟨nm, ats, l⟩ := t
  simp only at r1 r2 r3 pr ⊢
  refine Call.enter' (N := 26) (rs := [.tmp 2, .tmp 3]) Tryd.func18 rfl rfl rfl (by decide) rfl ?_; simp only [argT]; have hD : (0 : Nat) = 0 := rfl
  repeat' first | (with_reducible refine And.intro (by omega) ?_) | (refine SW.seq_k fun K hK => ?_) | (refine SW.block ?_) | ((first | refine SW.region ?_ | refine SW.regionD (Checked.mixed Tryd.checked) (by kernel_rfl) ?_ | refine SW.cond ?_ | refine SW.skip ?_ | refine SW.exit ?_ | refine SW.ret ?_ | refine Call.of_pure (va) ?_ | refine ⟨_, va, ?_⟩ | (refine allF_i fun b hb => ?_; replace hD := And.intro hb hD; clear hb; try simp only [fresh_cons, fresh_nil, and_true, ne_eq, neF] at hD) | simp only [appK, appOsK]); try simp only [go_sem, hD]) | (refine And.intro (by omega) ?_) | (refine ifI (fun hc => ?_) (fun hc => ?_) <;> first | (exfalso; omega) | skip) | ((first | apply hK | ((iterate 1 (clear hK K)); apply hK) | ((iterate 2 (clear hK K)); apply hK) | ((iterate 3 (clear hK K)); apply hK) | ((iterate 4 (clear hK K)); apply hK) | ((iterate 5 (clear hK K)); apply hK)); clear hK K)
  obtain ⟨tb, rfl⟩ : ∃ x, x = b := ⟨_, rfl⟩
  obtain ⟨I, hI⟩ : ∃ I : Nat → St → Prop, ∀ k S, I k S ↔ (∃ (i : Nat) (x : SV) (h : Heap), k = ats.length - i ∧ i ≤ ats.length ∧ Acc 15 x h [(tb, .svs [Str nm, SL ats, RL l])] i (fC coC ((List.range i).map F)) ∧ S = ⟨[(1, .op tb 0), (5, x), (14, I64 ats.length), (15, I64 i)], h⟩) := ⟨fun k S => _, fun _ _ => Iff.rfl⟩
  refine SW.loop' I (ats.length) ((hI _ _).2 ⟨0, _, _, rfl, Nat.zero_le _, .nil _ _, rfl⟩) (by repeat' (first | exact rfl | exact trivial | exact int_eq (by omega) | exact int_eq (by (rw [i64_wrap] <;> omega)) | constructor)) ?_
  intro k S hIn
  obtain ⟨i, x, h, rfl, hi, hB, rfl⟩ := (hI _ _).1 hIn
  clear hIn
  have ie : ((i : Nat) : Int).toNat = i := Int.toNat_natCast _
  have i0 : (0 : Int) ≤ ((i : Nat) : Int) := by omega
  have hsl : ((List.range i).map F).length = i := by simp
  by_cases hlt : i < ats.length
  · have hli : ((i : Nat) : Int) < (((ats.length) : Nat) : Int) := by omega
    have w1 : IntKind.i64.wrap ((i : Int) + 1) = ((i + 1 : Nat) : Int) := by rw [i64_wrap (by omega) (by omega)]; omega
    have hmp : (List.range (i + 1)).map F = (List.range i).map F ++ [F i] := by rw [List.range_succ, List.map_append]; rfl
    have pi := pr i hlt
    have hcx : coC (F i) = coC (F i) := rfl
    generalize F i = c at *
    have ba : (i + 1) * 160 ≤ 140737488355328 := by omega
    rcases hB.casesH with ⟨e0, e1, rfl, rfl⟩ | ⟨g, hgf, e0, rfl, hle⟩
    · repeat' first | (with_reducible refine And.intro (by omega) ?_) | (refine SW.seq_k fun K hK => ?_) | (refine SW.block ?_) | ((first | refine SW.region ?_ | refine SW.regionD (Checked.mixed Tryd.checked) (by kernel_rfl) ?_ | refine SW.cond ?_ | refine SW.skip ?_ | refine SW.exit ?_ | refine SW.ret ?_ | refine Call.of_pure (pi) ?_ | refine ⟨_, pi, ?_⟩ | (refine allF_i fun b hb => ?_; replace hD := And.intro hb hD; clear hb; try simp only [fresh_cons, fresh_nil, and_true, ne_eq, neF] at hD) | simp only [appK, appOsK]); try simp only [go_sem, hD, hli, ie, i0, w1, ba, true_implies]) | (refine And.intro (by omega) ?_) | (refine ifI (fun hc => ?_) (fun hc => ?_) <;> first | (exfalso; omega) | skip) | ((first | apply hK | ((iterate 1 (clear hK K)); apply hK) | ((iterate 2 (clear hK K)); apply hK) | ((iterate 3 (clear hK K)); apply hK) | ((iterate 4 (clear hK K)); apply hK) | ((iterate 5 (clear hK K)); apply hK)); clear hK K)
      subst e0
      refine Rnd.le (St.le_pick _ ?_ ?_) (Rnd.sub (ats.length - (0 + 1)) (by omega) ((hI _ _).2 ⟨0 + 1, _, [(b, .svs (coC c)), (tb, .svs [Str nm, SL ats, RL l])], rfl, by omega, (by rw [hmp, ← fC_snoc, e1]; exact Acc.osH (by simp [fresh_cons, fresh_nil, hD]) rfl), rfl⟩) (by repeat' (first | exact rfl | exact trivial | exact int_eq (by omega) | exact int_eq (by (rw [i64_wrap] <;> omega)) | constructor)))
      · repeat' (first | exact (fun x hx => (List.not_mem_nil hx).elim) | refine List.forall_mem_cons.2 ⟨?_, ?_⟩ | exact List.mem_cons_self | apply List.mem_cons_of_mem)
      · simp [fresh_cons, fresh_nil, hD]
    · refine Ab.SW.le (hle _) ?_
      have hgt : ¬ g = tb := fun e => hgf.1.1 e.symm
      repeat' first | (with_reducible refine And.intro (by omega) ?_) | (refine SW.seq_k fun K hK => ?_) | (refine SW.block ?_) | ((first | refine SW.region ?_ | refine SW.regionD (Checked.mixed Tryd.checked) (by kernel_rfl) ?_ | refine SW.cond ?_ | refine SW.skip ?_ | refine SW.exit ?_ | refine SW.ret ?_ | refine Call.of_pure (pi) ?_ | refine ⟨_, pi, ?_⟩ | (refine allF_i fun b hb => ?_; replace hD := And.intro hb hD; clear hb; try simp only [fresh_cons, fresh_nil, and_true, ne_eq, neF] at hD) | simp only [appK, appOsK]); try simp only [go_sem, hD, hli, ie, i0, w1, ba, true_implies, hgt, e0]) | (refine And.intro (by omega) ?_) | (refine ifI (fun hc => ?_) (fun hc => ?_) <;> first | (exfalso; omega) | skip) | ((first | apply hK | ((iterate 1 (clear hK K)); apply hK) | ((iterate 2 (clear hK K)); apply hK) | ((iterate 3 (clear hK K)); apply hK) | ((iterate 4 (clear hK K)); apply hK) | ((iterate 5 (clear hK K)); apply hK)); clear hK K)
      refine Rnd.le (St.le_pick _ ?_ ?_) (Rnd.sub (ats.length - (i + 1)) (by omega) ((hI _ _).2 ⟨i + 1, _, [(b, .svs (fC coC ((List.range i).map F) ++ coC c)), (tb, .svs [Str nm, SL ats, RL l])], rfl, by omega, (by rw [hmp, ← fC_snoc]; exact Acc.osH (by simp [fresh_cons, fresh_nil, hD]) (by rw [List.length_append, ← e0, co_len]; omega)), rfl⟩) (by repeat' (first | exact rfl | exact trivial | exact int_eq (by omega) | exact int_eq (by (rw [i64_wrap] <;> omega)) | constructor)))
      · repeat' (first | exact (fun x hx => (List.not_mem_nil hx).elim) | refine List.forall_mem_cons.2 ⟨?_, ?_⟩ | exact List.mem_cons_self | apply List.mem_cons_of_mem)
      · simp [fresh_cons, fresh_nil, hD]
  · have hli : ¬ ((i : Nat) : Int) < (((ats.length) : Nat) : Int) := by omega
    obtain rfl : i = ats.length := by omega
    repeat' first | (with_reducible refine And.intro (by omega) ?_) | (refine SW.seq_k fun K hK => ?_) | (refine SW.block ?_) | ((first | refine SW.region ?_ | refine SW.regionD (Checked.mixed Tryd.checked) (by kernel_rfl) ?_ | refine SW.cond ?_ | refine SW.skip ?_ | refine SW.exit ?_ | refine SW.ret ?_ | (refine allF_i fun b hb => ?_; replace hD := And.intro hb hD; clear hb; try simp only [fresh_cons, fresh_nil, and_true, ne_eq, neF] at hD) | simp only [appK, appOsK]); try simp only [go_sem, hD, hli]) | (refine And.intro (by omega) ?_) | (refine ifI (fun hc => ?_) (fun hc => ?_) <;> first | (exfalso; omega) | skip) | ((first | apply hK | ((iterate 1 (clear hK K)); apply hK) | ((iterate 2 (clear hK K)); apply hK) | ((iterate 3 (clear hK K)); apply hK) | ((iterate 4 (clear hK K)); apply hK) | ((iterate 5 (clear hK K)); apply hK)); clear hK K)
    refine retQ_le ((St.le_acc_fl (i := 2) (n := ats.length) (sz := 15) (x := x) ?_ hB (fun j => coC (((List.range ats.length).map F).getD j co0)) (fun j hj => fC_at co_len co0 _ j (by omega))).trans St.le_drop) ?_
    · exact rfl
    · simp only [resL_tmp, resL_nil, tupOf, go_sem, hD]
      unfold CL
      rw [hsl]
end Go.Proofs.YtddkacbcecedaaaDoor
/- Contracts: distances of outliers. -/
set_option linter.unusedSimpArgs false
set_option linter.unusedVariables false
set_option linter.unusedSectionVars false
namespace Go.Ab.A34
open Go Go.Ab Go.Proofs
/-- Twice a distance is greater than three times another one. -/
def farI (d w : Int) : Bool := decide (3 * w < 2 * d)
theorem u64_wrap (n : Int) : IntKind.u64.wrap n = n % 18446744073709551616 := by
  have e : (2 : Int) ^ 64 = 18446744073709551616 := by decide
  show (if (false && decide (n % (2 : Int) ^ 64 ≥ (2 : Int) ^ 63)) = true then n % (2 : Int) ^ 64 - (2 : Int) ^ 64 else n % (2 : Int) ^ 64) = _
  simp only [e, Bool.false_and, Bool.false_eq_true, if_false]
theorem u64_diff {a b : Int} (h1 : 0 ≤ b - a) (h2 : b - a < 18446744073709551616) : IntKind.u64.wrap (IntKind.u64.wrap b - IntKind.u64.wrap a) = b - a := by
  rw [u64_wrap, u64_wrap, u64_wrap]
  omega
end Go.Ab.A34
namespace Go.Proofs.YtddkacbcecedaaaDoor
open Go Go.Ab Go.Ab.A34
variable [Gl] [Tabs]

theorem mul64 (x y : Nat) (hx : x < 18446744073709551616) (hy : y < 18446744073709551616) : PCall Tryd.prog 55 [U64 x, U64 y] (.tup [U64 (x * y / 18446744073709551616 : Nat), U64 (x * y % 18446744073709551616 : Nat)]) :=
  PCall.of_calls ⟨_, Tryd.func55, by kernel_rfl, by kernel_rfl⟩ fun w E vs _ _ _ hr => by
    obtain rfl := reps2 hr
    exact (Tryd.bits_Mul64 x y hx hy w).mono fun e w' ⟨he, hw⟩ => ⟨_, he, fun _ => rep_tup2 _ _, by rw [hw]; exact ⟨RowKit.Below.refl _ _, Nat.le_refl _⟩⟩

theorem far_p (d w : Int) (hd1 : 0 ≤ d) (hd2 : d < 18446744073709551616) (hw1 : 0 ≤ w) (hw2 : w < 18446744073709551616) : PCall Tryd.prog 32 [U64 d, U64 w] (SB (farI d w)) := by
  obtain ⟨x, rfl⟩ := Int.eq_ofNat_of_zero_le hd1
  obtain ⟨y, rfl⟩ := Int.eq_ofNat_of_zero_le hw1
  have m1 := mul64 2 x (by omega) (by omega)
  have m2 := mul64 3 y (by omega) (by omega)
  obtain ⟨R, hR⟩ : ∃ R, R = farI x y := ⟨_, rfl⟩
  rw [← hR]
  unfold farI at hR
  refine Call.enter' (N := 32) (rs := [.tmp 4]) Tryd.func32 rfl rfl rfl (by decide) rfl ?_; simp only [argT]; have hD : (0 : Nat) = 0 := rfl
  repeat' first | (with_reducible refine And.intro (by omega) ?_) | (refine SW.seq_k fun K hK => ?_) | (refine SW.block ?_) | ((first | refine SW.region ?_ | refine SW.regionD (Checked.mixed Tryd.checked) (by kernel_rfl) ?_ | refine SW.cond ?_ | refine SW.skip ?_ | refine SW.exit ?_ | refine SW.ret ?_ | refine Call.of_pure (m1) ?_ | refine ⟨_, m1, ?_⟩ | refine Call.of_pure (m2) ?_ | refine ⟨_, m2, ?_⟩ | (refine allF_i fun b hb => ?_; replace hD := And.intro hb hD; clear hb; try simp only [fresh_cons, fresh_nil, and_true, ne_eq, neF] at hD) | simp only [appK, appOsK]); try simp only [go_sem, hD]) | (refine And.intro (by omega) ?_) | (refine ifI (fun hc => ?_) (fun hc => ?_) <;> first | (exfalso; omega) | skip) | ((first | apply hK | ((iterate 1 (clear hK K)); apply hK) | ((iterate 2 (clear hK K)); apply hK) | ((iterate 3 (clear hK K)); apply hK) | ((iterate 4 (clear hK K)); apply hK) | ((iterate 5 (clear hK K)); apply hK)); clear hK K)
  all_goals
    refine ret_pure ?_; simp only [resL_tmp, resL_nil, tupOf, go_sem, hD]
    rw [hR]
    refine congrArg (fun b => SV.sc (.bool b)) ?_
    rw [Bool.eq_iff_iff]
    simp only [Bool.or_eq_true, Bool.and_eq_true, decide_eq_true_eq, Bool.false_eq_true, true_iff, false_iff]
    omega

theorem beyond_r (a b c d : Int) (h1 : a ≤ b) (h2 : b - a < 18446744073709551616) (h3 : c ≤ d) (h4 : d - c < 18446744073709551616) : PCall Tryd.prog 34 [I64 a, I64 b, I64 c, I64 d] (SB (farI (b - a) (d - c))) := by
  have e1 := u64_diff (a := a) (b := b) (by omega) h2
  have e2 := u64_diff (a := c) (b := d) (by omega) h4
  obtain ⟨R, hR⟩ : ∃ R, R = farI (b - a) (d - c) := ⟨_, rfl⟩
  rw [← hR]
  unfold farI at hR
  refine Call.enter' (N := 32) (rs := [.tmp 8]) Tryd.func34 rfl rfl rfl (by decide) rfl ?_; simp only [argT]; have hD : (0 : Nat) = 0 := rfl
  repeat' first | (with_reducible refine And.intro (by omega) ?_) | (refine SW.seq_k fun K hK => ?_) | (refine SW.block ?_) | ((first | refine SW.region ?_ | refine SW.regionD (Checked.mixed Tryd.checked) (by kernel_rfl) ?_ | refine SW.cond ?_ | refine SW.skip ?_ | refine SW.exit ?_ | refine SW.ret ?_ | (refine allF_i fun b hb => ?_; replace hD := And.intro hb hD; clear hb; try simp only [fresh_cons, fresh_nil, and_true, ne_eq, neF] at hD) | simp only [appK, appOsK]); try simp only [go_sem, hD, e1, e2]) | (refine And.intro (by omega) ?_) | (refine ifI (fun hc => ?_) (fun hc => ?_) <;> first | (exfalso; omega) | skip) | ((first | apply hK | ((iterate 1 (clear hK K)); apply hK) | ((iterate 2 (clear hK K)); apply hK) | ((iterate 3 (clear hK K)); apply hK) | ((iterate 4 (clear hK K)); apply hK) | ((iterate 5 (clear hK K)); apply hK)); clear hK K)
  all_goals
    refine ret_pure ?_; simp only [resL_tmp, resL_nil, tupOf, go_sem, hD]
    rw [hR]
    try rw [u64_wrap, u64_wrap, Int.tdiv_eq_ediv_of_nonneg (by omega)]
    refine congrArg (fun b => SV.sc (.bool b)) ?_
    rw [Bool.eq_iff_iff]
    simp only [Bool.or_eq_true, Bool.and_eq_true, decide_eq_true_eq, Bool.false_eq_true, true_iff, false_iff]
    omega
end Go.Proofs.YtddkacbcecedaaaDoor
