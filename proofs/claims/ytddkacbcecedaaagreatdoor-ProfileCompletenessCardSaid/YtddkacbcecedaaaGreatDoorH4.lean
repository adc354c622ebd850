/- Contracts: a column in order, of the reference. -/
import Derived.Test.YtddkacbcecedaaaGreatDoorO2
set_option linter.unusedSimpArgs false
set_option linter.unusedVariables false
set_option linter.unusedSectionVars false
namespace Go.Proofs.YtddkacbcecedaaaGreatDoor
open Go Go.Ab Go.Ab.A34
variable [Gl] [Tabs]

set_option maxHeartbeats 2000000 in
set_option maxRecDepth 20000 in
theorem column_r (t : Tb) (a : Nat) (hl : t.rows.length ≤ 1000000) (ha : ∀ r ∈ t.rows, a < r.2.length ∧ (∀ v ∈ r.2, v.2.2.size ≤ 9223372036854775807)) : PCall Tryz.prog 69 [TB t, I64 a] (VL (colS t a)) := by
  unfold colS
  obtain ⟨nm, ats, l⟩ := t
  simp only at hl ha ⊢
  refine Call.enter' (N := 64) (rs := [.tmp 4]) Tryz.func69 rfl rfl rfl (by decide) rfl ?_; simp only [argT]; have hD : (0 : Nat) = 0 := rfl
  repeat' first | (with_reducible refine And.intro (by omega) ?_) | (refine SW.seq_k fun K hK => ?_) | (refine SW.block ?_) | ((first | refine SW.region ?_ | refine SW.regionD (Checked.mixed Tryz.checked) (by kernel_rfl) ?_ | refine SW.cond ?_ | refine SW.skip ?_ | refine SW.exit ?_ | refine SW.ret ?_ | (refine allF_i fun b hb => ?_; replace hD := And.intro hb hD; clear hb; try simp only [fresh_cons, fresh_nil, and_true, ne_eq, neF] at hD) | simp only [appK, appOsK]); try simp only [go_sem, hD]) | (refine And.intro (by omega) ?_) | (refine ifI (fun hc => ?_) (fun hc => ?_) <;> first | (exfalso; omega) | skip) | ((first | apply hK | ((iterate 1 (clear hK K)); apply hK) | ((iterate 2 (clear hK K)); apply hK) | ((iterate 3 (clear hK K)); apply hK) | ((iterate 4 (clear hK K)); apply hK) | ((iterate 5 (clear hK K)); apply hK)); clear hK K)
  obtain ⟨tb, rfl⟩ : ∃ x, x = b := ⟨_, rfl⟩
  obtain ⟨I, hI⟩ : ∃ I : Nat → St → Prop, ∀ k S, I k S ↔ (∃ (i : Nat) (x : SV) (h : Heap), k = l.length - i ∧ i ≤ l.length ∧ Acc 3 x h [(tb, .svs [Str nm, SL ats, RL l])] i (vCs (sortV ((l.take i).map fun r => r.2.getD a v0))) ∧ S = ⟨[(1, I64 a), (2, .op tb 0), (5, x), (6, I64 i)], h⟩) := ⟨fun k S => _, fun _ _ => Iff.rfl⟩
  refine SW.loop' I (l.length) ((hI _ _).2 ⟨0, _, _, rfl, Nat.zero_le _, by rw [List.take_zero, List.map_nil]; simp [sortV]; exact .nil _ _, rfl⟩) (by repeat' (first | exact rfl | exact trivial | exact int_eq (by omega) | exact int_eq (by (rw [i64_wrap] <;> omega)) | constructor)) ?_
  intro k S hIn
  obtain ⟨i, x, h, rfl, hi, hB, rfl⟩ := (hI _ _).1 hIn
  clear hIn
  have ie : ((i : Nat) : Int).toNat = i := Int.toNat_natCast _
  have i0 : (0 : Int) ≤ ((i : Nat) : Int) := by omega
  by_cases hlt : i < l.length
  · have hli : ((i : Nat) : Int) < (((l.length) : Nat) : Int) := by omega
    have w1 : IntKind.i64.wrap ((i : Int) + 1) = ((i + 1 : Nat) : Int) := by rw [i64_wrap (by omega) (by omega)]; omega
    have hg : l.getD i r0 = l[i] := by simp [List.getD_eq_getElem?_getD, hlt]
    have har := ha _ (List.getElem_mem hlt)
    rw [← hg] at har
    have hmp : ((l.take (i + 1)).map fun r => r.2.getD a v0) = ((l.take i).map fun r => r.2.getD a v0) ++ [(l.getD i r0).2.getD a v0] := by
      rw [List.take_add_one, List.getElem?_eq_getElem hlt, List.map_append, hg]
      rfl
    have hln : ((l.take i).map fun r => r.2.getD a v0).length = i := by rw [List.length_map, List.length_take]; omega
    obtain ⟨id, vs, hr⟩ : ∃ id vs, l.getD i r0 = (id, vs) := ⟨_, _, rfl⟩
    have tf : rF l i = [I64 id, VL vs] := by unfold rF; rw [hr]; rfl
    rw [hr] at har hmp
    simp only at har hmp
    obtain ⟨vk, vn, vt, hv⟩ : ∃ k n t, vs.getD a v0 = (k, n, t) := ⟨_, _, _, rfl⟩
    have tv : vF vs a = [I64 vk, I64 vn, Str vt] := by unfold vF; rw [hv]
    have hvt := har.2 _ (getD_mem v0 har.1)
    rw [hv] at hmp hvt
    have a0 : (0 : Int) ≤ ((a : Nat) : Int) := by omega
    have al : ((a : Nat) : Int) < ((vs.length : Nat) : Int) := by omega
    have ae : ((a : Nat) : Int).toNat = a := Int.toNat_natCast _
    have ba : (i + 1) * 32 ≤ 140737488355328 := by omega
    have wj : IntKind.i64.wrap (((i + 1 : Nat) : Int) - 1) = ((i : Nat) : Int) := by rw [i64_wrap (by omega) (by omega)]; omega
    have hst : ∀ y ∈ (l.take i).map fun r => r.2.getD a v0, y.2.2.size ≤ 9223372036854775807 := fun y hy => by
      obtain ⟨r, hr1, rfl⟩ := List.mem_map.1 hy
      have h1 := ha r (List.mem_of_mem_take hr1)
      exact h1.2 _ (getD_mem v0 h1.1)
    generalize ((l.take i).map fun r => r.2.getD a v0) = X at *
    have hsl : (sortV X).length = i := by rw [sortV_len, hln]
    rcases hB.casesH with ⟨e0, e1, rfl, rfl⟩ | ⟨g, hgf, e0, rfl, hle⟩
    · repeat' first | (with_reducible refine And.intro (by omega) ?_) | (refine SW.seq_k fun K hK => ?_) | (refine SW.block ?_) | ((first | refine SW.region ?_ | refine SW.regionD (Checked.mixed Tryz.checked) (by kernel_rfl) ?_ | refine SW.cond ?_ | refine SW.skip ?_ | refine SW.exit ?_ | refine SW.ret ?_ | (refine allF_i fun b hb => ?_; replace hD := And.intro hb hD; clear hb; try simp only [fresh_cons, fresh_nil, and_true, ne_eq, neF] at hD) | simp only [appK, appOsK]); try simp only [go_sem, hD, hli, ie, i0, w1, tf, tv, a0, al, ae, ba, wj, true_implies]) | (refine And.intro (by omega) ?_) | (refine ifI (fun hc => ?_) (fun hc => ?_) <;> first | (exfalso; omega) | skip) | ((first | apply hK | ((iterate 1 (clear hK K)); apply hK) | ((iterate 2 (clear hK K)); apply hK) | ((iterate 3 (clear hK K)); apply hK) | ((iterate 4 (clear hK K)); apply hK) | ((iterate 5 (clear hK K)); apply hK)); clear hK K)
      refine Ab.SW.le (St.le_pick [(b, .svs [I64 vk, I64 vn, Str vt]), (tb, .svs [Str nm, SL ats, RL l])] ?_ ?_) ?_
      · repeat' (first | exact (fun x hx => (List.not_mem_nil hx).elim) | refine List.forall_mem_cons.2 ⟨?_, ?_⟩ | exact List.mem_cons_self | apply List.mem_cons_of_mem)
      · simp [fresh_cons, fresh_nil, hD]
      have hK1 : ([I64 vk, I64 vn, Str vt] : List SV) = vCs (sortV X ++ [(vk, vn, vt)]) := by rw [← vCs_snoc, e1]; rfl
      rw [hK1]
      have hbt : ¬ b = tb := by simp [hD]
      have htb : ¬ tb = b := by simp [hD]
      obtain ⟨J, hJ⟩ : ∃ J : Nat → St → Prop, ∀ k S, J k S ↔ (∃ (p q : List V3), k = p.length ∧ p ++ q = sortV X ∧ (∀ y ∈ q, cmp3 (vk, vn, vt) y < 0) ∧ S = ⟨[(1, I64 a), (2, .op tb 0), (5, .os b 0 (i + 1) 3), (6, I64 i), (7, I64 p.length)], [(b, .svs (vCs (p ++ (vk, vn, vt) :: q))), (tb, .svs [Str nm, SL ats, RL l])]⟩) := ⟨fun k S => _, fun _ _ => Iff.rfl⟩
      refine SW.loop' J i ((hJ _ _).2 ⟨sortV X, [], hsl.symm, by simp, fun y hy => (List.not_mem_nil hy).elim, rfl⟩) (by rw [hsl]; repeat' (first | exact rfl | exact trivial | exact int_eq (by omega) | exact int_eq (by (rw [i64_wrap] <;> omega)) | (subst e0; exact rfl) | constructor)) ?_
      clear hD
      have hD : (0 : Nat) = 0 := rfl
      intro k S hIn
      obtain ⟨p, q, rfl, hpq, hq, rfl⟩ := (hJ _ _).1 hIn
      clear hIn
      have hpl : p.length + q.length = i := by rw [← hsl, ← hpq, List.length_append]
      rcases List.eq_nil_or_concat p with rfl | ⟨p', ⟨yk, yn, yt⟩, e⟩
      · have hins := ins_sort hpq (v := (vk, vn, vt)) (fun y hy => by cases hy) hq
        have z0 : ((([] : List V3).length : Nat) : Int) = 0 := rfl
        have c0 : (i + 1) * 3 = (vCs ((vk, vn, vt) :: q)).length := by rw [← vCs_len, List.length_cons]; rw [List.length_nil] at hpl; omega
        rw [List.nil_append] at hins
        repeat' first | (with_reducible refine And.intro (by omega) ?_) | (refine SW.seq_k fun K hK => ?_) | (refine SW.block ?_) | ((first | refine SW.region ?_ | refine SW.regionD (Checked.mixed Tryz.checked) (by kernel_rfl) ?_ | refine SW.cond ?_ | refine SW.skip ?_ | refine SW.exit ?_ | refine SW.ret ?_ | (refine allF_i fun b hb => ?_; replace hD := And.intro hb hD; clear hb; try simp only [fresh_cons, fresh_nil, and_true, ne_eq, neF] at hD) | simp only [appK, appOsK]); try simp only [go_sem, hD, w1, i0, z0]) | (refine And.intro (by omega) ?_) | (refine ifI (fun hc => ?_) (fun hc => ?_) <;> first | (exfalso; omega) | skip) | ((first | apply hK | ((iterate 1 (clear hK K)); apply hK) | ((iterate 2 (clear hK K)); apply hK) | ((iterate 3 (clear hK K)); apply hK) | ((iterate 4 (clear hK K)); apply hK) | ((iterate 5 (clear hK K)); apply hK)); clear hK K)
        refine Rnd.sub (l.length - (i + 1)) (by omega) ((hI _ _).2 ⟨i + 1, _, _, rfl, by omega, (by rw [hmp, ← hins]; exact Acc.osH ⟨⟨htb, hbt⟩, trivial⟩ c0), rfl⟩) (by repeat' (first | exact rfl | exact trivial | exact int_eq (by omega) | exact int_eq (by (rw [i64_wrap] <;> omega)) | constructor))
      · rw [List.concat_eq_append] at e
        subst e
        have e7 : (p' ++ [(yk, yn, yt)]).length = p'.length + 1 := by simp
        rw [e7] at hpl
        rw [e7]
        obtain ⟨L, hL⟩ : ∃ L, L = p' ++ [(yk, yn, yt)] ++ (vk, vn, vt) :: q := ⟨_, rfl⟩
        rw [← hL]
        have hLl : L.length = i + 1 := by rw [hL]; simp; omega
        have c0 : (vCs L).length = (i + 1) * 3 := by rw [← vCs_len, hLl]
        obtain ⟨g1, g2, g3⟩ := vCs_get L (p'.length + 1) (by omega)
        obtain ⟨g4, g5, g6⟩ := vCs_get L p'.length (by omega)
        have m1 : L.getD (p'.length + 1) v0 = (vk, vn, vt) := by rw [hL, ← e7]; exact mid_get _ _ _
        have m2 : L.getD p'.length v0 = (yk, yn, yt) := by rw [hL]; exact mid_get' _ _ _ _
        rw [m1] at g1 g2 g3
        rw [m2] at g4 g5 g6
        simp only at g1 g2 g3 g4 g5 g6
        have k0 : (0 : Int) < ((p'.length + 1 : Nat) : Int) := by omega
        have wk : IntKind.i64.wrap (((p'.length + 1 : Nat) : Int) - 1) = ((p'.length : Nat) : Int) := by rw [i64_wrap (by omega) (by omega)]; omega
        have k1 : (0 : Int) ≤ ((p'.length + 1 : Nat) : Int) := by omega
        have k2 : ((p'.length + 1 : Nat) : Int) < ((i + 1 : Nat) : Int) := by omega
        have k3 : (0 : Int) ≤ ((p'.length : Nat) : Int) := by omega
        have k4 : ((p'.length : Nat) : Int) < ((i + 1 : Nat) : Int) := by omega
        have k5 : ((p'.length + 1 : Nat) : Int).toNat = p'.length + 1 := Int.toNat_natCast _
        have k6 : ((p'.length : Nat) : Int).toNat = p'.length := Int.toNat_natCast _
        have hyt := hst (yk, yn, yt) ((sortV_perm X).mem_iff.1 (by rw [← hpq]; simp))
        have cr := compare_r vk vn vt yk yn yt hvt hyt
        by_cases hcmp : cmp3 (vk, vn, vt) (yk, yn, yt) < 0
        · have hcl : cmpV vk vn vt yk yn yt < 0 := hcmp
          generalize cmpV vk vn vt yk yn yt = cv at *
          have s1 := vCs_set L (p'.length + 1) (yk, yn, yt) (by omega)
          have s2 := vCs_set (L.set (p'.length + 1) (yk, yn, yt)) p'.length (vk, vn, vt) (by rw [List.length_set]; omega)
          have s3 := vCs_set L p'.length (vk, vn, vt) (by omega)
          have s4 := vCs_set (L.set p'.length (vk, vn, vt)) (p'.length + 1) (yk, yn, yt) (by rw [List.length_set]; omega)
          have s5 : (L.set (p'.length + 1) (yk, yn, yt)).set p'.length (vk, vn, vt) = p' ++ (vk, vn, vt) :: (yk, yn, yt) :: q := by rw [hL]; exact mid_swap _ _ _ _
          have s6 : (L.set p'.length (vk, vn, vt)).set (p'.length + 1) (yk, yn, yt) = p' ++ (vk, vn, vt) :: (yk, yn, yt) :: q := by rw [hL]; exact mid_swap' _ _ _ _
          rw [s5] at s2
          rw [s6] at s4
          simp only at s1 s2 s3 s4
          have hq2 : ∀ y ∈ (yk, yn, yt) :: q, cmp3 (vk, vn, vt) y < 0 := fun y hy => by
            rcases List.mem_cons.1 hy with rfl | hy
            · exact hcmp
            · exact hq y hy
          repeat' first | (with_reducible refine And.intro (by omega) ?_) | (refine SW.seq_k fun K hK => ?_) | (refine SW.block ?_) | ((first | refine SW.region ?_ | refine SW.regionZ (id := 7) (Checked.mixed Tryz.checked) ((.one 0 [0, 1, 2, 3, 4, 5, 6, 7, 8, 9, 10, 11, 12, 13, 14] (.one 1 [1, 2, 3, 4, 5, 6, 7, 8, 9, 10, 11, 12, 13, 14] (.one 2 [2, 3, 4, 5, 6, 7, 8, 9, 10, 11, 12, 13, 14] (.one 3 [3, 5, 6, 12, 13, 14] (.one 4 [4, 5, 6, 12, 13, 14] (.one 5 [5, 6, 12, 13, 14] (.one 6 [6, 12, 13, 14] (.one 7 [7, 10, 11, 12, 13, 14] (.one 8 [8, 9, 10, 11, 12, 13, 14] (.one 9 [9, 10, 11, 12, 13, 14] (.one 10 [10, 11, 12, 13, 14] (.one 11 [11, 12, 13, 14] (.one 12 [12, 13, 14] (.one 13 [13, 14] (.one 14 [14] .done))))))))))))))) : OZ) (by kernel_rfl) ?_ | refine SW.regionZ (id := 9) (Checked.mixed Tryz.checked) ((.one 0 [0, 14, 15, 16, 17] (.one 1 [1, 14, 15, 16, 17] (.one 5 [5, 8, 9, 14, 15, 16, 17] (.one 6 [6, 7, 8, 9, 14, 15, 16, 17] (.one 7 [7, 8, 9, 14, 15, 16, 17] (.one 8 [8, 9, 14, 15, 16, 17] (.one 9 [9, 14, 15, 16, 17] (.one 10 [10, 12, 13, 14, 15, 16, 17] (.one 11 [11, 12, 13, 14, 15, 16, 17] (.one 12 [12, 13, 14, 15, 16, 17] (.one 13 [13, 14, 15, 16, 17] (.one 14 [14, 15, 16, 17] (.alt 2 (.alt 3 (.alt 4 (.alt 15 (.one 16 [16, 17] (.alt 17 .done .nil)) .nil) (.alt 15 (.one 4 [4, 16, 17] (.one 16 [16, 17] (.alt 17 .done .nil))) .nil)) (.alt 15 (.one 3 [3, 4, 16, 17] (.one 4 [4, 16, 17] (.one 16 [16, 17] (.alt 17 .done .nil)))) .nil)) (.alt 3 (.alt 2 (.alt 4 (.alt 15 (.one 16 [16, 17] (.alt 17 .done .nil)) .nil) (.alt 15 (.one 4 [4, 16, 17] (.one 16 [16, 17] (.alt 17 .done .nil))) .nil)) (.alt 4 (.alt 2 (.alt 15 (.one 16 [16, 17] (.alt 17 .done .nil)) .nil) (.alt 15 (.one 2 [2, 16, 17] (.one 16 [16, 17] (.alt 17 .done .nil))) .nil)) (.alt 15 (.one 2 [2, 16, 17] (.one 4 [4, 16, 17] (.one 16 [16, 17] (.alt 17 .done .nil)))) .nil))) (.alt 15 (.one 2 [2, 16, 17] (.one 3 [3, 4, 16, 17] (.one 4 [4, 16, 17] (.one 16 [16, 17] (.alt 17 .done .nil))))) .nil))))))))))))))) : OZ) (by kernel_rfl) ?_ | refine SW.regionD (Checked.mixed Tryz.checked) (by kernel_rfl) ?_ | refine SW.cond ?_ | refine SW.skip ?_ | refine SW.exit ?_ | refine SW.ret ?_ | refine Call.of_pure (cr) ?_ | refine ⟨_, cr, ?_⟩ | (refine allF_i fun b hb => ?_; replace hD := And.intro hb hD; clear hb; try simp only [fresh_cons, fresh_nil, and_true, ne_eq, neF] at hD) | simp only [appK, appOsK]); try simp only [go_sem, hD, w1, i0, k0, wk, k1, k2, k3, k4, k5, k6, g1, g2, g3, g4, g5, g6, c0, hcl, true_implies]) | (refine And.intro (by omega) ?_) | (refine ifI (fun hc => ?_) (fun hc => ?_) <;> first | (exfalso; omega) | skip) | ((first | apply hK | ((iterate 1 (clear hK K)); apply hK) | ((iterate 2 (clear hK K)); apply hK) | ((iterate 3 (clear hK K)); apply hK) | ((iterate 4 (clear hK K)); apply hK) | ((iterate 5 (clear hK K)); apply hK)); clear hK K) | (refine And.intro ?_ ?_)
          all_goals
            first | rw [s1, s2] | rw [s3, s4]
            refine Rnd.sub p'.length (by omega) ((hJ _ _).2 ⟨p', (yk, yn, yt) :: q, rfl, by rw [← hpq]; simp, hq2, rfl⟩) (by repeat' (first | exact rfl | exact trivial | exact int_eq (by omega) | exact int_eq (by (rw [i64_wrap] <;> omega)) | constructor))
        · have hcl : ¬ cmpV vk vn vt yk yn yt < 0 := hcmp
          have hins := ins_sort hpq (v := (vk, vn, vt)) (fun y hy => by
            rw [List.getLast?_concat] at hy
            cases hy
            rw [cmp3_swap]
            omega) hq
          rw [← hL] at hins
          generalize cmpV vk vn vt yk yn yt = cv at *
          repeat' first | (with_reducible refine And.intro (by omega) ?_) | (refine SW.seq_k fun K hK => ?_) | (refine SW.block ?_) | ((first | refine SW.region ?_ | refine SW.regionZ (id := 7) (Checked.mixed Tryz.checked) ((.one 0 [0, 1, 2, 3, 4, 5, 6, 7, 8, 9, 10, 11, 12, 13, 14] (.one 1 [1, 2, 3, 4, 5, 6, 7, 8, 9, 10, 11, 12, 13, 14] (.one 2 [2, 3, 4, 5, 6, 7, 8, 9, 10, 11, 12, 13, 14] (.one 3 [3, 5, 6, 12, 13, 14] (.one 4 [4, 5, 6, 12, 13, 14] (.one 5 [5, 6, 12, 13, 14] (.one 6 [6, 12, 13, 14] (.one 7 [7, 10, 11, 12, 13, 14] (.one 8 [8, 9, 10, 11, 12, 13, 14] (.one 9 [9, 10, 11, 12, 13, 14] (.one 10 [10, 11, 12, 13, 14] (.one 11 [11, 12, 13, 14] (.one 12 [12, 13, 14] (.one 13 [13, 14] (.one 14 [14] .done))))))))))))))) : OZ) (by kernel_rfl) ?_ | refine SW.regionZ (id := 9) (Checked.mixed Tryz.checked) ((.one 0 [0, 14, 15, 16, 17] (.one 1 [1, 14, 15, 16, 17] (.one 5 [5, 8, 9, 14, 15, 16, 17] (.one 6 [6, 7, 8, 9, 14, 15, 16, 17] (.one 7 [7, 8, 9, 14, 15, 16, 17] (.one 8 [8, 9, 14, 15, 16, 17] (.one 9 [9, 14, 15, 16, 17] (.one 10 [10, 12, 13, 14, 15, 16, 17] (.one 11 [11, 12, 13, 14, 15, 16, 17] (.one 12 [12, 13, 14, 15, 16, 17] (.one 13 [13, 14, 15, 16, 17] (.one 14 [14, 15, 16, 17] (.alt 2 (.alt 3 (.alt 4 (.alt 15 (.one 16 [16, 17] (.alt 17 .done .nil)) .nil) (.alt 15 (.one 4 [4, 16, 17] (.one 16 [16, 17] (.alt 17 .done .nil))) .nil)) (.alt 15 (.one 3 [3, 4, 16, 17] (.one 4 [4, 16, 17] (.one 16 [16, 17] (.alt 17 .done .nil)))) .nil)) (.alt 3 (.alt 2 (.alt 4 (.alt 15 (.one 16 [16, 17] (.alt 17 .done .nil)) .nil) (.alt 15 (.one 4 [4, 16, 17] (.one 16 [16, 17] (.alt 17 .done .nil))) .nil)) (.alt 4 (.alt 2 (.alt 15 (.one 16 [16, 17] (.alt 17 .done .nil)) .nil) (.alt 15 (.one 2 [2, 16, 17] (.one 16 [16, 17] (.alt 17 .done .nil))) .nil)) (.alt 15 (.one 2 [2, 16, 17] (.one 4 [4, 16, 17] (.one 16 [16, 17] (.alt 17 .done .nil)))) .nil))) (.alt 15 (.one 2 [2, 16, 17] (.one 3 [3, 4, 16, 17] (.one 4 [4, 16, 17] (.one 16 [16, 17] (.alt 17 .done .nil))))) .nil))))))))))))))) : OZ) (by kernel_rfl) ?_ | refine SW.regionD (Checked.mixed Tryz.checked) (by kernel_rfl) ?_ | refine SW.cond ?_ | refine SW.skip ?_ | refine SW.exit ?_ | refine SW.ret ?_ | refine Call.of_pure (cr) ?_ | refine ⟨_, cr, ?_⟩ | (refine allF_i fun b hb => ?_; replace hD := And.intro hb hD; clear hb; try simp only [fresh_cons, fresh_nil, and_true, ne_eq, neF] at hD) | simp only [appK, appOsK]); try simp only [go_sem, hD, w1, i0, k0, wk, k1, k2, k3, k4, k5, k6, g1, g2, g3, g4, g5, g6, c0, hcl, true_implies]) | (refine And.intro (by omega) ?_) | (refine ifI (fun hc => ?_) (fun hc => ?_) <;> first | (exfalso; omega) | skip) | ((first | apply hK | ((iterate 1 (clear hK K)); apply hK) | ((iterate 2 (clear hK K)); apply hK) | ((iterate 3 (clear hK K)); apply hK) | ((iterate 4 (clear hK K)); apply hK) | ((iterate 5 (clear hK K)); apply hK)); clear hK K) | (refine And.intro ?_ ?_)
          all_goals
            refine Rnd.sub (l.length - (i + 1)) (by omega) ((hI _ _).2 ⟨i + 1, _, _, rfl, by omega, (by rw [hmp, ← hins]; exact Acc.osH ⟨⟨htb, hbt⟩, trivial⟩ c0.symm), rfl⟩) (by repeat' (first | exact rfl | exact trivial | exact int_eq (by omega) | exact int_eq (by (rw [i64_wrap] <;> omega)) | constructor))
    · refine Ab.SW.le (hle _) ?_
      have hgt : ¬ g = tb := fun e => hgf.1.1 e.symm
      repeat' first | (with_reducible refine And.intro (by omega) ?_) | (refine SW.seq_k fun K hK => ?_) | (refine SW.block ?_) | ((first | refine SW.region ?_ | refine SW.regionD (Checked.mixed Tryz.checked) (by kernel_rfl) ?_ | refine SW.cond ?_ | refine SW.skip ?_ | refine SW.exit ?_ | refine SW.ret ?_ | (refine allF_i fun b hb => ?_; replace hD := And.intro hb hD; clear hb; try simp only [fresh_cons, fresh_nil, and_true, ne_eq, neF] at hD) | simp only [appK, appOsK]); try simp only [go_sem, hD, hli, ie, i0, w1, tf, tv, a0, al, ae, ba, wj, true_implies, hgt, e0]) | (refine And.intro (by omega) ?_) | (refine ifI (fun hc => ?_) (fun hc => ?_) <;> first | (exfalso; omega) | skip) | ((first | apply hK | ((iterate 1 (clear hK K)); apply hK) | ((iterate 2 (clear hK K)); apply hK) | ((iterate 3 (clear hK K)); apply hK) | ((iterate 4 (clear hK K)); apply hK) | ((iterate 5 (clear hK K)); apply hK)); clear hK K)
      refine Ab.SW.le (St.le_pick [(b, .svs (vCs (sortV X) ++ [I64 vk, I64 vn, Str vt])), (tb, .svs [Str nm, SL ats, RL l])] ?_ ?_) ?_
      · repeat' (first | exact (fun x hx => (List.not_mem_nil hx).elim) | refine List.forall_mem_cons.2 ⟨?_, ?_⟩ | exact List.mem_cons_self | apply List.mem_cons_of_mem)
      · simp [fresh_cons, fresh_nil, hD]
      have hK1 : vCs (sortV X) ++ [I64 vk, I64 vn, Str vt] = vCs (sortV X ++ [(vk, vn, vt)]) := by rw [← vCs_snoc]
      rw [hK1]
      have hbt : ¬ b = tb := by simp [hD]
      have htb : ¬ tb = b := by simp [hD]
      obtain ⟨J, hJ⟩ : ∃ J : Nat → St → Prop, ∀ k S, J k S ↔ (∃ (p q : List V3), k = p.length ∧ p ++ q = sortV X ∧ (∀ y ∈ q, cmp3 (vk, vn, vt) y < 0) ∧ S = ⟨[(1, I64 a), (2, .op tb 0), (5, .os b 0 (i + 1) 3), (6, I64 i), (7, I64 p.length)], [(b, .svs (vCs (p ++ (vk, vn, vt) :: q))), (tb, .svs [Str nm, SL ats, RL l])]⟩) := ⟨fun k S => _, fun _ _ => Iff.rfl⟩
      refine SW.loop' J i ((hJ _ _).2 ⟨sortV X, [], hsl.symm, by simp, fun y hy => (List.not_mem_nil hy).elim, rfl⟩) (by rw [hsl]; repeat' (first | exact rfl | exact trivial | exact int_eq (by omega) | exact int_eq (by (rw [i64_wrap] <;> omega)) | (subst e0; exact rfl) | constructor)) ?_
      clear hD
      have hD : (0 : Nat) = 0 := rfl
      intro k S hIn
      obtain ⟨p, q, rfl, hpq, hq, rfl⟩ := (hJ _ _).1 hIn
      clear hIn
      have hpl : p.length + q.length = i := by rw [← hsl, ← hpq, List.length_append]
      rcases List.eq_nil_or_concat p with rfl | ⟨p', ⟨yk, yn, yt⟩, e⟩
      · have hins := ins_sort hpq (v := (vk, vn, vt)) (fun y hy => by cases hy) hq
        have z0 : ((([] : List V3).length : Nat) : Int) = 0 := rfl
        have c0 : (i + 1) * 3 = (vCs ((vk, vn, vt) :: q)).length := by rw [← vCs_len, List.length_cons]; rw [List.length_nil] at hpl; omega
        rw [List.nil_append] at hins
        repeat' first | (with_reducible refine And.intro (by omega) ?_) | (refine SW.seq_k fun K hK => ?_) | (refine SW.block ?_) | ((first | refine SW.region ?_ | refine SW.regionD (Checked.mixed Tryz.checked) (by kernel_rfl) ?_ | refine SW.cond ?_ | refine SW.skip ?_ | refine SW.exit ?_ | refine SW.ret ?_ | (refine allF_i fun b hb => ?_; replace hD := And.intro hb hD; clear hb; try simp only [fresh_cons, fresh_nil, and_true, ne_eq, neF] at hD) | simp only [appK, appOsK]); try simp only [go_sem, hD, w1, i0, z0]) | (refine And.intro (by omega) ?_) | (refine ifI (fun hc => ?_) (fun hc => ?_) <;> first | (exfalso; omega) | skip) | ((first | apply hK | ((iterate 1 (clear hK K)); apply hK) | ((iterate 2 (clear hK K)); apply hK) | ((iterate 3 (clear hK K)); apply hK) | ((iterate 4 (clear hK K)); apply hK) | ((iterate 5 (clear hK K)); apply hK)); clear hK K)
        refine Rnd.sub (l.length - (i + 1)) (by omega) ((hI _ _).2 ⟨i + 1, _, _, rfl, by omega, (by rw [hmp, ← hins]; exact Acc.osH ⟨⟨htb, hbt⟩, trivial⟩ c0), rfl⟩) (by repeat' (first | exact rfl | exact trivial | exact int_eq (by omega) | exact int_eq (by (rw [i64_wrap] <;> omega)) | constructor))
      · rw [List.concat_eq_append] at e
        subst e
        have e7 : (p' ++ [(yk, yn, yt)]).length = p'.length + 1 := by simp
        rw [e7] at hpl
        rw [e7]
        obtain ⟨L, hL⟩ : ∃ L, L = p' ++ [(yk, yn, yt)] ++ (vk, vn, vt) :: q := ⟨_, rfl⟩
        rw [← hL]
        have hLl : L.length = i + 1 := by rw [hL]; simp; omega
        have c0 : (vCs L).length = (i + 1) * 3 := by rw [← vCs_len, hLl]
        obtain ⟨g1, g2, g3⟩ := vCs_get L (p'.length + 1) (by omega)
        obtain ⟨g4, g5, g6⟩ := vCs_get L p'.length (by omega)
        have m1 : L.getD (p'.length + 1) v0 = (vk, vn, vt) := by rw [hL, ← e7]; exact mid_get _ _ _
        have m2 : L.getD p'.length v0 = (yk, yn, yt) := by rw [hL]; exact mid_get' _ _ _ _
        rw [m1] at g1 g2 g3
        rw [m2] at g4 g5 g6
        simp only at g1 g2 g3 g4 g5 g6
        have k0 : (0 : Int) < ((p'.length + 1 : Nat) : Int) := by omega
        have wk : IntKind.i64.wrap (((p'.length + 1 : Nat) : Int) - 1) = ((p'.length : Nat) : Int) := by rw [i64_wrap (by omega) (by omega)]; omega
        have k1 : (0 : Int) ≤ ((p'.length + 1 : Nat) : Int) := by omega
        have k2 : ((p'.length + 1 : Nat) : Int) < ((i + 1 : Nat) : Int) := by omega
        have k3 : (0 : Int) ≤ ((p'.length : Nat) : Int) := by omega
        have k4 : ((p'.length : Nat) : Int) < ((i + 1 : Nat) : Int) := by omega
        have k5 : ((p'.length + 1 : Nat) : Int).toNat = p'.length + 1 := Int.toNat_natCast _
        have k6 : ((p'.length : Nat) : Int).toNat = p'.length := Int.toNat_natCast _
        have hyt := hst (yk, yn, yt) ((sortV_perm X).mem_iff.1 (by rw [← hpq]; simp))
        have cr := compare_r vk vn vt yk yn yt hvt hyt
        by_cases hcmp : cmp3 (vk, vn, vt) (yk, yn, yt) < 0
        · have hcl : cmpV vk vn vt yk yn yt < 0 := hcmp
          generalize cmpV vk vn vt yk yn yt = cv at *
          have s1 := vCs_set L (p'.length + 1) (yk, yn, yt) (by omega)
          have s2 := vCs_set (L.set (p'.length + 1) (yk, yn, yt)) p'.length (vk, vn, vt) (by rw [List.length_set]; omega)
          have s3 := vCs_set L p'.length (vk, vn, vt) (by omega)
          have s4 := vCs_set (L.set p'.length (vk, vn, vt)) (p'.length + 1) (yk, yn, yt) (by rw [List.length_set]; omega)
          have s5 : (L.set (p'.length + 1) (yk, yn, yt)).set p'.length (vk, vn, vt) = p' ++ (vk, vn, vt) :: (yk, yn, yt) :: q := by rw [hL]; exact mid_swap _ _ _ _
          have s6 : (L.set p'.length (vk, vn, vt)).set (p'.length + 1) (yk, yn, yt) = p' ++ (vk, vn, vt) :: (yk, yn, yt) :: q := by rw [hL]; exact mid_swap' _ _ _ _
          rw [s5] at s2
          rw [s6] at s4
          simp only at s1 s2 s3 s4
          have hq2 : ∀ y ∈ (yk, yn, yt) :: q, cmp3 (vk, vn, vt) y < 0 := fun y hy => by
            rcases List.mem_cons.1 hy with rfl | hy
            · exact hcmp
            · exact hq y hy
          repeat' first | (with_reducible refine And.intro (by omega) ?_) | (refine SW.seq_k fun K hK => ?_) | (refine SW.block ?_) | ((first | refine SW.region ?_ | refine SW.regionZ (id := 7) (Checked.mixed Tryz.checked) ((.one 0 [0, 1, 2, 3, 4, 5, 6, 7, 8, 9, 10, 11, 12, 13, 14] (.one 1 [1, 2, 3, 4, 5, 6, 7, 8, 9, 10, 11, 12, 13, 14] (.one 2 [2, 3, 4, 5, 6, 7, 8, 9, 10, 11, 12, 13, 14] (.one 3 [3, 5, 6, 12, 13, 14] (.one 4 [4, 5, 6, 12, 13, 14] (.one 5 [5, 6, 12, 13, 14] (.one 6 [6, 12, 13, 14] (.one 7 [7, 10, 11, 12, 13, 14] (.one 8 [8, 9, 10, 11, 12, 13, 14] (.one 9 [9, 10, 11, 12, 13, 14] (.one 10 [10, 11, 12, 13, 14] (.one 11 [11, 12, 13, 14] (.one 12 [12, 13, 14] (.one 13 [13, 14] (.one 14 [14] .done))))))))))))))) : OZ) (by kernel_rfl) ?_ | refine SW.regionZ (id := 9) (Checked.mixed Tryz.checked) ((.one 0 [0, 14, 15, 16, 17] (.one 1 [1, 14, 15, 16, 17] (.one 5 [5, 8, 9, 14, 15, 16, 17] (.one 6 [6, 7, 8, 9, 14, 15, 16, 17] (.one 7 [7, 8, 9, 14, 15, 16, 17] (.one 8 [8, 9, 14, 15, 16, 17] (.one 9 [9, 14, 15, 16, 17] (.one 10 [10, 12, 13, 14, 15, 16, 17] (.one 11 [11, 12, 13, 14, 15, 16, 17] (.one 12 [12, 13, 14, 15, 16, 17] (.one 13 [13, 14, 15, 16, 17] (.one 14 [14, 15, 16, 17] (.alt 2 (.alt 3 (.alt 4 (.alt 15 (.one 16 [16, 17] (.alt 17 .done .nil)) .nil) (.alt 15 (.one 4 [4, 16, 17] (.one 16 [16, 17] (.alt 17 .done .nil))) .nil)) (.alt 15 (.one 3 [3, 4, 16, 17] (.one 4 [4, 16, 17] (.one 16 [16, 17] (.alt 17 .done .nil)))) .nil)) (.alt 3 (.alt 2 (.alt 4 (.alt 15 (.one 16 [16, 17] (.alt 17 .done .nil)) .nil) (.alt 15 (.one 4 [4, 16, 17] (.one 16 [16, 17] (.alt 17 .done .nil))) .nil)) (.alt 4 (.alt 2 (.alt 15 (.one 16 [16, 17] (.alt 17 .done .nil)) .nil) (.alt 15 (.one 2 [2, 16, 17] (.one 16 [16, 17] (.alt 17 .done .nil))) .nil)) (.alt 15 (.one 2 [2, 16, 17] (.one 4 [4, 16, 17] (.one 16 [16, 17] (.alt 17 .done .nil)))) .nil))) (.alt 15 (.one 2 [2, 16, 17] (.one 3 [3, 4, 16, 17] (.one 4 [4, 16, 17] (.one 16 [16, 17] (.alt 17 .done .nil))))) .nil))))))))))))))) : OZ) (by kernel_rfl) ?_ | refine SW.regionD (Checked.mixed Tryz.checked) (by kernel_rfl) ?_ | refine SW.cond ?_ | refine SW.skip ?_ | refine SW.exit ?_ | refine SW.ret ?_ | refine Call.of_pure (cr) ?_ | refine ⟨_, cr, ?_⟩ | (refine allF_i fun b hb => ?_; replace hD := And.intro hb hD; clear hb; try simp only [fresh_cons, fresh_nil, and_true, ne_eq, neF] at hD) | simp only [appK, appOsK]); try simp only [go_sem, hD, w1, i0, k0, wk, k1, k2, k3, k4, k5, k6, g1, g2, g3, g4, g5, g6, c0, hcl, true_implies]) | (refine And.intro (by omega) ?_) | (refine ifI (fun hc => ?_) (fun hc => ?_) <;> first | (exfalso; omega) | skip) | ((first | apply hK | ((iterate 1 (clear hK K)); apply hK) | ((iterate 2 (clear hK K)); apply hK) | ((iterate 3 (clear hK K)); apply hK) | ((iterate 4 (clear hK K)); apply hK) | ((iterate 5 (clear hK K)); apply hK)); clear hK K) | (refine And.intro ?_ ?_)
          all_goals
            first | rw [s1, s2] | rw [s3, s4]
            refine Rnd.sub p'.length (by omega) ((hJ _ _).2 ⟨p', (yk, yn, yt) :: q, rfl, by rw [← hpq]; simp, hq2, rfl⟩) (by repeat' (first | exact rfl | exact trivial | exact int_eq (by omega) | exact int_eq (by (rw [i64_wrap] <;> omega)) | constructor))
        · have hcl : ¬ cmpV vk vn vt yk yn yt < 0 := hcmp
          have hins := ins_sort hpq (v := (vk, vn, vt)) (fun y hy => by
            rw [List.getLast?_concat] at hy
            cases hy
            rw [cmp3_swap]
            omega) hq
          rw [← hL] at hins
          generalize cmpV vk vn vt yk yn yt = cv at *
          repeat' first | (with_reducible refine And.intro (by omega) ?_) | (refine SW.seq_k fun K hK => ?_) | (refine SW.block ?_) | ((first | refine SW.region ?_ | refine SW.regionZ (id := 7) (Checked.mixed Tryz.checked) ((.one 0 [0, 1, 2, 3, 4, 5, 6, 7, 8, 9, 10, 11, 12, 13, 14] (.one 1 [1, 2, 3, 4, 5, 6, 7, 8, 9, 10, 11, 12, 13, 14] (.one 2 [2, 3, 4, 5, 6, 7, 8, 9, 10, 11, 12, 13, 14] (.one 3 [3, 5, 6, 12, 13, 14] (.one 4 [4, 5, 6, 12, 13, 14] (.one 5 [5, 6, 12, 13, 14] (.one 6 [6, 12, 13, 14] (.one 7 [7, 10, 11, 12, 13, 14] (.one 8 [8, 9, 10, 11, 12, 13, 14] (.one 9 [9, 10, 11, 12, 13, 14] (.one 10 [10, 11, 12, 13, 14] (.one 11 [11, 12, 13, 14] (.one 12 [12, 13, 14] (.one 13 [13, 14] (.one 14 [14] .done))))))))))))))) : OZ) (by kernel_rfl) ?_ | refine SW.regionZ (id := 9) (Checked.mixed Tryz.checked) ((.one 0 [0, 14, 15, 16, 17] (.one 1 [1, 14, 15, 16, 17] (.one 5 [5, 8, 9, 14, 15, 16, 17] (.one 6 [6, 7, 8, 9, 14, 15, 16, 17] (.one 7 [7, 8, 9, 14, 15, 16, 17] (.one 8 [8, 9, 14, 15, 16, 17] (.one 9 [9, 14, 15, 16, 17] (.one 10 [10, 12, 13, 14, 15, 16, 17] (.one 11 [11, 12, 13, 14, 15, 16, 17] (.one 12 [12, 13, 14, 15, 16, 17] (.one 13 [13, 14, 15, 16, 17] (.one 14 [14, 15, 16, 17] (.alt 2 (.alt 3 (.alt 4 (.alt 15 (.one 16 [16, 17] (.alt 17 .done .nil)) .nil) (.alt 15 (.one 4 [4, 16, 17] (.one 16 [16, 17] (.alt 17 .done .nil))) .nil)) (.alt 15 (.one 3 [3, 4, 16, 17] (.one 4 [4, 16, 17] (.one 16 [16, 17] (.alt 17 .done .nil)))) .nil)) (.alt 3 (.alt 2 (.alt 4 (.alt 15 (.one 16 [16, 17] (.alt 17 .done .nil)) .nil) (.alt 15 (.one 4 [4, 16, 17] (.one 16 [16, 17] (.alt 17 .done .nil))) .nil)) (.alt 4 (.alt 2 (.alt 15 (.one 16 [16, 17] (.alt 17 .done .nil)) .nil) (.alt 15 (.one 2 [2, 16, 17] (.one 16 [16, 17] (.alt 17 .done .nil))) .nil)) (.alt 15 (.one 2 [2, 16, 17] (.one 4 [4, 16, 17] (.one 16 [16, 17] (.alt 17 .done .nil)))) .nil))) (.alt 15 (.one 2 [2, 16, 17] (.one 3 [3, 4, 16, 17] (.one 4 [4, 16, 17] (.one 16 [16, 17] (.alt 17 .done .nil))))) .nil))))))))))))))) : OZ) (by kernel_rfl) ?_ | refine SW.regionD (Checked.mixed Tryz.checked) (by kernel_rfl) ?_ | refine SW.cond ?_ | refine SW.skip ?_ | refine SW.exit ?_ | refine SW.ret ?_ | refine Call.of_pure (cr) ?_ | refine ⟨_, cr, ?_⟩ | (refine allF_i fun b hb => ?_; replace hD := And.intro hb hD; clear hb; try simp only [fresh_cons, fresh_nil, and_true, ne_eq, neF] at hD) | simp only [appK, appOsK]); try simp only [go_sem, hD, w1, i0, k0, wk, k1, k2, k3, k4, k5, k6, g1, g2, g3, g4, g5, g6, c0, hcl, true_implies]) | (refine And.intro (by omega) ?_) | (refine ifI (fun hc => ?_) (fun hc => ?_) <;> first | (exfalso; omega) | skip) | ((first | apply hK | ((iterate 1 (clear hK K)); apply hK) | ((iterate 2 (clear hK K)); apply hK) | ((iterate 3 (clear hK K)); apply hK) | ((iterate 4 (clear hK K)); apply hK) | ((iterate 5 (clear hK K)); apply hK)); clear hK K) | (refine And.intro ?_ ?_)
          all_goals
            refine Rnd.sub (l.length - (i + 1)) (by omega) ((hI _ _).2 ⟨i + 1, _, _, rfl, by omega, (by rw [hmp, ← hins]; exact Acc.osH ⟨⟨htb, hbt⟩, trivial⟩ c0.symm), rfl⟩) (by repeat' (first | exact rfl | exact trivial | exact int_eq (by omega) | exact int_eq (by (rw [i64_wrap] <;> omega)) | constructor))
  · have hli : ¬ ((i : Nat) : Int) < (((l.length) : Nat) : Int) := by omega
    obtain rfl : i = l.length := by omega
    rw [List.take_length] at hB
    have hsl := sortV_len (l.map fun r => r.2.getD a v0)
    rw [List.length_map] at hsl
    rcases hB.casesH with ⟨e0, e1, rfl, rfl⟩ | ⟨g, hgf, e0, rfl, hle⟩
    · repeat' first | (with_reducible refine And.intro (by omega) ?_) | (refine SW.seq_k fun K hK => ?_) | (refine SW.block ?_) | ((first | refine SW.region ?_ | refine SW.regionD (Checked.mixed Tryz.checked) (by kernel_rfl) ?_ | refine SW.cond ?_ | refine SW.skip ?_ | refine SW.exit ?_ | refine SW.ret ?_ | (refine allF_i fun b hb => ?_; replace hD := And.intro hb hD; clear hb; try simp only [fresh_cons, fresh_nil, and_true, ne_eq, neF] at hD) | simp only [appK, appOsK]); try simp only [go_sem, hD, hli, true_implies]) | (refine And.intro (by omega) ?_) | (refine ifI (fun hc => ?_) (fun hc => ?_) <;> first | (exfalso; omega) | skip) | ((first | apply hK | ((iterate 1 (clear hK K)); apply hK) | ((iterate 2 (clear hK K)); apply hK) | ((iterate 3 (clear hK K)); apply hK) | ((iterate 4 (clear hK K)); apply hK) | ((iterate 5 (clear hK K)); apply hK)); clear hK K)
      refine retQ_le ((St.le_acc_fl (i := 4) (n := l.length) (sz := 3) (x := .sc (.slice none 0 0)) ?_ hB (vF (sortV (l.map fun r => r.2.getD a v0))) (fun j hj => vCs_at _ j (by omega))).trans St.le_drop) ?_
      · exact rfl
      simp only [resL_tmp, resL_nil, tupOf, go_sem, hD]
      unfold VL
      rw [hsl]
    · refine Ab.SW.le (hle _) ?_
      have hgt : ¬ g = tb := fun e => hgf.1.1 e.symm
      repeat' first | (with_reducible refine And.intro (by omega) ?_) | (refine SW.seq_k fun K hK => ?_) | (refine SW.block ?_) | ((first | refine SW.region ?_ | refine SW.regionD (Checked.mixed Tryz.checked) (by kernel_rfl) ?_ | refine SW.cond ?_ | refine SW.skip ?_ | refine SW.exit ?_ | refine SW.ret ?_ | (refine allF_i fun b hb => ?_; replace hD := And.intro hb hD; clear hb; try simp only [fresh_cons, fresh_nil, and_true, ne_eq, neF] at hD) | simp only [appK, appOsK]); try simp only [go_sem, hD, hli, true_implies, hgt]) | (refine And.intro (by omega) ?_) | (refine ifI (fun hc => ?_) (fun hc => ?_) <;> first | (exfalso; omega) | skip) | ((first | apply hK | ((iterate 1 (clear hK K)); apply hK) | ((iterate 2 (clear hK K)); apply hK) | ((iterate 3 (clear hK K)); apply hK) | ((iterate 4 (clear hK K)); apply hK) | ((iterate 5 (clear hK K)); apply hK)); clear hK K)
      refine retQ_le ((St.le_acc_fl (i := 4) (n := l.length) (sz := 3) (x := .os g 0 l.length 3) ?_ (Acc.osH hgf e0) (vF (sortV (l.map fun r => r.2.getD a v0))) (fun j hj => vCs_at _ j (by omega))).trans St.le_drop) ?_
      · exact rfl
      simp only [resL_tmp, resL_nil, tupOf, go_sem, hD]
      unfold VL
      rw [hsl]
end Go.Proofs.YtddkacbcecedaaaGreatDoor
