/- Contracts: Completeness of the program. -/
import Derived.Test.YtddkacbcecedaaaGreatDoorC2
import Derived.Test.YtddkacbcecedaaaGreatDoorC1
import Derived.Test.YtddkacbcecedaaaGreatDoorE4
set_option linter.unusedSimpArgs false
set_option linter.unusedVariables false
set_option linter.unusedSectionVars false
namespace Go.Proofs.YtddkacbcecedaaaGreatDoor
open Go Go.Ab Go.Ab.A34
variable [Gl] [Tabs] [Bru]

theorem okT_v0 : okT v0 := ⟨by have e : emp ⟨#[]⟩ = true := barr_eq.2 rfl
                               unfold okV vok v0
                               simp [e], by unfold In64; decide⟩
/-- What is known of a profile. -/
def PO (N : Int) (j : Nat) (c : Co) : Prop := (0 ≤ c.nulls ∧ c.nulls ≤ N) ∧ (0 ≤ c.times ∧ c.times ≤ N) ∧ (0 ≤ c.numbers ∧ c.numbers ≤ j * N) ∧ (0 ≤ c.texts ∧ c.texts ≤ j * N) ∧ okT c.least ∧ okT c.greatest ∧ okT c.common
theorem fold_ok (N : Int) (hN : 0 ≤ N) : ∀ (H : List (V3 × Int)) (j : Nat) (c : Co), (∀ p ∈ H, (0 ≤ p.2 ∧ p.2 ≤ N) ∧ okT p.1) → PO N j c → PO N (j + H.length) (H.foldl stepC c) ∧ (H.foldl stepC c).rows = c.rows ∧ (H.foldl stepC c).distinct = c.distinct
  | [], j, c, _, hc => ⟨hc, rfl, rfl⟩
  | p :: H, j, c, hH, hc => by
    rw [List.foldl_cons]
    have hp := hH p List.mem_cons_self
    obtain ⟨h1, h2, h3, h4, h5, h6, h7⟩ := hc
    have e : ((j + 1 : Nat) : Int) * N = (j : Int) * N + N := by rw [show ((j + 1 : Nat) : Int) = (j : Int) + 1 by omega, Int.add_mul, Int.one_mul]
    have := fold_ok N hN H (j + 1) (stepC c p) (fun q hq => hH q (List.mem_cons_of_mem _ hq)) (by
      unfold PO stepC
      rw [e]
      refine ⟨?_, ?_, ?_, ?_, ?_, ?_, ?_⟩
      all_goals simp only
      · split
        · exact hp.1
        · exact h1
      · split
        · exact hp.1
        · exact h2
      · split
        · omega
        · omega
      · split
        · omega
        · omega
      · split
        · exact hp.2
        · exact h5
      · split
        · exact h6
        · exact hp.2
      · split
        · exact hp.2
        · exact h7)
    rw [List.length_cons, show j + (H.length + 1) = j + 1 + H.length by omega]
    exact ⟨this.1, this.2.1, this.2.2⟩
theorem hist_mem (l : List V3) (P : V3 → Prop) (hP : ∀ v ∈ l, P v) : ∀ p ∈ histS l, P p.1 := by
  have : ∀ (l : List V3) (acc : List (V3 × Int)), (∀ v ∈ l, P v) → (∀ p ∈ acc, P p.1) → ∀ p ∈ l.foldl hAdd acc, P p.1 := fun l => by
    induction l with
    | nil => intro acc _ h; exact h
    | cons v l ih =>
      intro acc h1 h2
      rw [List.foldl_cons]
      refine ih _ (fun x hx => h1 x (List.mem_cons_of_mem _ hx)) (fun p hp => ?_)
      have hv := h1 v List.mem_cons_self
      unfold hAdd at hp
      split at hp
      · rw [List.mem_singleton.1 hp]; exact hv
      · split at hp
        · rcases List.mem_append.1 hp with hp | hp
          · exact h2 p (List.dropLast_subset _ hp)
          · rw [List.mem_singleton.1 hp]; exact hv
        · rcases List.mem_append.1 hp with hp | hp
          · exact h2 p hp
          · rw [List.mem_singleton.1 hp]; exact hv
  exact this l [] hP (fun p hp => by cases hp)
theorem prof_ok (t : Tb) (a : Nat) (h : validS t = 0) (ha : a < t.attrs.length) (h64 : ∀ r ∈ t.rows, ∀ v ∈ r.2, In64 v.2.1) : PO t.rows.length (histS (colS t a)).length (profS t a) ∧ (profS t a).rows = t.rows.length ∧ (profS t a).distinct = (histS (colS t a)).length ∧ (histS (colS t a)).length ≤ t.rows.length := by
  obtain ⟨r1, r2, r3⟩ := valid_rows h
  have hal : ∀ r ∈ t.rows, a < r.2.length := fun r hr => by have := r3 r hr; omega
  have hcl : (colS t a).length = t.rows.length := by unfold colS; rw [sortV_len, List.length_map]
  have hb := hist_bound (colS t a)
  have hm := hist_mem (colS t a) okT (col_mem hal (fun r hr v hv => ⟨(r3 r hr).2 v hv, h64 r hr v hv⟩))
  rw [hcl] at hb
  have := fold_ok t.rows.length (by omega) (histS (colS t a)) 0 ⟨t.rows.length, 0, (histS (colS t a)).length, v0, v0, v0, 0, 0, 0⟩ (fun p hp => ⟨by have := hb.2 p hp; omega, hm p hp⟩) ⟨by simp only; omega, by simp only; omega, by simp, by simp, okT_v0, okT_v0, okT_v0⟩
  rw [Nat.zero_add] at this
  exact ⟨this.1, this.2.1, this.2.2, hb.1⟩
theorem prof_co (t : Tb) (a : Nat) (h : validS t = 0) (ha : a < t.attrs.length) (h64 : ∀ r ∈ t.rows, ∀ v ∈ r.2, In64 v.2.1) : OkCo (profS t a) := by
  obtain ⟨⟨p1, p2, p3, p4, p5, p6, p7⟩, q1, q2, q3⟩ := prof_ok t a h ha h64
  have r1 := (valid_rows h).1
  have hm : ((histS (colS t a)).length : Int) * (t.rows.length : Int) ≤ 1000 * 1000 := Int.mul_le_mul (by omega) (by omega) (by omega) (by omega)
  unfold OkCo In64
  rw [q1, q2]
  exact ⟨by omega, by omega, by omega, by omega, by omega, by omega, p5, p6, p7⟩

/-- The sum of the nulls of some columns. -/
def nulS (t : Tb) (M : List Int) : Int := (M.map fun i => (profS t i.toNat).nulls).sum
/-- Completeness. -/
def compS (t : Tb) (s : Nat) : Int × Int × Int :=
  if validS t = 0 then (if s < 2 ^ t.attrs.length then (if (memS s).length * t.rows.length = 0 then mkR 1 1 else mkR (((memS s).length * t.rows.length : Nat) - nulS t (memS s)) ((memS s).length * t.rows.length : Nat)) else (0, 0, 6)) else (0, 0, validS t)
theorem mem_in : ∀ s : Fin 32, ∀ n : Fin 6, s.val < 2 ^ n.val → (memS s.val).all (fun i => decide (0 ≤ i ∧ i.toNat < n.val)) = true := by decide

set_option maxHeartbeats 2000000 in
set_option maxRecDepth 20000 in
theorem comp_p (t : Tb) (s : Nat) (hs : s < 4294967296) (h5 : t.attrs.length ≤ 5) (h64 : ∀ r ∈ t.rows, ∀ v ∈ r.2, In64 v.2.1) : PCall Tryz.prog 9 [TB t, U32 s] (FR (compS t s)) := by
  have va := valid_tp t
  obtain ⟨X, hX⟩ : ∃ X, X = compS t s := ⟨_, rfl⟩
  rw [← hX]
  unfold compS at hX
  by_cases hv : validS t = 0
  · rw [if_pos hv] at hX
    rw [hv] at va
    have hsh : ((s : Nat) : Int).fdiv (2 ^ min t.attrs.length 32) = ((s / 2 ^ t.attrs.length : Nat) : Int) := by
      rw [Nat.min_eq_left (by omega), Int.fdiv_eq_ediv_of_nonneg _ (Int.pow_nonneg (by omega))]
      simp
    have pr : ∀ a : Nat, a < t.attrs.length → PCall Tryz.prog 29 [TB t, I64 a] (CO (profS t a)) := fun a ha => profile_p t a (by have := (valid_rows hv).1; omega) (fun r hr => by have := (valid_rows hv).2.2 r hr; omega)
    have po : ∀ a : Nat, a < t.attrs.length → 0 ≤ (profS t a).nulls ∧ (profS t a).nulls ≤ t.rows.length := fun a ha => (prof_ok t a hv ha h64).1.1
    have hr1 := (valid_rows hv).1
    by_cases h2 : s < 2 ^ t.attrs.length
    · rw [if_pos h2] at hX
      have hz : s / 2 ^ t.attrs.length = 0 := Nat.div_eq_of_lt h2
      rw [hz] at hsh
      have hs32 : s < 32 := Nat.lt_of_lt_of_le h2 (Nat.pow_le_pow_right (n := 2) (by omega) h5)
      have me := members_c s hs32
      have ml := mem_len ⟨s, hs32⟩
      have mi := mem_in ⟨s, hs32⟩ ⟨t.attrs.length, by omega⟩ h2
      simp only at ml mi
      have m11 := make_p 1 1 (by omega) (by omega) (by omega) (by omega)
      unfold nulS at hX
      have hnul : ∃ F : Nat → Co, F = profS t := ⟨_, rfl⟩
      obtain ⟨F, hF⟩ := hnul
      rw [← hF] at hX pr po
      clear hF
      generalize memS s = M at *
      obtain ⟨nm, ats, l⟩ := t
      simp only at h2 hr1 h5 hsh pr po hX mi h64 hz
      have wm : IntKind.i64.wrap (((M.length : Nat) : Int) * ((l.length : Nat) : Int)) = ((M.length * l.length : Nat) : Int) := by
        have : M.length * l.length ≤ 5 * 1000 := Nat.mul_le_mul ml hr1
        rw [← Int.natCast_mul, i64_wrap (by omega) (by omega)]
      have hall : M.length * l.length ≤ 5 * 1000 := Nat.mul_le_mul ml hr1
      have z0 : ((0 : Nat) : Int) = 0 := rfl
      by_cases ha0 : M.length * l.length = 0
      · rw [if_pos ha0] at hX
        subst hX
        rw [ha0] at wm
        generalize mkR 1 1 = Q at *
        refine Call.enter' (N := 57) (rs := [.cell 4 38, .tmp 5]) Tryz.func9 rfl rfl rfl (by decide) rfl ?_; simp only [argT]; have hD : (0 : Nat) = 0 := rfl
        repeat' first | (with_reducible refine And.intro (by omega) ?_) | (refine SW.seq_k fun K hK => ?_) | (refine SW.block ?_) | ((first | refine SW.region ?_ | refine SW.regionD (Checked.mixed Tryz.checked) (by kernel_rfl) ?_ | refine SW.cond ?_ | refine SW.skip ?_ | refine SW.exit ?_ | refine SW.ret ?_ | refine Call.of_pure (va) ?_ | refine ⟨_, va, ?_⟩ | refine Call.of_pure (me) ?_ | refine ⟨_, me, ?_⟩ | refine Call.of_pure (m11) ?_ | refine ⟨_, m11, ?_⟩ | (refine allF_i fun b hb => ?_; replace hD := And.intro hb hD; clear hb; try simp only [fresh_cons, fresh_nil, and_true, ne_eq, neF] at hD) | simp only [appK, appOsK]); try simp only [go_sem, hD, hsh, wm, z0]) | (refine And.intro (by omega) ?_) | (refine ifI (fun hc => ?_) (fun hc => ?_) <;> first | (exfalso; omega) | skip) | ((first | apply hK | ((iterate 1 (clear hK K)); apply hK) | ((iterate 2 (clear hK K)); apply hK) | ((iterate 3 (clear hK K)); apply hK) | ((iterate 4 (clear hK K)); apply hK) | ((iterate 5 (clear hK K)); apply hK)); clear hK K)
        apply ret_cell (i := 4) (n := 2); exact rfl; (simp only [go_sem, hD]; try rfl); (first | exact Nat.le_refl _ | decide); simp only [resL_tmp, resL_cellE, resC_ok, resL_nil, tupOf, getN, go_sem, hD]
      · rw [if_neg ha0] at hX
        have ha1 : ¬ ((M.length * l.length : Nat) : Int) = 0 := by omega
        have hX0 : X = mkR (((M.length * l.length : Nat) : Int) - ((M.take 0).map fun i => (F i.toNat).nulls).sum - ((M.drop 0).map fun i => (F i.toNat).nulls).sum) ((M.length * l.length : Nat) : Int) := by rw [hX]; simp
        clear hX
        generalize hA : M.length * l.length = A at *
        refine Call.enter' (N := 57) (rs := [.cell 4 38, .tmp 5]) Tryz.func9 rfl rfl rfl (by decide) rfl ?_; simp only [argT]; have hD : (0 : Nat) = 0 := rfl
        repeat' first | (with_reducible refine And.intro (by omega) ?_) | (refine SW.seq_k fun K hK => ?_) | (refine SW.block ?_) | ((first | refine SW.region ?_ | refine SW.regionD (Checked.mixed Tryz.checked) (by kernel_rfl) ?_ | refine SW.cond ?_ | refine SW.skip ?_ | refine SW.exit ?_ | refine SW.ret ?_ | refine Call.of_pure (va) ?_ | refine ⟨_, va, ?_⟩ | refine Call.of_pure (me) ?_ | refine ⟨_, me, ?_⟩ | refine Call.of_pure (m11) ?_ | refine ⟨_, m11, ?_⟩ | (refine allF_i fun b hb => ?_; replace hD := And.intro hb hD; clear hb; try simp only [fresh_cons, fresh_nil, and_true, ne_eq, neF] at hD) | simp only [appK, appOsK]); try simp only [go_sem, hD, hsh, wm, z0, ha1]) | (refine And.intro (by omega) ?_) | (refine ifI (fun hc => ?_) (fun hc => ?_) <;> first | (exfalso; omega) | skip) | ((first | apply hK | ((iterate 1 (clear hK K)); apply hK) | ((iterate 2 (clear hK K)); apply hK) | ((iterate 3 (clear hK K)); apply hK) | ((iterate 4 (clear hK K)); apply hK) | ((iterate 5 (clear hK K)); apply hK)); clear hK K)
        obtain ⟨rb, rfl⟩ : ∃ x, x = b := ⟨_, rfl⟩
        obtain ⟨tb, rfl⟩ : ∃ x, x = b := ⟨_, rfl⟩
        obtain ⟨I, hI⟩ : ∃ I : Nat → St → Prop, ∀ k S, I k S ↔ (∃ (i : Nat) , k = M.length - i ∧ i ≤ M.length ∧ X = mkR ((A : Int) - ((M.take i).map fun i => (F i.toNat).nulls).sum - ((M.drop i).map fun i => (F i.toNat).nulls).sum) (A : Int) ∧ 0 ≤ ((M.take i).map fun i => (F i.toNat).nulls).sum ∧ ((M.take i).map fun i => (F i.toNat).nulls).sum ≤ i * 1000 ∧ S = ⟨[(2, .op tb 0), (4, .op rb 0), (8, I64 A), (9, I64 ((A : Int) - ((M.take i).map fun i => (F i.toNat).nulls).sum)), (39, NL M), (40, I64 M.length), (41, I64 i)], [(rb, .svs [I64 0, I64 0]), (tb, .svs [Str nm, SL ats, RL l])]⟩) := ⟨fun k S => _, fun _ _ => Iff.rfl⟩
        refine SW.loop' I (M.length) ((hI _ _).2 ⟨0, rfl, Nat.zero_le _, hX0, by simp, by simp, rfl⟩) (by repeat' (first | exact rfl | exact trivial | exact int_eq (by omega) | exact int_eq (by (rw [i64_wrap] <;> omega)) | constructor)) ?_
        intro k S hIn
        obtain ⟨i, rfl, hi, hC, n1, n2, rfl⟩ := (hI _ _).1 hIn
        clear hIn
        have ie : ((i : Nat) : Int).toNat = i := Int.toNat_natCast _
        have i0 : (0 : Int) ≤ ((i : Nat) : Int) := by omega
        clear hX0
        by_cases hlt : i < M.length
        · have hli : ((i : Nat) : Int) < (((M.length) : Nat) : Int) := by omega
          have w1 : IntKind.i64.wrap ((i : Int) + 1) = ((i + 1 : Nat) : Int) := by rw [i64_wrap (by omega) (by omega)]; omega
          have hg : M.getD i 0 = M[i] := by simp [List.getD_eq_getElem?_getD, hlt]
          have hmi := of_decide_eq_true (List.all_eq_true.1 mi _ (getD_mem 0 hlt))
          have htk : ((M.take (i + 1)).map fun i => (F i.toNat).nulls).sum = ((M.take i).map fun i => (F i.toNat).nulls).sum + (F (M.getD i 0).toNat).nulls := by
            rw [List.take_add_one, List.getElem?_eq_getElem hlt, List.map_append, List.sum_append, hg]
            simp
          have hdr : ((M.drop i).map fun i => (F i.toNat).nulls).sum = (F (M.getD i 0).toNat).nulls + ((M.drop (i + 1)).map fun i => (F i.toNat).nulls).sum := by
            rw [List.drop_eq_getElem_cons hlt, List.map_cons, List.sum_cons, hg]
          have po' := po _ hmi.2
          have pr' := pr _ hmi.2
          rw [hdr] at hC
          obtain ⟨z, hz⟩ : ∃ z, M.getD i 0 = z := ⟨_, rfl⟩
          rw [hz] at htk hC po' pr' hmi
          have ez : ((z.toNat : Nat) : Int) = z := by omega
          rw [ez] at pr'
          generalize F z.toNat = c at *
          generalize ((M.take i).map fun i => (F i.toNat).nulls).sum = S1 at *
          obtain ⟨cr, cu, cd, ⟨lk, ln, lt⟩, ⟨gk, gn, gt⟩, ⟨mk, mn, mt⟩, ti, nb, tx⟩ := c
          simp only at po' htk hC
          have wz : IntKind.i64.wrap ((A : Int) - S1 - cu) = (A : Int) - ((M.take (i + 1)).map fun i => (F i.toNat).nulls).sum := by rw [htk, i64_wrap (by omega) (by omega)]; omega
          repeat' first | (with_reducible refine And.intro (by omega) ?_) | (refine SW.seq_k fun K hK => ?_) | (refine SW.block ?_) | ((first | refine SW.region ?_ | refine SW.regionD (Checked.mixed Tryz.checked) (by kernel_rfl) ?_ | refine SW.cond ?_ | refine SW.skip ?_ | refine SW.exit ?_ | refine SW.ret ?_ | refine Call.of_pure (pr') ?_ | refine ⟨_, pr', ?_⟩ | (refine allF_i fun b hb => ?_; replace hD := And.intro hb hD; clear hb; try simp only [fresh_cons, fresh_nil, and_true, ne_eq, neF] at hD) | simp only [appK, appOsK]); try simp only [go_sem, hD, hli, ie, i0, w1, hz, wz]) | (refine And.intro (by omega) ?_) | (refine ifI (fun hc => ?_) (fun hc => ?_) <;> first | (exfalso; omega) | skip) | ((first | apply hK | ((iterate 1 (clear hK K)); apply hK) | ((iterate 2 (clear hK K)); apply hK) | ((iterate 3 (clear hK K)); apply hK) | ((iterate 4 (clear hK K)); apply hK) | ((iterate 5 (clear hK K)); apply hK)); clear hK K)
          refine Rnd.sub (M.length - (i + 1)) (by omega) ((hI _ _).2 ⟨i + 1, rfl, by omega, (by rw [htk, hC]; congr 1; omega), (by rw [htk]; omega), (by rw [htk]; omega), rfl⟩) (by repeat' (first | exact rfl | exact trivial | exact int_eq (by omega) | exact int_eq (by (rw [i64_wrap] <;> omega)) | constructor))
        · have hli : ¬ ((i : Nat) : Int) < (((M.length) : Nat) : Int) := by omega
          obtain rfl : i = M.length := by omega
          rw [List.take_length, List.drop_length, List.map_nil, List.sum_nil, Int.sub_zero] at hC
          rw [List.take_length] at n1 n2 ⊢
          generalize (M.map fun i => (F i.toNat).nulls).sum = S1 at *
          have mp := make_p ((A : Int) - S1) (A : Int) (by omega) (by omega) (by omega) (by omega)
          rw [← hC] at mp
          repeat' first | (with_reducible refine And.intro (by omega) ?_) | (refine SW.seq_k fun K hK => ?_) | (refine SW.block ?_) | ((first | refine SW.region ?_ | refine SW.regionD (Checked.mixed Tryz.checked) (by kernel_rfl) ?_ | refine SW.cond ?_ | refine SW.skip ?_ | refine SW.exit ?_ | refine SW.ret ?_ | refine Call.of_pure (mp) ?_ | refine ⟨_, mp, ?_⟩ | (refine allF_i fun b hb => ?_; replace hD := And.intro hb hD; clear hb; try simp only [fresh_cons, fresh_nil, and_true, ne_eq, neF] at hD) | simp only [appK, appOsK]); try simp only [go_sem, hD, hli]) | (refine And.intro (by omega) ?_) | (refine ifI (fun hc => ?_) (fun hc => ?_) <;> first | (exfalso; omega) | skip) | ((first | apply hK | ((iterate 1 (clear hK K)); apply hK) | ((iterate 2 (clear hK K)); apply hK) | ((iterate 3 (clear hK K)); apply hK) | ((iterate 4 (clear hK K)); apply hK) | ((iterate 5 (clear hK K)); apply hK)); clear hK K)
          apply ret_cell (i := 4) (n := 2); exact rfl; (simp only [go_sem, hD]; try rfl); (first | exact Nat.le_refl _ | decide); simp only [resL_tmp, resL_cellE, resC_ok, resL_nil, tupOf, getN, go_sem, hD]
    · rw [if_neg h2] at hX
      subst hX
      have hz : ¬ ((s / 2 ^ t.attrs.length : Nat) : Int) = 0 := by
        have : 0 < s / 2 ^ t.attrs.length := Nat.div_pos (by omega) (Nat.pow_pos (by omega))
        omega
      obtain ⟨nm, ats, l⟩ := t
      simp only at hsh hz
      refine Call.enter' (N := 57) (rs := [.cell 4 38, .tmp 5]) Tryz.func9 rfl rfl rfl (by decide) rfl ?_; simp only [argT]; have hD : (0 : Nat) = 0 := rfl
      repeat' first | (with_reducible refine And.intro (by omega) ?_) | (refine SW.seq_k fun K hK => ?_) | (refine SW.block ?_) | ((first | refine SW.region ?_ | refine SW.regionD (Checked.mixed Tryz.checked) (by kernel_rfl) ?_ | refine SW.cond ?_ | refine SW.skip ?_ | refine SW.exit ?_ | refine SW.ret ?_ | refine Call.of_pure (va) ?_ | refine ⟨_, va, ?_⟩ | (refine allF_i fun b hb => ?_; replace hD := And.intro hb hD; clear hb; try simp only [fresh_cons, fresh_nil, and_true, ne_eq, neF] at hD) | simp only [appK, appOsK]); try simp only [go_sem, hD, hsh, hz]) | (refine And.intro (by omega) ?_) | (refine ifI (fun hc => ?_) (fun hc => ?_) <;> first | (exfalso; omega) | skip) | ((first | apply hK | ((iterate 1 (clear hK K)); apply hK) | ((iterate 2 (clear hK K)); apply hK) | ((iterate 3 (clear hK K)); apply hK) | ((iterate 4 (clear hK K)); apply hK) | ((iterate 5 (clear hK K)); apply hK)); clear hK K)
      apply ret_cell (i := 4) (n := 2); exact rfl; (simp only [go_sem, hD]; try rfl); (first | exact Nat.le_refl _ | decide); simp only [resL_tmp, resL_cellE, resC_ok, resL_nil, tupOf, getN, go_sem, hD]
  · rw [if_neg hv] at hX
    subst hX
    generalize validS t = e at *
    refine Call.enter' (N := 57) (rs := [.cell 4 38, .tmp 5]) Tryz.func9 rfl rfl rfl (by decide) rfl ?_; simp only [argT]; have hD : (0 : Nat) = 0 := rfl
    repeat' first | (with_reducible refine And.intro (by omega) ?_) | (refine SW.seq_k fun K hK => ?_) | (refine SW.block ?_) | ((first | refine SW.region ?_ | refine SW.regionD (Checked.mixed Tryz.checked) (by kernel_rfl) ?_ | refine SW.cond ?_ | refine SW.skip ?_ | refine SW.exit ?_ | refine SW.ret ?_ | refine Call.of_pure (va) ?_ | refine ⟨_, va, ?_⟩ | (refine allF_i fun b hb => ?_; replace hD := And.intro hb hD; clear hb; try simp only [fresh_cons, fresh_nil, and_true, ne_eq, neF] at hD) | simp only [appK, appOsK]); try simp only [go_sem, hD, hv]) | (refine And.intro (by omega) ?_) | (refine ifI (fun hc => ?_) (fun hc => ?_) <;> first | (exfalso; omega) | skip) | ((first | apply hK | ((iterate 1 (clear hK K)); apply hK) | ((iterate 2 (clear hK K)); apply hK) | ((iterate 3 (clear hK K)); apply hK) | ((iterate 4 (clear hK K)); apply hK) | ((iterate 5 (clear hK K)); apply hK)); clear hK K)
    apply ret_cell (i := 4) (n := 2); exact rfl; (simp only [go_sem, hD]; try rfl); (first | exact Nat.le_refl _ | decide); simp only [resL_tmp, resL_cellE, resC_ok, resL_nil, tupOf, getN, go_sem, hD]
end Go.Proofs.YtddkacbcecedaaaGreatDoor
