/- The law: profile and histogram agree. -/
import Derived.Test.YtddkacbcecedaaaDoorQ1
import Derived.Test.YtddkacbcecedaaaDoorQ2
import Derived.Test.YtddkacbcecedaaaDoorM5
import Derived.Test.YtddkacbcecedaaaDoorM7
import Derived.Test.YtddkacbcecedaaaDoorM3
set_option linter.unusedSimpArgs false
set_option linter.unusedVariables false
set_option linter.unusedSectionVars false
namespace Go.Proofs.YtddkacbcecedaaaDoor
open Go Go.Ab Go.Ab.A34
variable [Gl] [Tabs] [Bru]

set_option maxHeartbeats 4000000 in
set_option maxRecDepth 20000 in
theorem law_agree (x : Rc) (hx : okRc x) (q : Int) (q0 : 0 ≤ q) (q1 : q < 256) : PCall Tryd.prog 7 [RC x, U8 q] (SB true) := by
  have aw := awake_c
  have bs : ∀ s : ByteArray, (s.toList == s.toList) = true := fun s => by simp
  by_cases h12 : 12 < x.rows.length
  · have sp := spoiled_big x false h12
    refine Call.enter' (N := 157) (rs := [.tmp 4]) Tryd.func7 rfl rfl rfl (by decide) rfl ?_; simp only [argT]; have hD : (0 : Nat) = 0 := rfl
    repeat' first | (with_reducible refine And.intro (by omega) ?_) | (refine SW.seq_k fun K hK => ?_) | (refine SW.block ?_) | ((first | refine SW.region ?_ | refine SW.regionD (Checked.mixed Tryd.checked) (by kernel_rfl) ?_ | refine SW.cond ?_ | refine SW.skip ?_ | refine SW.exit ?_ | refine SW.ret ?_ | refine Call.of_pure (sp) ?_ | refine ⟨_, sp, ?_⟩ | refine Call.of_pure (aw) ?_ | refine ⟨_, aw, ?_⟩ | (refine allF_i fun b hb => ?_; replace hD := And.intro hb hD; clear hb; try simp only [fresh_cons, fresh_nil, and_true, ne_eq, neF] at hD) | simp only [appK, appOsK]); try simp only [go_sem, hD]) | (refine And.intro (by omega) ?_) | (refine ifI (fun hc => ?_) (fun hc => ?_) <;> first | (exfalso; omega) | skip) | ((first | apply hK | ((iterate 1 (clear hK K)); apply hK) | ((iterate 2 (clear hK K)); apply hK) | ((iterate 3 (clear hK K)); apply hK) | ((iterate 4 (clear hK K)); apply hK) | ((iterate 5 (clear hK K)); apply hK)); clear hK K)
    refine ret_pure ?_; simp only [resL_tmp, resL_nil, tupOf, go_sem, hD]
  have sp := spoiled_ok x hx (by omega)
  have hal : (tabS x).attrs.length = (x.attrs % 6).toNat := by
    show (nm8.take (x.attrs % 6).toNat).length = _
    rw [List.length_take]
    have : nm8.length = 8 := rfl
    omega
  obtain ⟨n, hn⟩ : ∃ n, n = (x.attrs % 6).toNat := ⟨_, rfl⟩
  rw [← hn] at hal
  by_cases hz : n = 0
  · have hz2 : (((tabS x).attrs.length : Nat) : Int) = 0 := by rw [hal, hz]; rfl
    have hts : ∀ t : Tb, TB t = .agg [Str t.name, SL t.attrs, RL t.rows] := fun _ => rfl
    generalize tabS x = t at *
    obtain ⟨nm, ats, l⟩ := t
    simp only at hz2
    refine Call.enter' (N := 157) (rs := [.tmp 4]) Tryd.func7 rfl rfl rfl (by decide) rfl ?_; simp only [argT]; have hD : (0 : Nat) = 0 := rfl
    repeat' first | (with_reducible refine And.intro (by omega) ?_) | (refine SW.seq_k fun K hK => ?_) | (refine SW.block ?_) | ((first | refine SW.region ?_ | refine SW.regionD (Checked.mixed Tryd.checked) (by kernel_rfl) ?_ | refine SW.cond ?_ | refine SW.skip ?_ | refine SW.exit ?_ | refine SW.ret ?_ | refine Call.of_pure (sp) ?_ | refine ⟨_, sp, ?_⟩ | refine Call.of_pure (aw) ?_ | refine ⟨_, aw, ?_⟩ | (refine allF_i fun b hb => ?_; replace hD := And.intro hb hD; clear hb; try simp only [fresh_cons, fresh_nil, and_true, ne_eq, neF] at hD) | simp only [appK, appOsK]); try simp only [go_sem, hD, hz2]) | (refine And.intro (by omega) ?_) | (refine ifI (fun hc => ?_) (fun hc => ?_) <;> first | (exfalso; omega) | skip) | ((first | apply hK | ((iterate 1 (clear hK K)); apply hK) | ((iterate 2 (clear hK K)); apply hK) | ((iterate 3 (clear hK K)); apply hK) | ((iterate 4 (clear hK K)); apply hK) | ((iterate 5 (clear hK K)); apply hK)); clear hK K)
    refine ret_pure ?_; simp only [resL_tmp, resL_nil, tupOf, go_sem, hD]
  obtain ⟨a, ha⟩ : ∃ a, a = (q % (n : Int)).toNat := ⟨_, rfl⟩
  have han : a < n := by have := Int.emod_lt_of_pos q (b := n) (by omega); have := Int.emod_nonneg q (b := n) (by omega); omega
  have hqw : IntKind.i64.wrap q = q := i64_wrap (by omega) (by omega)
  have hq : q.tmod ((n : Nat) : Int) = ((a : Nat) : Int) := by
    have h2 := Int.emod_nonneg q (b := n) (by omega)
    rw [Int.tmod_eq_emod_of_nonneg q0]
    omega
  have hlen : (tabS x).rows.length = x.rows.length := by simp [tabS, wideS]
  have hva := tab_valid x (by omega)
  have hch : chkS (tabS x) a = 0 := by
    unfold chkS
    rw [if_pos hva, if_neg (by rw [hal]; omega)]
  have hra : ∀ r ∈ (tabS x).rows, a < r.2.length := fun r hr => by
    have := (valid_rows hva).2.2 r hr
    rw [hal] at this
    omega
  have op := of_p (tabS x) a hch
  have hp := hist_p (tabS x) a hch (by omega) hra
  have hok' : okRc (back x) := ⟨hx.1, hx.2.1, fun r hr => hx.2.2 r (List.mem_reverse.1 hr)⟩
  have hbl : (back x).rows.length = x.rows.length := by simp [back]
  have tr := table_r (back x) hok' 12 (by omega) (by omega)
  have hvb := tab_valid (back x) (by omega)
  have hcb : chkS (tabS (back x)) a = 0 := by
    unfold chkS
    rw [if_pos hvb, if_neg (by
      show ¬ ((a : Int) < 0 ∨ ((nm8.take (x.attrs % 6).toNat).length : Int) ≤ a)
      have : (nm8.take (x.attrs % 6).toNat).length = n := hal
      omega)]
  have ob := of_p (tabS (back x)) a hcb
  rw [back_prof x a (by omega)] at ob
  have hcl : (colS (tabS x) a).length = x.rows.length := by unfold colS; rw [sortV_len, List.length_map, hlen]
  have hbd := hist_bound (colS (tabS x) a)
  have hsum : (nums (histS (colS (tabS x) a))).sum = x.rows.length := by
    have := hist_sum (colS (tabS x) a) []
    rw [hcl] at this
    simpa [nums, histS] using this
  have hasc : (vals (histS (colS (tabS x) a))).Pairwise fun x y => cmp3 x y < 0 := hist_asc _ [] (sortV_sorted _) (fun p hp => by cases hp) List.Pairwise.nil
  have hpf := prof_fold (histS (colS (tabS x) a)) ⟨(tabS x).rows.length, 0, (histS (colS (tabS x) a)).length, v0, v0, v0, 0, 0, 0⟩
  change (profS (tabS x) a).rows = _ ∧ (profS (tabS x) a).distinct = _ ∧ (profS (tabS x) a).times = _ at hpf
  rw [hlen] at hpf
  have hst : ∀ v ∈ vals (histS (colS (tabS x) a)), v.2.2.size ≤ 200 := fun v hv => by
    obtain ⟨p, hp', rfl⟩ := List.mem_map.1 hv
    exact hist_mem _ (fun v => v.2.2.size ≤ 200) (col_mem hra (fun r hr v hv => okV_size ((valid_rows hva).2.2 r hr |>.2 v hv))) p hp'
  generalize profS (tabS x) a = c at *
  generalize histS (colS (tabS x) a) = H at *
  clear hva hvb hch hcb hra
  have hVl : (vals H).length = H.length := List.length_map _
  have hNl : (nums H).length = H.length := List.length_map _
  have hrows : RC (back x) = .agg [U8 x.attrs, U8 x.gap, UU x.rows.reverse] := rfl
  rw [hrows] at tr
  have cl := clone_c x.rows (by omega)
  have hNb : ∀ k ∈ nums H, 0 ≤ k ∧ k ≤ 12 := fun k hk => by
    obtain ⟨p, hp', rfl⟩ := List.mem_map.1 hk
    have := hbd.2 p hp'
    omega
  have hHl : H.length ≤ 12 := by have := hbd.1; omega
  generalize vals H = V at *
  generalize nums H = N at *
  generalize tabS (back x) = u at *
  generalize tabS x = t at *
  obtain ⟨xa, xg, rows⟩ := x
  obtain ⟨nm, ats, l⟩ := t
  obtain ⟨cr, cu, cd, ⟨lk, ln, lt⟩, ⟨gk, gn, gt⟩, ⟨mk, mn, mt⟩, ti, nb, tx⟩ := c
  simp only at hpf hal hlen hsum hcl hbd h12 cl tr hHl
  obtain ⟨p1, p2, p3⟩ := hpf
  have hz3 : ¬ ((ats.length : Nat) : Int) = 0 := by rw [hal]; omega
  rw [← hal] at hq
  obtain rfl : cd = ((N.length : Nat) : Int) := by rw [hNl, p2]
  obtain rfl : cr = ((l.length : Nat) : Int) := by omega
  have hVN : ((V.length : Nat) : Int) = ((N.length : Nat) : Int) := by omega
  have hVn : V.length = N.length := by omega
  have hN12 : N.length ≤ 12 := by omega
  refine Call.enter' (N := 157) (rs := [.tmp 4]) Tryd.func7 rfl rfl rfl (by decide) rfl ?_; simp only [argT]; have hD : (0 : Nat) = 0 := rfl
  repeat' first | (with_reducible refine And.intro (by omega) ?_) | (refine SW.seq_k fun K hK => ?_) | (refine SW.block ?_) | ((first | refine SW.region ?_ | refine SW.regionD (Checked.mixed Tryd.checked) (by kernel_rfl) ?_ | refine SW.cond ?_ | refine SW.skip ?_ | refine SW.exit ?_ | refine SW.ret ?_ | refine Call.of_pure (sp) ?_ | refine ⟨_, sp, ?_⟩ | refine Call.of_pure (aw) ?_ | refine ⟨_, aw, ?_⟩ | refine Call.of_pure (op) ?_ | refine ⟨_, op, ?_⟩ | refine Call.of_pure (hp) ?_ | refine ⟨_, hp, ?_⟩ | (refine allF_i fun b hb => ?_; replace hD := And.intro hb hD; clear hb; try simp only [fresh_cons, fresh_nil, and_true, ne_eq, neF] at hD) | simp only [appK, appOsK]); try simp only [go_sem, hD, hz3, hqw, hq, hVN]) | (refine And.intro (by omega) ?_) | (refine ifI (fun hc => ?_) (fun hc => ?_) <;> first | (exfalso; omega) | skip) | ((first | apply hK | ((iterate 1 (clear hK K)); apply hK) | ((iterate 2 (clear hK K)); apply hK) | ((iterate 3 (clear hK K)); apply hK) | ((iterate 4 (clear hK K)); apply hK) | ((iterate 5 (clear hK K)); apply hK)); clear hK K)
  obtain ⟨cb, rfl⟩ : ∃ x, x = b := ⟨_, rfl⟩
  obtain ⟨tb, rfl⟩ : ∃ x, x = b := ⟨_, rfl⟩
  obtain ⟨xb, rfl⟩ : ∃ x, x = b := ⟨_, rfl⟩
  obtain ⟨I, hI⟩ : ∃ I : Nat → St → Prop, ∀ k S, I k S ↔ (∃ (i : Nat) (s : Int) (m : Int), k = N.length - i ∧ i ≤ N.length ∧ s = (N.take i).sum ∧ 0 ≤ s ∧ s ≤ 12 * (i : Int) ∧ m = (N.take i).foldl max 0 ∧ 0 ≤ m ∧ S = ⟨[(2, .op xb 0), (5, .op tb 0), (7, I64 a), (8, .op cb 0), (10, VL V), (13, I64 s), (14, I64 m), (79, NL N), (80, I64 N.length), (81, I64 i)], [(cb, .svs [I64 l.length, I64 cu, I64 N.length, I64 lk, I64 ln, Str lt, I64 gk, I64 gn, Str gt, I64 mk, I64 mn, Str mt, I64 ti, I64 nb, I64 tx]), (tb, .svs [Str nm, SL ats, RL l]), (xb, .svs [U8 xa, U8 xg, UU rows])]⟩) := ⟨fun k S => _, fun _ _ => Iff.rfl⟩
  refine SW.loop' I (N.length) ((hI _ _).2 ⟨0, 0, 0, rfl, Nat.zero_le _, rfl, Int.le_refl 0, Int.le_refl 0, rfl, Int.le_refl 0, rfl⟩) (by repeat' (first | exact rfl | exact trivial | exact int_eq (by omega) | exact int_eq (by (rw [i64_wrap] <;> omega)) | constructor)) ?_
  intro k S hIn
  obtain ⟨i, s, m, rfl, hi, hs, hs0, hs1, hm, hm0, rfl⟩ := (hI _ _).1 hIn
  clear hIn
  have ie : ((i : Nat) : Int).toNat = i := Int.toNat_natCast _
  have i0 : (0 : Int) ≤ ((i : Nat) : Int) := by omega
  by_cases hlt : i < N.length
  · have hli : ((i : Nat) : Int) < (((N.length) : Nat) : Int) := by omega
    have w1 : IntKind.i64.wrap ((i : Int) + 1) = ((i + 1 : Nat) : Int) := by rw [i64_wrap (by omega) (by omega)]; omega
    have hv := hNb _ (getD_mem 0 hlt)
    have htk : N.take (i + 1) = N.take i ++ [N.getD i 0] := by
      have hg : N.getD i 0 = N[i] := by simp [List.getD_eq_getElem?_getD, hlt]
      rw [List.take_add_one, List.getElem?_eq_getElem hlt, hg]
      rfl
    have ws : IntKind.i64.wrap (s + N.getD i 0) = s + N.getD i 0 := i64_wrap (by omega) (by omega)
    have hs' : s + N.getD i 0 = (N.take (i + 1)).sum := by rw [htk, sum_snoc, hs]
    have hm2 : (if m < N.getD i 0 then N.getD i 0 else m) = (N.take (i + 1)).foldl max 0 := by
      rw [htk, List.foldl_append, ← hm]
      show _ = max m (N.getD i 0)
      omega
    have hm3 : 0 ≤ (if m < N.getD i 0 then N.getD i 0 else m) := by omega
    by_cases z : i = 0
    · have z0 : ¬ (0 : Int) < ((i : Nat) : Int) := by omega
      repeat' first | (with_reducible refine And.intro (by omega) ?_) | (refine SW.seq_k fun K hK => ?_) | (refine SW.block ?_) | ((first | refine SW.region ?_ | refine SW.regionZ (id := 11) (Checked.mixed Tryd.checked) ((.one 0 [0, 4, 5, 13, 14, 15] (.one 1 [1, 2, 3, 4, 5, 13, 14, 15] (.one 2 [2, 3, 4, 5, 13, 14, 15] (.one 3 [3, 4, 5, 13, 14, 15] (.one 4 [4, 5, 13, 14, 15] (.one 5 [5, 13, 14, 15] (.one 6 [6, 11, 12, 14, 15] (.one 7 [7, 8, 9, 10, 11, 12, 14, 15] (.one 8 [8, 9, 10, 11, 12, 14, 15] (.one 9 [9, 10, 11, 12, 14, 15] (.one 10 [10, 11, 12, 14, 15] (.one 11 [11, 12, 14, 15] (.one 12 [12, 14, 15] (.one 13 [13, 14, 15] (.one 14 [14, 15] (.one 15 [15] .done)))))))))))))))) : OZ) (by kernel_rfl) ?_ | refine SW.regionD (Checked.mixed Tryd.checked) (by kernel_rfl) ?_ | refine SW.cond ?_ | refine SW.skip ?_ | refine SW.exit ?_ | refine SW.ret ?_ | (refine allF_i fun b hb => ?_; replace hD := And.intro hb hD; clear hb; try simp only [fresh_cons, fresh_nil, and_true, ne_eq, neF] at hD) | simp only [appK, appOsK]); try simp only [go_sem, hD, hli, ie, i0, w1, ws, z0, true_implies]) | (refine And.intro (by omega) ?_) | (refine ifI (fun hc => ?_) (fun hc => ?_) <;> first | (exfalso; omega) | skip) | ((first | apply hK | ((iterate 1 (clear hK K)); apply hK) | ((iterate 2 (clear hK K)); apply hK) | ((iterate 3 (clear hK K)); apply hK) | ((iterate 4 (clear hK K)); apply hK) | ((iterate 5 (clear hK K)); apply hK)); clear hK K) | (refine And.intro ?_ ?_)
      all_goals
        refine Rnd.sub (N.length - (i + 1)) (by omega) ((hI _ _).2 ⟨i + 1, _, _, rfl, by omega, hs', by omega, by omega, hm2, hm3, rfl⟩) (by repeat' (first | exact rfl | exact trivial | exact int_eq (by omega) | exact int_eq (by (rw [i64_wrap] <;> omega)) | constructor))
    · obtain ⟨k, rfl⟩ : ∃ k, i = k + 1 := ⟨i - 1, by omega⟩
      have z0 : (0 : Int) < ((k + 1 : Nat) : Int) := by omega
      have wk : IntKind.i64.wrap (((k + 1 : Nat) : Int) - 1) = ((k : Nat) : Int) := by rw [i64_wrap (by omega) (by omega)]; omega
      have k0 : (0 : Int) ≤ ((k : Nat) : Int) := by omega
      have kl : ((k : Nat) : Int) < ((N.length : Nat) : Int) := by omega
      have ke : ((k : Nat) : Int).toNat = k := Int.toNat_natCast _
      have hk1 : k < V.length := by omega
      have hk2 : k + 1 < V.length := by omega
      have hcmp : cmp3 (V.getD k v0) (V.getD (k + 1) v0) < 0 := by
        have := List.pairwise_iff_getElem.1 hasc k (k + 1) hk1 hk2 (by omega)
        simpa [List.getD_eq_getElem?_getD, hk1, hk2] using this
      have hz1 := hst _ (getD_mem v0 hk1)
      have hz2 := hst _ (getD_mem v0 hk2)
      obtain ⟨ak, an, at', hv1⟩ : ∃ e1 e2 e3, V.getD k v0 = (e1, e2, e3) := ⟨_, _, _, rfl⟩
      obtain ⟨bk, bn, bt, hv2⟩ : ∃ e1 e2 e3, V.getD (k + 1) v0 = (e1, e2, e3) := ⟨_, _, _, rfl⟩
      have tv1 : vF V k = [I64 ak, I64 an, Str at'] := by unfold vF; rw [hv1]
      have tv2 : vF V (k + 1) = [I64 bk, I64 bn, Str bt] := by unfold vF; rw [hv2]
      rw [hv1] at hz1 hcmp
      rw [hv2] at hz2 hcmp
      simp only at hz1 hz2
      have cmr := compare_r ak an at' bk bn bt (by omega) (by omega)
      have hcv : ¬ 0 ≤ cmpV ak an at' bk bn bt := by
        have : cmpV ak an at' bk bn bt < 0 := hcmp
        omega
      generalize cmpV ak an at' bk bn bt = cv at *
      repeat' first | (with_reducible refine And.intro (by omega) ?_) | (refine SW.seq_k fun K hK => ?_) | (refine SW.block ?_) | ((first | refine SW.region ?_ | refine SW.regionZ (id := 11) (Checked.mixed Tryd.checked) ((.one 0 [0, 4, 5, 13, 14, 15] (.one 1 [1, 2, 3, 4, 5, 13, 14, 15] (.one 2 [2, 3, 4, 5, 13, 14, 15] (.one 3 [3, 4, 5, 13, 14, 15] (.one 4 [4, 5, 13, 14, 15] (.one 5 [5, 13, 14, 15] (.one 6 [6, 11, 12, 14, 15] (.one 7 [7, 8, 9, 10, 11, 12, 14, 15] (.one 8 [8, 9, 10, 11, 12, 14, 15] (.one 9 [9, 10, 11, 12, 14, 15] (.one 10 [10, 11, 12, 14, 15] (.one 11 [11, 12, 14, 15] (.one 12 [12, 14, 15] (.one 13 [13, 14, 15] (.one 14 [14, 15] (.one 15 [15] .done)))))))))))))))) : OZ) (by kernel_rfl) ?_ | refine SW.regionD (Checked.mixed Tryd.checked) (by kernel_rfl) ?_ | refine SW.cond ?_ | refine SW.skip ?_ | refine SW.exit ?_ | refine SW.ret ?_ | refine Call.of_pure (cmr) ?_ | refine ⟨_, cmr, ?_⟩ | (refine allF_i fun b hb => ?_; replace hD := And.intro hb hD; clear hb; try simp only [fresh_cons, fresh_nil, and_true, ne_eq, neF] at hD) | simp only [appK, appOsK]); try simp only [go_sem, hD, hli, ie, i0, w1, ws, z0, wk, k0, kl, ke, tv1, tv2, hcv, hVN, true_implies]) | (refine And.intro (by omega) ?_) | (refine ifI (fun hc => ?_) (fun hc => ?_) <;> first | (exfalso; omega) | skip) | ((first | apply hK | ((iterate 1 (clear hK K)); apply hK) | ((iterate 2 (clear hK K)); apply hK) | ((iterate 3 (clear hK K)); apply hK) | ((iterate 4 (clear hK K)); apply hK) | ((iterate 5 (clear hK K)); apply hK)); clear hK K) | (refine And.intro ?_ ?_)
      all_goals
        refine Rnd.sub (N.length - ((k + 1) + 1)) (by omega) ((hI _ _).2 ⟨(k + 1) + 1, _, _, rfl, by omega, hs', by omega, by omega, hm2, hm3, rfl⟩) (by repeat' (first | exact rfl | exact trivial | exact int_eq (by omega) | exact int_eq (by (rw [i64_wrap] <;> omega)) | constructor))
  · have hli : ¬ ((i : Nat) : Int) < (((N.length) : Nat) : Int) := by omega
    obtain rfl : i = N.length := by omega
    rw [List.take_length] at hs hm
    obtain rfl : s = ((l.length : Nat) : Int) := by omega
    obtain rfl : m = ti := by rw [hm, p3]
    obtain ⟨R, hR⟩ : ∃ R, R = rows.reverse := ⟨_, rfl⟩
    have hRl : R.length = rows.length := by rw [hR, List.length_reverse]
    have tr2 : PCall Tryd.prog 27 [.agg [U8 xa, U8 xg, .fl rows.length 1 (fun i => [UL (R.getD i [])])], I64 12] (.tup [TB u, SB true]) := by
      rw [← hR] at tr
      rw [← hRl]
      exact tr
    have rv : ∀ g, Ab.Call Tryd.prog 26 [.os g 0 rows.length 1] [(g, .svs (fC uC rows))] (fun r h' => r = .tup [] ∧ h' = [(g, .svs (fC uC R))]) := fun g => by rw [hR]; exact rev_c g rows (by omega)
    have hRc : (fC uC R).length = rows.length := by rw [uC_map, List.length_map, hRl]
    have hRn : rows = [] → R = [] := fun e => by rw [hR, e]; rfl
    clear hR tr hs hs1 hm i0 ie hi hlt hN12 hVn hVN hHl hNb hbd hcl p2 p3 hp hsum hasc hst hal ha han hq hz3
    obtain ⟨unm, uats, ul⟩ := u
    have hD := And.intro (eq_false hli) hD
    clear hli
    repeat' first | (with_reducible refine And.intro (by omega) ?_) | (refine SW.seq_k fun K hK => ?_) | (refine SW.block ?_) | ((first | refine SW.region ?_ | refine SW.cond ?_ | refine SW.skip ?_ | refine SW.exit ?_ | refine SW.ret ?_ | (refine allF_i fun b hb => ?_; replace hD := And.intro hb hD; clear hb; try simp only [fresh_cons, fresh_nil, and_true, ne_eq, neF] at hD) | simp only [appK, appOsK]); try simp only [go_sem, hD]) | (refine And.intro (by omega) ?_) | (refine ifI (fun hc => ?_) (fun hc => ?_) <;> first | (exfalso; omega) | skip) | ((first | apply hK | ((iterate 1 (clear hK K)); apply hK) | ((iterate 2 (clear hK K)); apply hK) | ((iterate 3 (clear hK K)); apply hK) | ((iterate 4 (clear hK K)); apply hK) | ((iterate 5 (clear hK K)); apply hK)); clear hK K)
    have key : ∃ C Q', (∀ S, Ab.SW Tryd.prog 157 C Q' S → K S) ∧
      (∀ zb g, fresh [(cb, .svs [I64 l.length, I64 cu, I64 N.length, I64 lk, I64 ln, Str lt, I64 gk, I64 gn, Str gt, I64 mk, I64 mn, Str mt, I64 m, I64 nb, I64 tx]), (tb, .svs [Str nm, SL ats, RL l])] zb → fresh [(zb, .svs [U8 xa, U8 xg, .os g 0 rows.length 1]), (cb, .svs [I64 l.length, I64 cu, I64 N.length, I64 lk, I64 ln, Str lt, I64 gk, I64 gn, Str gt, I64 mk, I64 mn, Str mt, I64 m, I64 nb, I64 tx]), (tb, .svs [Str nm, SL ats, RL l])] g →
        Ab.SW Tryd.prog 157 C Q' ⟨[(5, .op tb 0), (7, I64 a), (8, .op cb 0), (13, I64 l.length), (14, I64 m), (17, .op zb 0)], [(g, .svs (fC uC rows)), (zb, .svs [U8 xa, U8 xg, .os g 0 rows.length 1]), (cb, .svs [I64 l.length, I64 cu, I64 N.length, I64 lk, I64 ln, Str lt, I64 gk, I64 gn, Str gt, I64 mk, I64 mn, Str mt, I64 m, I64 nb, I64 tx]), (tb, .svs [Str nm, SL ats, RL l])]⟩) ∧
      (∀ zb, rows = [] → fresh [(cb, .svs [I64 l.length, I64 cu, I64 N.length, I64 lk, I64 ln, Str lt, I64 gk, I64 gn, Str gt, I64 mk, I64 mn, Str mt, I64 m, I64 nb, I64 tx]), (tb, .svs [Str nm, SL ats, RL l])] zb →
        Ab.SW Tryd.prog 157 C Q' ⟨[(5, .op tb 0), (7, I64 a), (8, .op cb 0), (13, I64 l.length), (14, I64 m), (17, .op zb 0)], [(zb, .svs [U8 xa, U8 xg, .sc (.slice none 0 0)]), (cb, .svs [I64 l.length, I64 cu, I64 N.length, I64 lk, I64 ln, Str lt, I64 gk, I64 gn, Str gt, I64 mk, I64 mn, Str mt, I64 m, I64 nb, I64 tx]), (tb, .svs [Str nm, SL ats, RL l])]⟩) := by
      refine ⟨_, _, hK, fun zb g hzb hg => ?_, fun zb hr0 hzb => ?_⟩
      · simp only [fresh_cons, fresh_nil, and_true, ne_eq, neF] at hzb hg
        replace hD := And.intro hg (And.intro hzb hD)
        clear hK
        repeat' first | (with_reducible refine Call.mono (Call.frameN (h1 := [(g, .svs (fC uC rows))]) (rv g)) ?_; intro r h' hx; obtain ⟨h1', rfl, ⟨rfl, rfl⟩, hnd⟩ := hx; refine stop_i ?_) | (with_reducible refine And.intro (by omega) ?_) | (refine SW.seq_k fun K hK => ?_) | (refine SW.block ?_) | ((first | refine SW.region ?_ | refine SW.cond ?_ | refine SW.skip ?_ | refine SW.exit ?_ | refine SW.ret ?_ | (refine allF_i fun b hb => ?_; replace hD := And.intro hb hD; clear hb; try simp only [fresh_cons, fresh_nil, and_true, ne_eq, neF] at hD) | simp only [appK, appOsK]); try simp only [go_sem, hD]) | (refine And.intro (by omega) ?_) | (refine ifI (fun hc => ?_) (fun hc => ?_) <;> first | (exfalso; omega) | skip) | ((first | apply hK | ((iterate 1 (clear hK K)); apply hK) | ((iterate 2 (clear hK K)); apply hK) | ((iterate 3 (clear hK K)); apply hK) | ((iterate 4 (clear hK K)); apply hK) | ((iterate 5 (clear hK K)); apply hK)); clear hK K)
        refine Stop.mk ?_
        refine hK _ ?_
        clear hK K
        refine Ab.SW.le (St.le_accC (sz := 1) (n := rows.length) (c := zb) (j := 2) (Acc.osH (b := g) (cs := fC uC R) (h0 := [(zb, .svs [U8 xa, U8 xg, .os g 0 rows.length 1]), (cb, .svs [I64 l.length, I64 cu, I64 N.length, I64 lk, I64 ln, Str lt, I64 gk, I64 gn, Str gt, I64 mk, I64 mn, Str mt, I64 m, I64 nb, I64 tx]), (tb, .svs [Str nm, SL ats, RL l])]) (by simp [fresh_cons, fresh_nil, hD]) (by rw [Nat.mul_one, hRc])) (by rw [find_cons, if_pos rfl]) (by show 2 < 3; omega) rfl (fun i => [UL (R.getD i [])]) (fun j hj => by have := fC_at uC_len [] R j (by omega); exact this)) ?_
        simp only [upd_cons, if_true]
        repeat' first | (with_reducible refine And.intro (by omega) ?_) | (refine SW.seq_k fun K hK => ?_) | (refine SW.block ?_) | ((first | refine SW.region ?_ | refine SW.regionD (Checked.mixed Tryd.checked) (by kernel_rfl) ?_ | refine SW.cond ?_ | refine SW.skip ?_ | refine SW.exit ?_ | refine SW.ret ?_ | refine Call.of_pure (tr2) ?_ | refine ⟨_, tr2, ?_⟩ | refine Call.of_pure (ob) ?_ | refine ⟨_, ob, ?_⟩ | (refine allF_i fun b hb => ?_; replace hD := And.intro hb hD; clear hb; try simp only [fresh_cons, fresh_nil, and_true, ne_eq, neF] at hD) | simp only [appK, appOsK]); try simp only [go_sem, hD, true_implies, bs]) | (refine And.intro (by omega) ?_) | (refine ifI (fun hc => ?_) (fun hc => ?_) <;> first | (exfalso; omega) | skip) | ((first | apply hK | ((iterate 1 (clear hK K)); apply hK) | ((iterate 2 (clear hK K)); apply hK) | ((iterate 3 (clear hK K)); apply hK) | ((iterate 4 (clear hK K)); apply hK) | ((iterate 5 (clear hK K)); apply hK)); clear hK K)
        refine ret_pure ?_; simp only [resL_tmp, resL_nil, tupOf, go_sem, hD]
      · simp only [fresh_cons, fresh_nil, and_true, ne_eq, neF] at hzb
        replace hD := And.intro hzb hD
        clear hK
        repeat' first | (with_reducible refine Call.of_pure rev_n ?_; refine stop_i ?_) | (with_reducible refine And.intro (by omega) ?_) | (refine SW.seq_k fun K hK => ?_) | (refine SW.block ?_) | ((first | refine SW.region ?_ | refine SW.cond ?_ | refine SW.skip ?_ | refine SW.exit ?_ | refine SW.ret ?_ | (refine allF_i fun b hb => ?_; replace hD := And.intro hb hD; clear hb; try simp only [fresh_cons, fresh_nil, and_true, ne_eq, neF] at hD) | simp only [appK, appOsK]); try simp only [go_sem, hD]) | (refine And.intro (by omega) ?_) | (refine ifI (fun hc => ?_) (fun hc => ?_) <;> first | (exfalso; omega) | skip) | ((first | apply hK | ((iterate 1 (clear hK K)); apply hK) | ((iterate 2 (clear hK K)); apply hK) | ((iterate 3 (clear hK K)); apply hK) | ((iterate 4 (clear hK K)); apply hK) | ((iterate 5 (clear hK K)); apply hK)); clear hK K)
        refine Stop.mk ?_
        try simp only [go_sem, hD]
        refine hK _ ?_
        clear hK K
        refine Ab.SW.le (St.le_accC (sz := 1) (n := rows.length) (c := zb) (j := 2) (h := [(zb, .svs [U8 xa, U8 xg, .sc (.slice none 0 0)]), (cb, .svs [I64 l.length, I64 cu, I64 N.length, I64 lk, I64 ln, Str lt, I64 gk, I64 gn, Str gt, I64 mk, I64 mn, Str mt, I64 m, I64 nb, I64 tx]), (tb, .svs [Str nm, SL ats, RL l])]) (cs := fC uC R) (.inl ⟨by rw [hr0]; rfl, by rw [hRn hr0]; rfl, rfl, rfl⟩) (by rw [find_cons, if_pos rfl]) (by show 2 < 3; omega) rfl (fun i => [UL (R.getD i [])]) (fun j hj => by have := fC_at uC_len [] R j (by omega); exact this)) ?_
        simp only [upd_cons, if_true]
        repeat' first | (with_reducible refine And.intro (by omega) ?_) | (refine SW.seq_k fun K hK => ?_) | (refine SW.block ?_) | ((first | refine SW.region ?_ | refine SW.regionD (Checked.mixed Tryd.checked) (by kernel_rfl) ?_ | refine SW.cond ?_ | refine SW.skip ?_ | refine SW.exit ?_ | refine SW.ret ?_ | refine Call.of_pure (tr2) ?_ | refine ⟨_, tr2, ?_⟩ | refine Call.of_pure (ob) ?_ | refine ⟨_, ob, ?_⟩ | (refine allF_i fun b hb => ?_; replace hD := And.intro hb hD; clear hb; try simp only [fresh_cons, fresh_nil, and_true, ne_eq, neF] at hD) | simp only [appK, appOsK]); try simp only [go_sem, hD, true_implies, bs]) | (refine And.intro (by omega) ?_) | (refine ifI (fun hc => ?_) (fun hc => ?_) <;> first | (exfalso; omega) | skip) | ((first | apply hK | ((iterate 1 (clear hK K)); apply hK) | ((iterate 2 (clear hK K)); apply hK) | ((iterate 3 (clear hK K)); apply hK) | ((iterate 4 (clear hK K)); apply hK) | ((iterate 5 (clear hK K)); apply hK)); clear hK K)
        refine ret_pure ?_; simp only [resL_tmp, resL_nil, tupOf, go_sem, hD]
    obtain ⟨C, Q', k1, k2, k3⟩ := key
    clear hK tr2 ob rv aw sp op bs
    repeat' first | (with_reducible refine Call.mono (Call.frameN (h1 := []) cl) ?_; intro r h' hx; obtain ⟨h1', rfl, hx, hnd⟩ := hx; rcases hx with ⟨e1, rfl, rfl⟩ | ⟨g, rfl, rfl⟩; all_goals (try simp only [List.cons_append, List.nil_append] at hnd); all_goals (have hg := fresh_of_nodup hnd; simp only [fresh_cons, fresh_nil, and_true, ne_eq, neF] at hg; replace hD := And.intro hg hD; clear hg hnd); all_goals (simp only [go_sem, hD, List.cons_append, List.nil_append])) | (with_reducible refine And.intro (by omega) ?_) | (refine SW.seq_k fun K hK => ?_) | (refine SW.block ?_) | ((first | refine SW.region ?_ | refine SW.regionZ (id := 14) (Checked.mixed Tryd.checked) ((.one 0 [0, 1, 2, 3, 4, 5, 6, 7, 8, 9, 10, 11, 12, 13, 14] (.one 1 [1, 2, 3, 4, 5, 6, 7, 8, 9, 10, 11, 12, 13, 14] (.one 2 [2, 3, 4, 5, 6, 7, 8, 9, 10, 11, 12, 13, 14] (.one 3 [3, 6, 7, 12, 13, 14] (.one 4 [4, 5, 6, 7, 12, 13, 14] (.one 5 [5, 6, 7, 12, 13, 14] (.one 6 [6, 7, 12, 13, 14] (.one 7 [7, 12, 13, 14] (.one 8 [8, 10, 11, 12, 13, 14] (.one 9 [9, 10, 11, 12, 13, 14] (.one 10 [10, 11, 12, 13, 14] (.one 11 [11, 12, 13, 14] (.one 12 [12, 13, 14] (.one 13 [13, 14] (.one 14 [14] .done))))))))))))))) : OZ) (by kernel_rfl) ?_ | refine SW.regionY [6] (id := 17) (Checked.mixed Tryd.checked) ((.one 4 [4, 5, 6, 7, 9] (.one 5 [5, 6, 7, 9] (.alt 0 false (.alt 1 false (.alt 2 false (.alt 3 false (.alt 6 true (.one 7 [7, 9] (.alt 8 false (.alt 9 false .done .nil) .nil)) (.alt 8 false (.alt 6 true (.one 7 [7, 9] (.alt 9 false .done .nil)) .nil) .nil)) (.alt 6 true (.one 3 [3, 7, 9] (.one 7 [7, 9] (.alt 8 false (.alt 9 false .done .nil) .nil))) (.alt 8 false (.alt 3 false (.alt 6 true (.one 7 [7, 9] (.alt 9 false .done .nil)) .nil) (.alt 6 true (.one 3 [3, 7, 9] (.one 7 [7, 9] (.alt 9 false .done .nil))) .nil)) .nil))) (.alt 6 true (.one 2 [2, 3, 7, 9] (.one 3 [3, 7, 9] (.one 7 [7, 9] (.alt 8 false (.alt 9 false .done .nil) .nil)))) (.alt 8 false (.alt 2 false (.alt 3 false (.alt 6 true (.one 7 [7, 9] (.alt 9 false .done .nil)) .nil) (.alt 6 true (.one 3 [3, 7, 9] (.one 7 [7, 9] (.alt 9 false .done .nil))) .nil)) (.alt 6 true (.one 2 [2, 3, 7, 9] (.one 3 [3, 7, 9] (.one 7 [7, 9] (.alt 9 false .done .nil)))) .nil)) .nil))) (.alt 2 false (.alt 1 false (.alt 3 false (.alt 6 true (.one 7 [7, 9] (.alt 8 false (.alt 9 false .done .nil) .nil)) (.alt 8 false (.alt 6 true (.one 7 [7, 9] (.alt 9 false .done .nil)) .nil) .nil)) (.alt 6 true (.one 3 [3, 7, 9] (.one 7 [7, 9] (.alt 8 false (.alt 9 false .done .nil) .nil))) (.alt 8 false (.alt 3 false (.alt 6 true (.one 7 [7, 9] (.alt 9 false .done .nil)) .nil) (.alt 6 true (.one 3 [3, 7, 9] (.one 7 [7, 9] (.alt 9 false .done .nil))) .nil)) .nil))) (.alt 3 false (.alt 1 false (.alt 6 true (.one 7 [7, 9] (.alt 8 false (.alt 9 false .done .nil) .nil)) (.alt 8 false (.alt 6 true (.one 7 [7, 9] (.alt 9 false .done .nil)) .nil) .nil)) (.alt 6 true (.one 1 [1, 7, 9] (.one 7 [7, 9] (.alt 8 false (.alt 9 false .done .nil) .nil))) (.alt 8 false (.alt 1 false (.alt 6 true (.one 7 [7, 9] (.alt 9 false .done .nil)) .nil) (.alt 6 true (.one 1 [1, 7, 9] (.one 7 [7, 9] (.alt 9 false .done .nil))) .nil)) .nil))) (.alt 6 true (.one 1 [1, 7, 9] (.one 3 [3, 7, 9] (.one 7 [7, 9] (.alt 8 false (.alt 9 false .done .nil) .nil)))) (.alt 8 false (.alt 1 false (.alt 3 false (.alt 6 true (.one 7 [7, 9] (.alt 9 false .done .nil)) .nil) (.alt 6 true (.one 3 [3, 7, 9] (.one 7 [7, 9] (.alt 9 false .done .nil))) .nil)) (.alt 3 false (.alt 1 false (.alt 6 true (.one 7 [7, 9] (.alt 9 false .done .nil)) .nil) (.alt 6 true (.one 1 [1, 7, 9] (.one 7 [7, 9] (.alt 9 false .done .nil))) .nil)) (.alt 6 true (.one 1 [1, 7, 9] (.one 3 [3, 7, 9] (.one 7 [7, 9] (.alt 9 false .done .nil)))) .nil))) .nil)))) (.alt 6 true (.one 1 [1, 7, 9] (.one 2 [2, 3, 7, 9] (.one 3 [3, 7, 9] (.one 7 [7, 9] (.alt 8 false (.alt 9 false .done .nil) .nil))))) (.alt 8 false (.alt 1 false (.alt 2 false (.alt 3 false (.alt 6 true (.one 7 [7, 9] (.alt 9 false .done .nil)) .nil) (.alt 6 true (.one 3 [3, 7, 9] (.one 7 [7, 9] (.alt 9 false .done .nil))) .nil)) (.alt 6 true (.one 2 [2, 3, 7, 9] (.one 3 [3, 7, 9] (.one 7 [7, 9] (.alt 9 false .done .nil)))) .nil)) (.alt 2 false (.alt 1 false (.alt 3 false (.alt 6 true (.one 7 [7, 9] (.alt 9 false .done .nil)) .nil) (.alt 6 true (.one 3 [3, 7, 9] (.one 7 [7, 9] (.alt 9 false .done .nil))) .nil)) (.alt 3 false (.alt 1 false (.alt 6 true (.one 7 [7, 9] (.alt 9 false .done .nil)) .nil) (.alt 6 true (.one 1 [1, 7, 9] (.one 7 [7, 9] (.alt 9 false .done .nil))) .nil)) (.alt 6 true (.one 1 [1, 7, 9] (.one 3 [3, 7, 9] (.one 7 [7, 9] (.alt 9 false .done .nil)))) .nil))) (.alt 6 true (.one 1 [1, 7, 9] (.one 2 [2, 3, 7, 9] (.one 3 [3, 7, 9] (.one 7 [7, 9] (.alt 9 false .done .nil))))) .nil))) .nil)))) (.alt 2 false (.alt 0 false (.alt 1 false (.alt 3 false (.alt 6 true (.one 7 [7, 9] (.alt 8 false (.alt 9 false .done .nil) .nil)) (.alt 8 false (.alt 6 true (.one 7 [7, 9] (.alt 9 false .done .nil)) .nil) .nil)) (.alt 6 true (.one 3 [3, 7, 9] (.one 7 [7, 9] (.alt 8 false (.alt 9 false .done .nil) .nil))) (.alt 8 false (.alt 3 false (.alt 6 true (.one 7 [7, 9] (.alt 9 false .done .nil)) .nil) (.alt 6 true (.one 3 [3, 7, 9] (.one 7 [7, 9] (.alt 9 false .done .nil))) .nil)) .nil))) (.alt 3 false (.alt 1 false (.alt 6 true (.one 7 [7, 9] (.alt 8 false (.alt 9 false .done .nil) .nil)) (.alt 8 false (.alt 6 true (.one 7 [7, 9] (.alt 9 false .done .nil)) .nil) .nil)) (.alt 6 true (.one 1 [1, 7, 9] (.one 7 [7, 9] (.alt 8 false (.alt 9 false .done .nil) .nil))) (.alt 8 false (.alt 1 false (.alt 6 true (.one 7 [7, 9] (.alt 9 false .done .nil)) .nil) (.alt 6 true (.one 1 [1, 7, 9] (.one 7 [7, 9] (.alt 9 false .done .nil))) .nil)) .nil))) (.alt 6 true (.one 1 [1, 7, 9] (.one 3 [3, 7, 9] (.one 7 [7, 9] (.alt 8 false (.alt 9 false .done .nil) .nil)))) (.alt 8 false (.alt 1 false (.alt 3 false (.alt 6 true (.one 7 [7, 9] (.alt 9 false .done .nil)) .nil) (.alt 6 true (.one 3 [3, 7, 9] (.one 7 [7, 9] (.alt 9 false .done .nil))) .nil)) (.alt 3 false (.alt 1 false (.alt 6 true (.one 7 [7, 9] (.alt 9 false .done .nil)) .nil) (.alt 6 true (.one 1 [1, 7, 9] (.one 7 [7, 9] (.alt 9 false .done .nil))) .nil)) (.alt 6 true (.one 1 [1, 7, 9] (.one 3 [3, 7, 9] (.one 7 [7, 9] (.alt 9 false .done .nil)))) .nil))) .nil)))) (.alt 3 false (.alt 0 false (.alt 1 false (.alt 6 true (.one 7 [7, 9] (.alt 8 false (.alt 9 false .done .nil) .nil)) (.alt 8 false (.alt 6 true (.one 7 [7, 9] (.alt 9 false .done .nil)) .nil) .nil)) (.alt 6 true (.one 1 [1, 7, 9] (.one 7 [7, 9] (.alt 8 false (.alt 9 false .done .nil) .nil))) (.alt 8 false (.alt 1 false (.alt 6 true (.one 7 [7, 9] (.alt 9 false .done .nil)) .nil) (.alt 6 true (.one 1 [1, 7, 9] (.one 7 [7, 9] (.alt 9 false .done .nil))) .nil)) .nil))) (.alt 6 true (.one 0 [0, 1, 7, 9] (.one 1 [1, 7, 9] (.one 7 [7, 9] (.alt 8 false (.alt 9 false .done .nil) .nil)))) (.alt 8 false (.alt 0 false (.alt 1 false (.alt 6 true (.one 7 [7, 9] (.alt 9 false .done .nil)) .nil) (.alt 6 true (.one 1 [1, 7, 9] (.one 7 [7, 9] (.alt 9 false .done .nil))) .nil)) (.alt 6 true (.one 0 [0, 1, 7, 9] (.one 1 [1, 7, 9] (.one 7 [7, 9] (.alt 9 false .done .nil)))) .nil)) .nil))) (.alt 6 true (.one 0 [0, 1, 7, 9] (.one 1 [1, 7, 9] (.one 3 [3, 7, 9] (.one 7 [7, 9] (.alt 8 false (.alt 9 false .done .nil) .nil))))) (.alt 8 false (.alt 0 false (.alt 1 false (.alt 3 false (.alt 6 true (.one 7 [7, 9] (.alt 9 false .done .nil)) .nil) (.alt 6 true (.one 3 [3, 7, 9] (.one 7 [7, 9] (.alt 9 false .done .nil))) .nil)) (.alt 3 false (.alt 1 false (.alt 6 true (.one 7 [7, 9] (.alt 9 false .done .nil)) .nil) (.alt 6 true (.one 1 [1, 7, 9] (.one 7 [7, 9] (.alt 9 false .done .nil))) .nil)) (.alt 6 true (.one 1 [1, 7, 9] (.one 3 [3, 7, 9] (.one 7 [7, 9] (.alt 9 false .done .nil)))) .nil))) (.alt 3 false (.alt 0 false (.alt 1 false (.alt 6 true (.one 7 [7, 9] (.alt 9 false .done .nil)) .nil) (.alt 6 true (.one 1 [1, 7, 9] (.one 7 [7, 9] (.alt 9 false .done .nil))) .nil)) (.alt 6 true (.one 0 [0, 1, 7, 9] (.one 1 [1, 7, 9] (.one 7 [7, 9] (.alt 9 false .done .nil)))) .nil)) (.alt 6 true (.one 0 [0, 1, 7, 9] (.one 1 [1, 7, 9] (.one 3 [3, 7, 9] (.one 7 [7, 9] (.alt 9 false .done .nil))))) .nil))) .nil)))) (.alt 6 true (.one 0 [0, 1, 7, 9] (.one 1 [1, 7, 9] (.one 2 [2, 3, 7, 9] (.one 3 [3, 7, 9] (.one 7 [7, 9] (.alt 8 false (.alt 9 false .done .nil) .nil)))))) (.alt 8 false (.alt 0 false (.alt 1 false (.alt 2 false (.alt 3 false (.alt 6 true (.one 7 [7, 9] (.alt 9 false .done .nil)) .nil) (.alt 6 true (.one 3 [3, 7, 9] (.one 7 [7, 9] (.alt 9 false .done .nil))) .nil)) (.alt 6 true (.one 2 [2, 3, 7, 9] (.one 3 [3, 7, 9] (.one 7 [7, 9] (.alt 9 false .done .nil)))) .nil)) (.alt 2 false (.alt 1 false (.alt 3 false (.alt 6 true (.one 7 [7, 9] (.alt 9 false .done .nil)) .nil) (.alt 6 true (.one 3 [3, 7, 9] (.one 7 [7, 9] (.alt 9 false .done .nil))) .nil)) (.alt 3 false (.alt 1 false (.alt 6 true (.one 7 [7, 9] (.alt 9 false .done .nil)) .nil) (.alt 6 true (.one 1 [1, 7, 9] (.one 7 [7, 9] (.alt 9 false .done .nil))) .nil)) (.alt 6 true (.one 1 [1, 7, 9] (.one 3 [3, 7, 9] (.one 7 [7, 9] (.alt 9 false .done .nil)))) .nil))) (.alt 6 true (.one 1 [1, 7, 9] (.one 2 [2, 3, 7, 9] (.one 3 [3, 7, 9] (.one 7 [7, 9] (.alt 9 false .done .nil))))) .nil))) (.alt 2 false (.alt 0 false (.alt 1 false (.alt 3 false (.alt 6 true (.one 7 [7, 9] (.alt 9 false .done .nil)) .nil) (.alt 6 true (.one 3 [3, 7, 9] (.one 7 [7, 9] (.alt 9 false .done .nil))) .nil)) (.alt 3 false (.alt 1 false (.alt 6 true (.one 7 [7, 9] (.alt 9 false .done .nil)) .nil) (.alt 6 true (.one 1 [1, 7, 9] (.one 7 [7, 9] (.alt 9 false .done .nil))) .nil)) (.alt 6 true (.one 1 [1, 7, 9] (.one 3 [3, 7, 9] (.one 7 [7, 9] (.alt 9 false .done .nil)))) .nil))) (.alt 3 false (.alt 0 false (.alt 1 false (.alt 6 true (.one 7 [7, 9] (.alt 9 false .done .nil)) .nil) (.alt 6 true (.one 1 [1, 7, 9] (.one 7 [7, 9] (.alt 9 false .done .nil))) .nil)) (.alt 6 true (.one 0 [0, 1, 7, 9] (.one 1 [1, 7, 9] (.one 7 [7, 9] (.alt 9 false .done .nil)))) .nil)) (.alt 6 true (.one 0 [0, 1, 7, 9] (.one 1 [1, 7, 9] (.one 3 [3, 7, 9] (.one 7 [7, 9] (.alt 9 false .done .nil))))) .nil))) (.alt 6 true (.one 0 [0, 1, 7, 9] (.one 1 [1, 7, 9] (.one 2 [2, 3, 7, 9] (.one 3 [3, 7, 9] (.one 7 [7, 9] (.alt 9 false .done .nil)))))) .nil))) .nil)))))) : OY) (by kernel_rfl) ?_ | refine SW.regionD (Checked.mixed Tryd.checked) (by kernel_rfl) ?_ | refine SW.cond ?_ | refine SW.skip ?_ | refine SW.exit ?_ | refine SW.ret ?_ | (refine allF_i fun b hb => ?_; replace hD := And.intro hb hD; clear hb; try simp only [fresh_cons, fresh_nil, and_true, ne_eq, neF] at hD) | simp only [appK, appOsK]); try simp only [go_sem, hD, true_implies]) | (refine And.intro (by omega) ?_) | (refine ifI (fun hc => ?_) (fun hc => ?_) <;> first | (exfalso; omega) | skip) | ((first | apply hK | ((iterate 1 (clear hK K)); apply hK) | ((iterate 2 (clear hK K)); apply hK) | ((iterate 3 (clear hK K)); apply hK) | ((iterate 4 (clear hK K)); apply hK) | ((iterate 5 (clear hK K)); apply hK)); clear hK K) | (refine And.intro ?_ ?_)
    all_goals
      first
      | (refine k1 _ (Ab.SW.le ((St.le_pick [(b, .svs [U8 xa, U8 xg, .sc (.slice none 0 0)]), (cb, .svs [I64 l.length, I64 cu, I64 N.length, I64 lk, I64 ln, Str lt, I64 gk, I64 gn, Str gt, I64 mk, I64 mn, Str mt, I64 m, I64 nb, I64 tx]), (tb, .svs [Str nm, SL ats, RL l])] ?_ ?_).trans (St.le_sub ?_)) (k3 b e1 ?_))
         · repeat' (first | exact (fun x hx => (List.not_mem_nil hx).elim) | refine List.forall_mem_cons.2 ⟨?_, ?_⟩ | exact List.mem_cons_self | apply List.mem_cons_of_mem)
         · simp [hD]
         · repeat' (first | exact rfl | exact trivial | exact int_eq (by omega) | exact int_eq (by (rw [i64_wrap] <;> omega)) | constructor)
         · simp [fresh_cons, fresh_nil, hD])
      | (refine k1 _ (Ab.SW.le ((St.le_pick [(g, .svs (fC uC rows)), (b, .svs [U8 xa, U8 xg, .os g 0 rows.length 1]), (cb, .svs [I64 l.length, I64 cu, I64 N.length, I64 lk, I64 ln, Str lt, I64 gk, I64 gn, Str gt, I64 mk, I64 mn, Str mt, I64 m, I64 nb, I64 tx]), (tb, .svs [Str nm, SL ats, RL l])] ?_ ?_).trans (St.le_sub ?_)) (k2 b g ?_ ?_))
         · repeat' (first | exact (fun x hx => (List.not_mem_nil hx).elim) | refine List.forall_mem_cons.2 ⟨?_, ?_⟩ | exact List.mem_cons_self | apply List.mem_cons_of_mem)
         · simp [hD]
         · repeat' (first | exact rfl | exact trivial | exact int_eq (by omega) | exact int_eq (by (rw [i64_wrap] <;> omega)) | constructor)
         · simp [fresh_cons, fresh_nil, hD]
         · simp [fresh_cons, fresh_nil, hD])
      | trace_state
end Go.Proofs.YtddkacbcecedaaaDoor
