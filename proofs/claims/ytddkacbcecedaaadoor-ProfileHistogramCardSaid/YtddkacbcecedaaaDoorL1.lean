/- The laws: Outliers, Of, Histogram. -/
import Derived.Test.YtddkacbcecedaaaDoorM5
import Derived.Test.YtddkacbcecedaaaDoorM6
import Derived.Test.YtddkacbcecedaaaDoorM7
set_option linter.unusedSimpArgs false
set_option linter.unusedVariables false
set_option linter.unusedSectionVars false
namespace Go.Proofs.YtddkacbcecedaaaDoor
open Go Go.Ab Go.Ab.A34
variable [Gl] [Tabs] [Bru]

theorem code_64 (c : Int) : In64 (codeV c).2.1 := by
  unfold In64 codeV
  repeat' split
  all_goals decide
theorem code_ok (c : Int) : okV (codeV c) = true := by
  have e := emp_nil
  unfold codeV
  repeat' split
  all_goals (unfold okV vok; simp [e])
  all_goals decide
/-- The rows of a recipe's table. -/
theorem tab_rows (x : Rc) : ∀ r ∈ (tabS x).rows, r.2.length ≤ 5 ∧ ∀ v ∈ r.2, In64 v.2.1 := by
  intro r hr
  unfold tabS wideS at hr
  obtain ⟨j, hj, rfl⟩ := List.mem_map.1 hr
  unfold rowS
  refine ⟨by simp only [List.length_map, List.length_range]; omega, fun v hv => ?_⟩
  obtain ⟨k, _, rfl⟩ := List.mem_map.1 hv
  exact code_64 _
theorem bad_rows (x : Rc) : ∀ r ∈ (badS (tabS x)).rows, r.2.length ≤ 5 ∧ ∀ v ∈ r.2, In64 v.2.1 := by
  intro r hr
  unfold badS at hr
  rcases List.mem_append.1 hr with hr | hr
  · exact tab_rows x r hr
  · rw [List.mem_singleton.1 hr]
    exact ⟨Nat.zero_le _, fun v hv => by cases hv⟩

theorem out_len (t : Tb) (a : Nat) : (outS t a).length ≤ t.rows.length := by
  unfold outS
  split
  · exact Nat.zero_le _
  · exact outRows_le _ _ _ _
theorem out_both (t : Tb) (a : Int) (hr : ∀ r ∈ t.rows, r.2.length ≤ 5 ∧ ∀ v ∈ r.2, In64 v.2.1) : ∃ L e, PCall Tryd.prog 11 [TB t, I64 a] (.tup [NL L, I64 e]) ∧ PCall Tryd.prog 12 [TB t, I64 a] (.tup [NL L, I64 e]) ∧ PCall Tryd.prog 13 [NL L, NL L] (SB true) := by
  by_cases h : chkS t a = 0
  · obtain ⟨h1, h2, h3⟩ := chk_ok h
    obtain ⟨n, rfl⟩ := Int.eq_ofNat_of_zero_le h2
    exact ⟨_, _, out_p t n h (fun r h => (hr r h).2), out_r t n h (fun r h => (hr r h).2), eqN_self _ (by have := out_len t n; have := (valid_rows h1).1; omega)⟩
  · exact ⟨_, _, out_p_bad t a h, out_r_bad t a (fun r h => by have := (hr r h).1; omega) h, eqN_self [] (by decide)⟩
theorem of_both (t : Tb) (a : Int) (hr : ∀ r ∈ t.rows, r.2.length ≤ 5 ∧ ∀ v ∈ r.2, In64 v.2.1) : ∃ c e, PCall Tryd.prog 16 [TB t, I64 a] (.tup [CO c, I64 e]) ∧ PCall Tryd.prog 17 [TB t, I64 a] (.tup [CO c, I64 e]) := by
  by_cases h : chkS t a = 0
  · obtain ⟨h1, h2, h3⟩ := chk_ok h
    obtain ⟨n, rfl⟩ := Int.eq_ofNat_of_zero_le h2
    exact ⟨_, _, of_p t n h, of_r t n h⟩
  · exact ⟨_, _, of_p_bad t a h, of_r_bad t a (fun r h => by have := (hr r h).1; omega) h⟩
theorem hist_both (t : Tb) (a : Int) (hr : ∀ r ∈ t.rows, r.2.length ≤ 5 ∧ ∀ v ∈ r.2, In64 v.2.1) : ∃ V N e, PCall Tryd.prog 20 [TB t, I64 a] (.tup [VL V, NL N, I64 e]) ∧ PCall Tryd.prog 21 [TB t, I64 a] (.tup [VL V, NL N, I64 e]) ∧ PCall Tryd.prog 22 [VL V, VL V] (SB true) ∧ PCall Tryd.prog 23 [NL N, NL N] (SB true) := by
  by_cases h : chkS t a = 0
  · obtain ⟨h1, h2, h3⟩ := chk_ok h
    obtain ⟨n, rfl⟩ := Int.eq_ofNat_of_zero_le h2
    obtain ⟨r1, r2, r3⟩ := valid_rows h1
    have hl := (hist_bound (colS t n)).1
    have hcl : (colS t n).length = t.rows.length := by unfold colS; rw [sortV_len, List.length_map]
    exact ⟨_, _, _, hist_p t n h (by omega) (fun r hr => by have := r3 r hr; omega), hist_r t n h (fun r hr => by have := (r3 r hr).1; omega) (by omega) (fun r hr => ⟨by have := r3 r hr; omega, fun v hv => by have := okV_size ((r3 r hr).2 v hv); omega⟩), eqV_self _ (by unfold vals; rw [List.length_map]; omega), eqI_self _ (by unfold nums; rw [List.length_map]; omega)⟩
  · exact ⟨_, _, _, hist_p_bad t a h, hist_r_bad t a (fun r h => by have := (hr r h).1; omega) h, eqV_self [] (by decide), eqI_self [] (by decide)⟩
/-- What spoiled returns. -/
theorem spoiled_c (x : Rc) (hx : okRc x) (q : Bool) : PCall Tryd.prog 8 [RC x, SB q] (.tup [TZ, SB false]) ∨ ∃ t, (∀ r ∈ t.rows, r.2.length ≤ 5 ∧ ∀ v ∈ r.2, In64 v.2.1) ∧ PCall Tryd.prog 8 [RC x, SB q] (.tup [TB t, SB true]) := by
  by_cases h : 12 < x.rows.length
  · exact .inl (spoiled_big x q h)
  · cases q with
    | false => exact .inr ⟨_, tab_rows x, spoiled_ok x hx (by omega)⟩
    | true => exact .inr ⟨_, bad_rows x, spoiled_bad x hx (by omega)⟩

set_option maxHeartbeats 2000000 in
set_option maxRecDepth 20000 in
theorem law_outliers (l : List Int) (hl : ∀ n ∈ l, In64 n) (x : Rc) (hx : okRc x) (a : Int) : PCall Tryd.prog 3 [NL l, RC x, I64 a] (SB true) := by
  have aw := awake_c
  rcases spoiled_c x hx false with sp | ⟨t, hr, sp⟩
  · refine Call.enter' (N := 77) (rs := [.tmp 6]) Tryd.func3 rfl rfl rfl (by decide) rfl ?_; simp only [argT]; have hD : (0 : Nat) = 0 := rfl
    repeat' first | (with_reducible refine And.intro (by omega) ?_) | (refine SW.seq_k fun K hK => ?_) | (refine SW.block ?_) | ((first | refine SW.region ?_ | refine SW.regionD (Checked.mixed Tryd.checked) (by kernel_rfl) ?_ | refine SW.cond ?_ | refine SW.skip ?_ | refine SW.exit ?_ | refine SW.ret ?_ | refine Call.of_pure (sp) ?_ | refine ⟨_, sp, ?_⟩ | refine Call.of_pure (aw) ?_ | refine ⟨_, aw, ?_⟩ | (refine allF_i fun b hb => ?_; replace hD := And.intro hb hD; clear hb; try simp only [fresh_cons, fresh_nil, and_true, ne_eq, neF] at hD) | simp only [appK, appOsK]); try simp only [go_sem, hD]) | (refine And.intro (by omega) ?_) | (refine ifI (fun hc => ?_) (fun hc => ?_) <;> first | (exfalso; omega) | skip) | ((first | apply hK | ((iterate 1 (clear hK K)); apply hK) | ((iterate 2 (clear hK K)); apply hK) | ((iterate 3 (clear hK K)); apply hK) | ((iterate 4 (clear hK K)); apply hK) | ((iterate 5 (clear hK K)); apply hK)); clear hK K)
    refine ret_pure ?_; simp only [resL_tmp, resL_nil, tupOf, go_sem, hD]
  · by_cases h20 : 20 < l.length
    · have h20i : (20 : Int) < ((l.length : Nat) : Int) := by omega
      refine Call.enter' (N := 77) (rs := [.tmp 6]) Tryd.func3 rfl rfl rfl (by decide) rfl ?_; simp only [argT]; have hD : (0 : Nat) = 0 := rfl
      repeat' first | (with_reducible refine And.intro (by omega) ?_) | (refine SW.seq_k fun K hK => ?_) | (refine SW.block ?_) | ((first | refine SW.region ?_ | refine SW.regionD (Checked.mixed Tryd.checked) (by kernel_rfl) ?_ | refine SW.cond ?_ | refine SW.skip ?_ | refine SW.exit ?_ | refine SW.ret ?_ | refine Call.of_pure (sp) ?_ | refine ⟨_, sp, ?_⟩ | refine Call.of_pure (aw) ?_ | refine ⟨_, aw, ?_⟩ | (refine allF_i fun b hb => ?_; replace hD := And.intro hb hD; clear hb; try simp only [fresh_cons, fresh_nil, and_true, ne_eq, neF] at hD) | simp only [appK, appOsK]); try simp only [go_sem, hD, h20i]) | (refine And.intro (by omega) ?_) | (refine ifI (fun hc => ?_) (fun hc => ?_) <;> first | (exfalso; omega) | skip) | ((first | apply hK | ((iterate 1 (clear hK K)); apply hK) | ((iterate 2 (clear hK K)); apply hK) | ((iterate 3 (clear hK K)); apply hK) | ((iterate 4 (clear hK K)); apply hK) | ((iterate 5 (clear hK K)); apply hK)); clear hK K)
      refine ret_pure ?_; simp only [resL_tmp, resL_nil, tupOf, go_sem, hD]
    · have h20i : ¬ (20 : Int) < ((l.length : Nat) : Int) := by omega
      obtain ⟨L, e, o1, o2, o3⟩ := out_both t a hr
      have cl := col_r l (by omega)
      obtain ⟨L', e', p1, p2, p3⟩ := out_both (colT l) 0 (fun r hr => ⟨by
        unfold colT at hr
        obtain ⟨j, hj, rfl⟩ := List.mem_map.1 hr
        show 1 ≤ 5
        decide, fun v hv => colT_64 l hl r hr v hv⟩)
      generalize colT l = T at *
      refine Call.enter' (N := 77) (rs := [.tmp 6]) Tryd.func3 rfl rfl rfl (by decide) rfl ?_; simp only [argT]; have hD : (0 : Nat) = 0 := rfl
      repeat' first | (with_reducible refine And.intro (by omega) ?_) | (refine SW.seq_k fun K hK => ?_) | (refine SW.block ?_) | ((first | refine SW.region ?_ | refine SW.regionD (Checked.mixed Tryd.checked) (by kernel_rfl) ?_ | refine SW.cond ?_ | refine SW.skip ?_ | refine SW.exit ?_ | refine SW.ret ?_ | refine Call.of_pure (sp) ?_ | refine ⟨_, sp, ?_⟩ | refine Call.of_pure (aw) ?_ | refine ⟨_, aw, ?_⟩ | refine Call.of_pure (cl) ?_ | refine ⟨_, cl, ?_⟩ | refine Call.of_pure (p1) ?_ | refine ⟨_, p1, ?_⟩ | refine Call.of_pure (p2) ?_ | refine ⟨_, p2, ?_⟩ | refine Call.of_pure (o1) ?_ | refine ⟨_, o1, ?_⟩ | refine Call.of_pure (o2) ?_ | refine ⟨_, o2, ?_⟩ | refine Call.of_pure (p3) ?_ | refine ⟨_, p3, ?_⟩ | refine Call.of_pure (o3) ?_ | refine ⟨_, o3, ?_⟩ | (refine allF_i fun b hb => ?_; replace hD := And.intro hb hD; clear hb; try simp only [fresh_cons, fresh_nil, and_true, ne_eq, neF] at hD) | simp only [appK, appOsK]); try simp only [go_sem, hD, h20i]) | (refine And.intro (by omega) ?_) | (refine ifI (fun hc => ?_) (fun hc => ?_) <;> first | (exfalso; omega) | skip) | ((first | apply hK | ((iterate 1 (clear hK K)); apply hK) | ((iterate 2 (clear hK K)); apply hK) | ((iterate 3 (clear hK K)); apply hK) | ((iterate 4 (clear hK K)); apply hK) | ((iterate 5 (clear hK K)); apply hK)); clear hK K)
      refine ret_pure ?_; simp only [resL_tmp, resL_nil, tupOf, go_sem, hD]

set_option maxHeartbeats 2000000 in
set_option maxRecDepth 20000 in
theorem law_hist (x : Rc) (hx : okRc x) (a : Int) (q : Bool) : PCall Tryd.prog 6 [RC x, I64 a, SB q] (SB true) := by
  have aw := awake_c
  rcases spoiled_c x hx q with sp | ⟨t, hr, sp⟩
  · refine Call.enter' (N := 55) (rs := [.tmp 6]) Tryd.func6 rfl rfl rfl (by decide) rfl ?_; simp only [argT]; have hD : (0 : Nat) = 0 := rfl
    repeat' first | (with_reducible refine And.intro (by omega) ?_) | (refine SW.seq_k fun K hK => ?_) | (refine SW.block ?_) | ((first | refine SW.region ?_ | refine SW.regionD (Checked.mixed Tryd.checked) (by kernel_rfl) ?_ | refine SW.cond ?_ | refine SW.skip ?_ | refine SW.exit ?_ | refine SW.ret ?_ | refine Call.of_pure (sp) ?_ | refine ⟨_, sp, ?_⟩ | refine Call.of_pure (aw) ?_ | refine ⟨_, aw, ?_⟩ | (refine allF_i fun b hb => ?_; replace hD := And.intro hb hD; clear hb; try simp only [fresh_cons, fresh_nil, and_true, ne_eq, neF] at hD) | simp only [appK, appOsK]); try simp only [go_sem, hD]) | (refine And.intro (by omega) ?_) | (refine ifI (fun hc => ?_) (fun hc => ?_) <;> first | (exfalso; omega) | skip) | ((first | apply hK | ((iterate 1 (clear hK K)); apply hK) | ((iterate 2 (clear hK K)); apply hK) | ((iterate 3 (clear hK K)); apply hK) | ((iterate 4 (clear hK K)); apply hK) | ((iterate 5 (clear hK K)); apply hK)); clear hK K)
    refine ret_pure ?_; simp only [resL_tmp, resL_nil, tupOf, go_sem, hD]
  · obtain ⟨V, N, e, o1, o2, o3, o4⟩ := hist_both t a hr
    refine Call.enter' (N := 55) (rs := [.tmp 6]) Tryd.func6 rfl rfl rfl (by decide) rfl ?_; simp only [argT]; have hD : (0 : Nat) = 0 := rfl
    repeat' first | (with_reducible refine And.intro (by omega) ?_) | (refine SW.seq_k fun K hK => ?_) | (refine SW.block ?_) | ((first | refine SW.region ?_ | refine SW.regionD (Checked.mixed Tryd.checked) (by kernel_rfl) ?_ | refine SW.cond ?_ | refine SW.skip ?_ | refine SW.exit ?_ | refine SW.ret ?_ | refine Call.of_pure (sp) ?_ | refine ⟨_, sp, ?_⟩ | refine Call.of_pure (aw) ?_ | refine ⟨_, aw, ?_⟩ | refine Call.of_pure (o1) ?_ | refine ⟨_, o1, ?_⟩ | refine Call.of_pure (o2) ?_ | refine ⟨_, o2, ?_⟩ | refine Call.of_pure (o3) ?_ | refine ⟨_, o3, ?_⟩ | refine Call.of_pure (o4) ?_ | refine ⟨_, o4, ?_⟩ | (refine allF_i fun b hb => ?_; replace hD := And.intro hb hD; clear hb; try simp only [fresh_cons, fresh_nil, and_true, ne_eq, neF] at hD) | simp only [appK, appOsK]); try simp only [go_sem, hD]) | (refine And.intro (by omega) ?_) | (refine ifI (fun hc => ?_) (fun hc => ?_) <;> first | (exfalso; omega) | skip) | ((first | apply hK | ((iterate 1 (clear hK K)); apply hK) | ((iterate 2 (clear hK K)); apply hK) | ((iterate 3 (clear hK K)); apply hK) | ((iterate 4 (clear hK K)); apply hK) | ((iterate 5 (clear hK K)); apply hK)); clear hK K)
    refine ret_pure ?_; simp only [resL_tmp, resL_nil, tupOf, go_sem, hD]

set_option maxHeartbeats 2000000 in
set_option maxRecDepth 20000 in
theorem law_of (x : Rc) (hx : okRc x) (a : Int) (q : Bool) : PCall Tryd.prog 5 [RC x, I64 a, SB q] (SB true) := by
  have aw := awake_c
  rcases spoiled_c x hx q with sp | ⟨t, hr, sp⟩
  · refine Call.enter' (N := 91) (rs := [.tmp 6]) Tryd.func5 rfl rfl rfl (by decide) rfl ?_; simp only [argT]; have hD : (0 : Nat) = 0 := rfl
    repeat' first | (with_reducible refine And.intro (by omega) ?_) | (refine SW.seq_k fun K hK => ?_) | (refine SW.block ?_) | ((first | refine SW.region ?_ | refine SW.regionD (Checked.mixed Tryd.checked) (by kernel_rfl) ?_ | refine SW.cond ?_ | refine SW.skip ?_ | refine SW.exit ?_ | refine SW.ret ?_ | refine Call.of_pure (sp) ?_ | refine ⟨_, sp, ?_⟩ | refine Call.of_pure (aw) ?_ | refine ⟨_, aw, ?_⟩ | (refine allF_i fun b hb => ?_; replace hD := And.intro hb hD; clear hb; try simp only [fresh_cons, fresh_nil, and_true, ne_eq, neF] at hD) | simp only [appK, appOsK]); try simp only [go_sem, hD]) | (refine And.intro (by omega) ?_) | (refine ifI (fun hc => ?_) (fun hc => ?_) <;> first | (exfalso; omega) | skip) | ((first | apply hK | ((iterate 1 (clear hK K)); apply hK) | ((iterate 2 (clear hK K)); apply hK) | ((iterate 3 (clear hK K)); apply hK) | ((iterate 4 (clear hK K)); apply hK) | ((iterate 5 (clear hK K)); apply hK)); clear hK K)
    refine ret_pure ?_; simp only [resL_tmp, resL_nil, tupOf, go_sem, hD]
  · obtain ⟨c, e, o1, o2⟩ := of_both t a hr
    have vr := valid_tr t (fun r h => by have := (hr r h).1; omega)
    have bs : ∀ s : ByteArray, (s.toList == s.toList) = true := fun s => barr_eq.2 rfl
    by_cases hv : validS t = 0
    · have al := all_p t hv
      have oi : ∀ i : Nat, i < t.attrs.length → PCall Tryd.prog 17 [TB t, I64 i] (.tup [CO (profS t i), I64 0]) := fun i hi => of_r t i (by unfold chkS; rw [if_pos hv, if_neg (by omega)])
      have r2 := (valid_rows hv).2.1
      rw [hv] at vr
      obtain ⟨F, hF⟩ : ∃ F, F = profS t := ⟨_, rfl⟩
      rw [← hF] at al oi
      clear hF
      obtain ⟨nm, ats, l⟩ := t
      simp only at al oi r2
      have hLl : ((List.range ats.length).map F).length = ats.length := by simp
      have hLg : ∀ i, i < ats.length → ((List.range ats.length).map F).getD i co0 = F i := fun i hi => by simp [List.getD_eq_getElem?_getD, hi]
      generalize (List.range ats.length).map F = L at *
      refine Call.enter' (N := 91) (rs := [.tmp 6]) Tryd.func5 rfl rfl rfl (by decide) rfl ?_; simp only [argT]; have hD : (0 : Nat) = 0 := rfl
      repeat' first | (with_reducible refine And.intro (by omega) ?_) | (refine SW.seq_k fun K hK => ?_) | (refine SW.block ?_) | ((first | refine SW.region ?_ | refine SW.regionD (Checked.mixed Tryd.checked) (by kernel_rfl) ?_ | refine SW.cond ?_ | refine SW.skip ?_ | refine SW.exit ?_ | refine SW.ret ?_ | refine Call.of_pure (sp) ?_ | refine ⟨_, sp, ?_⟩ | refine Call.of_pure (aw) ?_ | refine ⟨_, aw, ?_⟩ | refine Call.of_pure (o1) ?_ | refine ⟨_, o1, ?_⟩ | refine Call.of_pure (o2) ?_ | refine ⟨_, o2, ?_⟩ | refine Call.of_pure (al) ?_ | refine ⟨_, al, ?_⟩ | refine Call.of_pure (vr) ?_ | refine ⟨_, vr, ?_⟩ | (refine allF_i fun b hb => ?_; replace hD := And.intro hb hD; clear hb; try simp only [fresh_cons, fresh_nil, and_true, ne_eq, neF] at hD) | simp only [appK, appOsK]); try simp only [go_sem, hD, bs]) | (refine And.intro (by omega) ?_) | (refine ifI (fun hc => ?_) (fun hc => ?_) <;> first | (exfalso; omega) | skip) | ((first | apply hK | ((iterate 1 (clear hK K)); apply hK) | ((iterate 2 (clear hK K)); apply hK) | ((iterate 3 (clear hK K)); apply hK) | ((iterate 4 (clear hK K)); apply hK) | ((iterate 5 (clear hK K)); apply hK)); clear hK K)
      obtain ⟨z1, rfl⟩ : ∃ x, x = b := ⟨_, rfl⟩
      obtain ⟨z2, rfl⟩ : ∃ x, x = b := ⟨_, rfl⟩
      obtain ⟨tb, rfl⟩ : ∃ x, x = b := ⟨_, rfl⟩
      refine Ab.SW.le (St.le_pick [(tb, .svs [Str nm, SL ats, RL l])] ?_ ?_) ?_
      · repeat' (first | exact (fun x hx => (List.not_mem_nil hx).elim) | refine List.forall_mem_cons.2 ⟨?_, ?_⟩ | exact List.mem_cons_self | apply List.mem_cons_of_mem)
      · simp [fresh_cons, fresh_nil, hD]
      clear hD
      have hD : (0 : Nat) = 0 := rfl
      obtain ⟨I, hI⟩ : ∃ I : Nat → St → Prop, ∀ k S, I k S ↔ (∃ (i : Nat) , k = L.length - i ∧ i ≤ L.length ∧ S = ⟨[(7, .op tb 0), (13, CL L), (68, I64 L.length), (69, I64 i)], [(tb, .svs [Str nm, SL ats, RL l])]⟩) := ⟨fun k S => _, fun _ _ => Iff.rfl⟩
      refine SW.loop' I (L.length) ((hI _ _).2 ⟨0, rfl, Nat.zero_le _, rfl⟩) (by repeat' (first | exact rfl | exact trivial | exact int_eq (by omega) | exact int_eq (by (rw [i64_wrap] <;> omega)) | constructor)) ?_
      intro k S hIn
      obtain ⟨i, rfl, hi, rfl⟩ := (hI _ _).1 hIn
      clear hIn
      have ie : ((i : Nat) : Int).toNat = i := Int.toNat_natCast _
      have i0 : (0 : Int) ≤ ((i : Nat) : Int) := by omega
      by_cases hlt : i < L.length
      · have hli : ((i : Nat) : Int) < (((L.length) : Nat) : Int) := by omega
        have w1 : IntKind.i64.wrap ((i : Int) + 1) = ((i + 1 : Nat) : Int) := by rw [i64_wrap (by omega) (by omega)]; omega
        have oi' := oi i (by omega)
        have lg := hLg i (by omega)
        generalize F i = ci at *
        obtain ⟨cr, cu, cd, ⟨lk, ln, lt⟩, ⟨gk, gn, gt⟩, ⟨mk, mn, mt⟩, ti, nb, tx⟩ := ci
        have tl : coC (L.getD i co0) = coC ⟨cr, cu, cd, (lk, ln, lt), (gk, gn, gt), (mk, mn, mt), ti, nb, tx⟩ := by rw [lg]
        repeat' first | (with_reducible refine And.intro (by omega) ?_) | (refine SW.seq_k fun K hK => ?_) | (refine SW.block ?_) | ((first | refine SW.region ?_ | refine SW.regionZ (id := 15) (Checked.mixed Tryd.checked) ((.one 0 [0, 2, 3, 5] (.one 1 [1, 2, 3, 5] (.one 2 [2, 3, 5] (.one 3 [3, 5] (.one 4 [4, 5] (.one 5 [5] .done)))))) : OZ) (by kernel_rfl) ?_ | refine SW.regionD (Checked.mixed Tryd.checked) (by kernel_rfl) ?_ | refine SW.cond ?_ | refine SW.skip ?_ | refine SW.exit ?_ | refine SW.ret ?_ | refine Call.of_pure (oi') ?_ | refine ⟨_, oi', ?_⟩ | (refine allF_i fun b hb => ?_; replace hD := And.intro hb hD; clear hb; try simp only [fresh_cons, fresh_nil, and_true, ne_eq, neF] at hD) | simp only [appK, appOsK]); try simp only [go_sem, hD, hli, ie, i0, w1, lg, bs, true_implies]) | (refine And.intro (by omega) ?_) | (refine ifI (fun hc => ?_) (fun hc => ?_) <;> first | (exfalso; omega) | skip) | ((first | apply hK | ((iterate 1 (clear hK K)); apply hK) | ((iterate 2 (clear hK K)); apply hK) | ((iterate 3 (clear hK K)); apply hK) | ((iterate 4 (clear hK K)); apply hK) | ((iterate 5 (clear hK K)); apply hK)); clear hK K) | (refine And.intro ?_ ?_)
        all_goals
          refine Rnd.le (St.le_only ?_) (Rnd.sub (L.length - (i + 1)) (by omega) ((hI _ _).2 ⟨i + 1, rfl, by omega, rfl⟩) (by repeat' (first | exact rfl | exact trivial | exact int_eq (by omega) | exact int_eq (by (rw [i64_wrap] <;> omega)) | constructor)))
          repeat (first | exact List.mem_cons_self | apply List.mem_cons_of_mem)
      · have hli : ¬ ((i : Nat) : Int) < (((L.length) : Nat) : Int) := by omega
        have hLi : ((L.length : Nat) : Int) = ((ats.length : Nat) : Int) := by rw [hLl]
        repeat' first | (with_reducible refine And.intro (by omega) ?_) | (refine SW.seq_k fun K hK => ?_) | (refine SW.block ?_) | ((first | refine SW.region ?_ | refine SW.regionD (Checked.mixed Tryd.checked) (by kernel_rfl) ?_ | refine SW.cond ?_ | refine SW.skip ?_ | refine SW.exit ?_ | refine SW.ret ?_ | (refine allF_i fun b hb => ?_; replace hD := And.intro hb hD; clear hb; try simp only [fresh_cons, fresh_nil, and_true, ne_eq, neF] at hD) | simp only [appK, appOsK]); try simp only [go_sem, hD, hli, hLi, hLl]) | (refine And.intro (by omega) ?_) | (refine ifI (fun hc => ?_) (fun hc => ?_) <;> first | (exfalso; omega) | skip) | ((first | apply hK | ((iterate 1 (clear hK K)); apply hK) | ((iterate 2 (clear hK K)); apply hK) | ((iterate 3 (clear hK K)); apply hK) | ((iterate 4 (clear hK K)); apply hK) | ((iterate 5 (clear hK K)); apply hK)); clear hK K)
        refine ret_pure ?_; simp only [resL_tmp, resL_nil, tupOf, go_sem, hD]
    · have al := all_p_bad t hv
      generalize validS t = e' at *
      refine Call.enter' (N := 91) (rs := [.tmp 6]) Tryd.func5 rfl rfl rfl (by decide) rfl ?_; simp only [argT]; have hD : (0 : Nat) = 0 := rfl
      repeat' first | (with_reducible refine And.intro (by omega) ?_) | (refine SW.seq_k fun K hK => ?_) | (refine SW.block ?_) | ((first | refine SW.region ?_ | refine SW.regionD (Checked.mixed Tryd.checked) (by kernel_rfl) ?_ | refine SW.cond ?_ | refine SW.skip ?_ | refine SW.exit ?_ | refine SW.ret ?_ | refine Call.of_pure (sp) ?_ | refine ⟨_, sp, ?_⟩ | refine Call.of_pure (aw) ?_ | refine ⟨_, aw, ?_⟩ | refine Call.of_pure (o1) ?_ | refine ⟨_, o1, ?_⟩ | refine Call.of_pure (o2) ?_ | refine ⟨_, o2, ?_⟩ | refine Call.of_pure (al) ?_ | refine ⟨_, al, ?_⟩ | refine Call.of_pure (vr) ?_ | refine ⟨_, vr, ?_⟩ | (refine allF_i fun b hb => ?_; replace hD := And.intro hb hD; clear hb; try simp only [fresh_cons, fresh_nil, and_true, ne_eq, neF] at hD) | simp only [appK, appOsK]); try simp only [go_sem, hD, bs, hv]) | (refine And.intro (by omega) ?_) | (refine ifI (fun hc => ?_) (fun hc => ?_) <;> first | (exfalso; omega) | skip) | ((first | apply hK | ((iterate 1 (clear hK K)); apply hK) | ((iterate 2 (clear hK K)); apply hK) | ((iterate 3 (clear hK K)); apply hK) | ((iterate 4 (clear hK K)); apply hK) | ((iterate 5 (clear hK K)); apply hK)); clear hK K)
      refine ret_pure ?_; simp only [resL_tmp, resL_nil, tupOf, go_sem, hD]
end Go.Proofs.YtddkacbcecedaaaDoor
