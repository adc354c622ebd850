/- Contracts: Table, spoiled. -/
import Derived.Test.YtddkacbcecedaaaGreatDoorJ2
import Derived.Test.YtddkacbcecedaaaGreatDoorJ3
import Derived.Test.YtddkacbcecedaaaGreatDoorZ10
set_option linter.unusedSimpArgs false
set_option linter.unusedVariables false
set_option linter.unusedSectionVars false
namespace Go.Ab.A34
open Go Go.Ab Go.Proofs
abbrev TZ : SV := .agg [Str ⟨#[]⟩, .sc (.slice none 0 0), .sc (.slice none 0 0)]
/-- The table of a recipe, with its own number of attributes. -/
def tabS (x : Rc) : Tb := wideS x (x.attrs % 6).toNat
def badS (t : Tb) : Tb := ⟨t.name, t.attrs, t.rows ++ [(0, [])]⟩
end Go.Ab.A34
namespace Go.Proofs.YtddkacbcecedaaaGreatDoor
open Go Go.Ab Go.Ab.A34
variable [Gl] [Tabs]

theorem table_big (x : Rc) (m : Nat) (h : m < x.rows.length) : PCall Tryz.prog 11 [RC x, I64 m] (.tup [TZ, SB false]) := by
  have hi : ((m : Nat) : Int) < ((x.rows.length : Nat) : Int) := by omega
  obtain ⟨a, g, l⟩ := x
  simp only at hi
  refine Call.enter' (N := 18) (rs := [.cell 4 28, .tmp 5]) Tryz.func11 rfl rfl rfl (by decide) rfl ?_; simp only [argT]; have hD : (0 : Nat) = 0 := rfl
  repeat' first | (with_reducible refine And.intro (by omega) ?_) | (refine SW.seq_k fun K hK => ?_) | (refine SW.block ?_) | ((first | refine SW.region ?_ | refine SW.regionD (Checked.mixed Tryz.checked) (by kernel_rfl) ?_ | refine SW.cond ?_ | refine SW.skip ?_ | refine SW.exit ?_ | refine SW.ret ?_ | (refine allF_i fun b hb => ?_; replace hD := And.intro hb hD; clear hb; try simp only [fresh_cons, fresh_nil, and_true, ne_eq, neF] at hD) | simp only [appK, appOsK]); try simp only [go_sem, hD, hi]) | (refine And.intro (by omega) ?_) | (refine ifI (fun hc => ?_) (fun hc => ?_) <;> first | (exfalso; omega) | skip) | ((first | apply hK | ((iterate 1 (clear hK K)); apply hK) | ((iterate 2 (clear hK K)); apply hK) | ((iterate 3 (clear hK K)); apply hK) | ((iterate 4 (clear hK K)); apply hK) | ((iterate 5 (clear hK K)); apply hK)); clear hK K)
  apply ret_cell (i := 4) (n := 3); exact rfl; (simp only [go_sem, hD]; try rfl); (first | exact Nat.le_refl _ | decide); simp only [resL_tmp, resL_cellE, resC_ok, resL_nil, tupOf, getN, go_sem, hD]
theorem table_r (x : Rc) (hx : okRc x) (m : Nat) (h : x.rows.length ≤ m) (hm : m ≤ 1000) : PCall Tryz.prog 11 [RC x, I64 m] (.tup [TB (tabS x), SB true]) := by
  have hi : ¬ ((m : Nat) : Int) < ((x.rows.length : Nat) : Int) := by omega
  have a1 : x.attrs.tmod 6 = x.attrs % 6 := Int.tmod_eq_emod_of_nonneg hx.1.1
  have a2 : IntKind.i64.wrap (x.attrs % 6) = (((x.attrs % 6).toNat : Nat) : Int) := by rw [i64_wrap (by omega) (by omega)]; omega
  have wr := wide_r x hx (x.attrs % 6).toNat (by omega) (by omega)
  unfold tabS
  generalize wideS x (x.attrs % 6).toNat = t at *
  obtain ⟨a, g, l⟩ := x
  simp only at hi a1 a2 wr
  refine Call.enter' (N := 18) (rs := [.cell 4 28, .tmp 5]) Tryz.func11 rfl rfl rfl (by decide) rfl ?_; simp only [argT]; have hD : (0 : Nat) = 0 := rfl
  repeat' first | (with_reducible refine And.intro (by omega) ?_) | (refine SW.seq_k fun K hK => ?_) | (refine SW.block ?_) | ((first | refine SW.region ?_ | refine SW.regionD (Checked.mixed Tryz.checked) (by kernel_rfl) ?_ | refine SW.cond ?_ | refine SW.skip ?_ | refine SW.exit ?_ | refine SW.ret ?_ | refine Call.of_pure (wr) ?_ | refine ⟨_, wr, ?_⟩ | (refine allF_i fun b hb => ?_; replace hD := And.intro hb hD; clear hb; try simp only [fresh_cons, fresh_nil, and_true, ne_eq, neF] at hD) | simp only [appK, appOsK]); try simp only [go_sem, hD, hi, a1, a2]) | (refine And.intro (by omega) ?_) | (refine ifI (fun hc => ?_) (fun hc => ?_) <;> first | (exfalso; omega) | skip) | ((first | apply hK | ((iterate 1 (clear hK K)); apply hK) | ((iterate 2 (clear hK K)); apply hK) | ((iterate 3 (clear hK K)); apply hK) | ((iterate 4 (clear hK K)); apply hK) | ((iterate 5 (clear hK K)); apply hK)); clear hK K)
  apply ret_cell (i := 4) (n := 3); exact rfl; (simp only [go_sem, hD]; try rfl); (first | exact Nat.le_refl _ | decide); simp only [resL_tmp, resL_cellE, resC_ok, resL_nil, tupOf, getN, go_sem, hD]
theorem table_o (x : Rc) (hx : okRc x) (m : Nat) (h : x.rows.length ≤ m) (hm : m ≤ 1000) : Ab.Call Tryz.prog 11 [RC x, I64 m] [] (fun r h' => ∃ y, r = .tup [.agg [Str (tabS x).name, SL (tabS x).attrs, y], SB true] ∧ RO y h' (tabS x).rows) := by
  have hi : ¬ ((m : Nat) : Int) < ((x.rows.length : Nat) : Int) := by omega
  have a1 : x.attrs.tmod 6 = x.attrs % 6 := Int.tmod_eq_emod_of_nonneg hx.1.1
  have a2 : IntKind.i64.wrap (x.attrs % 6) = (((x.attrs % 6).toNat : Nat) : Int) := by rw [i64_wrap (by omega) (by omega)]; omega
  have wr := wide_o x hx (x.attrs % 6).toNat (by omega) (by omega)
  have hat : (wideS x (x.attrs % 6).toNat).attrs = nm8.take (x.attrs % 6).toNat := rfl
  have hnm : (wideS x (x.attrs % 6).toNat).name = ⟨#[114]⟩ := rfl
  unfold tabS
  rw [hat, hnm]
  generalize wideS x (x.attrs % 6).toNat = t at *
  obtain ⟨a, g, l⟩ := x
  simp only at hi a1 a2 wr
  refine Call.enter' (N := 18) (rs := [.cell 4 28, .tmp 5]) Tryz.func11 rfl rfl rfl (by decide) rfl ?_; simp only [argT]; have hD : (0 : Nat) = 0 := rfl
  repeat' first | (with_reducible refine Call.mono (Call.frameN (h1 := []) wr) ?_; intro r h' hx; obtain ⟨h1', rfl, ⟨y, rfl, hA⟩, hnd⟩ := hx; refine stop_i ?_) | (with_reducible refine And.intro (by omega) ?_) | (refine SW.seq_k fun K hK => ?_) | (refine SW.block ?_) | ((first | refine SW.region ?_ | refine SW.regionD (Checked.mixed Tryz.checked) (by kernel_rfl) ?_ | refine SW.cond ?_ | refine SW.skip ?_ | refine SW.exit ?_ | refine SW.ret ?_ | (refine allF_i fun b hb => ?_; replace hD := And.intro hb hD; clear hb; try simp only [fresh_cons, fresh_nil, and_true, ne_eq, neF] at hD) | simp only [appK, appOsK]); try simp only [go_sem, hD, hi, a1, a2, true_implies]) | (refine And.intro (by omega) ?_) | (refine ifI (fun hc => ?_) (fun hc => ?_) <;> first | (exfalso; omega) | skip) | ((first | apply hK | ((iterate 1 (clear hK K)); apply hK) | ((iterate 2 (clear hK K)); apply hK) | ((iterate 3 (clear hK K)); apply hK) | ((iterate 4 (clear hK K)); apply hK) | ((iterate 5 (clear hK K)); apply hK)); clear hK K)
  refine Stop.mk ?_
  obtain ⟨rb, rfl⟩ : ∃ x, x = b := ⟨_, rfl⟩
  obtain ⟨xb, rfl⟩ : ∃ x, x = b := ⟨_, rfl⟩
  rcases hA with ⟨e1, rfl, rfl⟩ | ⟨e1, gg, rfl, rfl⟩
  · simp only [go_sem, hD, List.nil_append]
    (first | apply hK | ((iterate 1 (clear hK K)); apply hK) | ((iterate 2 (clear hK K)); apply hK) | ((iterate 3 (clear hK K)); apply hK) | ((iterate 4 (clear hK K)); apply hK) | ((iterate 5 (clear hK K)); apply hK)); clear hK K
    repeat' first | (with_reducible refine And.intro (by omega) ?_) | (refine SW.seq_k fun K hK => ?_) | (refine SW.block ?_) | ((first | refine SW.region ?_ | refine SW.regionD (Checked.mixed Tryz.checked) (by kernel_rfl) ?_ | refine SW.cond ?_ | refine SW.skip ?_ | refine SW.exit ?_ | refine SW.ret ?_ | (refine allF_i fun b hb => ?_; replace hD := And.intro hb hD; clear hb; try simp only [fresh_cons, fresh_nil, and_true, ne_eq, neF] at hD) | simp only [appK, appOsK]); try simp only [go_sem, hD]) | (refine And.intro (by omega) ?_) | (refine ifI (fun hc => ?_) (fun hc => ?_) <;> first | (exfalso; omega) | skip) | ((first | apply hK | ((iterate 1 (clear hK K)); apply hK) | ((iterate 2 (clear hK K)); apply hK) | ((iterate 3 (clear hK K)); apply hK) | ((iterate 4 (clear hK K)); apply hK) | ((iterate 5 (clear hK K)); apply hK)); clear hK K)
    refine retQ_le ((St.le_freezeP (i := 4) (b := rb) (off := 0) (n := 3) (k := .svs [Str ⟨#[114]⟩, SL (nm8.take (a % 6).toNat), .sc (.slice none 0 0)]) ?_ ?_ ?_).trans St.le_drop) ?_
    · exact rfl
    · simp [find_cons, hD]
    · exact Nat.le_refl 3
    · simp only [resL_tmp, resL_cellE, resC_ok, resL_nil, tupOf, getN, go_sem, hD]
      exact ⟨_, rfl, .inl ⟨e1, rfl, rfl⟩⟩
  · have hf : fresh [(rb, _), (xb, _)] gg := fresh_of_nodup hnd
    simp only [fresh_cons, fresh_nil, and_true, ne_eq, neF] at hf
    have hD := And.intro hf hD
    simp only [go_sem, hD, List.cons_append, List.nil_append]
    (first | apply hK | ((iterate 1 (clear hK K)); apply hK) | ((iterate 2 (clear hK K)); apply hK) | ((iterate 3 (clear hK K)); apply hK) | ((iterate 4 (clear hK K)); apply hK) | ((iterate 5 (clear hK K)); apply hK)); clear hK K
    repeat' first | (with_reducible refine And.intro (by omega) ?_) | (refine SW.seq_k fun K hK => ?_) | (refine SW.block ?_) | ((first | refine SW.region ?_ | refine SW.regionD (Checked.mixed Tryz.checked) (by kernel_rfl) ?_ | refine SW.cond ?_ | refine SW.skip ?_ | refine SW.exit ?_ | refine SW.ret ?_ | (refine allF_i fun b hb => ?_; replace hD := And.intro hb hD; clear hb; try simp only [fresh_cons, fresh_nil, and_true, ne_eq, neF] at hD) | simp only [appK, appOsK]); try simp only [go_sem, hD]) | (refine And.intro (by omega) ?_) | (refine ifI (fun hc => ?_) (fun hc => ?_) <;> first | (exfalso; omega) | skip) | ((first | apply hK | ((iterate 1 (clear hK K)); apply hK) | ((iterate 2 (clear hK K)); apply hK) | ((iterate 3 (clear hK K)); apply hK) | ((iterate 4 (clear hK K)); apply hK) | ((iterate 5 (clear hK K)); apply hK)); clear hK K)
    refine retQ_le ((St.le_freezeP (i := 4) (b := rb) (off := 0) (n := 3) (k := .svs [Str ⟨#[114]⟩, SL (nm8.take (a % 6).toNat), .os gg 0 t.rows.length 2]) ?_ ?_ ?_).trans (St.le_pick [(gg, .svs (fC rC t.rows))] ?_ ?_)) ?_
    · exact rfl
    · simp [find_cons, hD]
    · exact Nat.le_refl 3
    · simp only [go_sem, hD]
      repeat' (first | exact (fun x hx => (List.not_mem_nil hx).elim) | refine List.forall_mem_cons.2 ⟨?_, ?_⟩ | exact List.mem_cons_self | apply List.mem_cons_of_mem)
    · simp
    · simp only [resL_tmp, resL_cellE, resC_ok, resL_nil, tupOf, getN, go_sem, hD]
      exact ⟨_, rfl, .inr ⟨e1, gg, rfl, rfl⟩⟩

theorem spoiled_big (x : Rc) (q : Bool) (h : 12 < x.rows.length) : PCall Tryz.prog 5 [RC x, SB q] (.tup [TZ, SB false]) := by
  have tr := table_big x 12 h
  cases q with
  | true =>
    refine Call.enter' (N := 25) (rs := [.cell 4 28, .tmp 5]) Tryz.func5 rfl rfl rfl (by decide) rfl ?_; simp only [argT]; have hD : (0 : Nat) = 0 := rfl
    repeat' first | (with_reducible refine And.intro (by omega) ?_) | (refine SW.seq_k fun K hK => ?_) | (refine SW.block ?_) | ((first | refine SW.region ?_ | refine SW.regionD (Checked.mixed Tryz.checked) (by kernel_rfl) ?_ | refine SW.cond ?_ | refine SW.skip ?_ | refine SW.exit ?_ | refine SW.ret ?_ | refine Call.of_pure (tr) ?_ | refine ⟨_, tr, ?_⟩ | (refine allF_i fun b hb => ?_; replace hD := And.intro hb hD; clear hb; try simp only [fresh_cons, fresh_nil, and_true, ne_eq, neF] at hD) | simp only [appK, appOsK]); try simp only [go_sem, hD]) | (refine And.intro (by omega) ?_) | (refine ifI (fun hc => ?_) (fun hc => ?_) <;> first | (exfalso; omega) | skip) | ((first | apply hK | ((iterate 1 (clear hK K)); apply hK) | ((iterate 2 (clear hK K)); apply hK) | ((iterate 3 (clear hK K)); apply hK) | ((iterate 4 (clear hK K)); apply hK) | ((iterate 5 (clear hK K)); apply hK)); clear hK K)
    apply ret_cell (i := 4) (n := 3); exact rfl; (simp only [go_sem, hD]; try rfl); (first | exact Nat.le_refl _ | decide); simp only [resL_tmp, resL_cellE, resC_ok, resL_nil, tupOf, getN, go_sem, hD]
  | false =>
    refine Call.enter' (N := 25) (rs := [.cell 4 28, .tmp 5]) Tryz.func5 rfl rfl rfl (by decide) rfl ?_; simp only [argT]; have hD : (0 : Nat) = 0 := rfl
    repeat' first | (with_reducible refine And.intro (by omega) ?_) | (refine SW.seq_k fun K hK => ?_) | (refine SW.block ?_) | ((first | refine SW.region ?_ | refine SW.regionD (Checked.mixed Tryz.checked) (by kernel_rfl) ?_ | refine SW.cond ?_ | refine SW.skip ?_ | refine SW.exit ?_ | refine SW.ret ?_ | refine Call.of_pure (tr) ?_ | refine ⟨_, tr, ?_⟩ | (refine allF_i fun b hb => ?_; replace hD := And.intro hb hD; clear hb; try simp only [fresh_cons, fresh_nil, and_true, ne_eq, neF] at hD) | simp only [appK, appOsK]); try simp only [go_sem, hD]) | (refine And.intro (by omega) ?_) | (refine ifI (fun hc => ?_) (fun hc => ?_) <;> first | (exfalso; omega) | skip) | ((first | apply hK | ((iterate 1 (clear hK K)); apply hK) | ((iterate 2 (clear hK K)); apply hK) | ((iterate 3 (clear hK K)); apply hK) | ((iterate 4 (clear hK K)); apply hK) | ((iterate 5 (clear hK K)); apply hK)); clear hK K)
    apply ret_cell (i := 4) (n := 3); exact rfl; (simp only [go_sem, hD]; try rfl); (first | exact Nat.le_refl _ | decide); simp only [resL_tmp, resL_cellE, resC_ok, resL_nil, tupOf, getN, go_sem, hD]
theorem spoiled_ok (x : Rc) (hx : okRc x) (h : x.rows.length ≤ 12) : PCall Tryz.prog 5 [RC x, SB false] (.tup [TB (tabS x), SB true]) := by
  have tr := table_r x hx 12 h (by omega)
  generalize tabS x = t at *
  refine Call.enter' (N := 25) (rs := [.cell 4 28, .tmp 5]) Tryz.func5 rfl rfl rfl (by decide) rfl ?_; simp only [argT]; have hD : (0 : Nat) = 0 := rfl
  repeat' first | (with_reducible refine And.intro (by omega) ?_) | (refine SW.seq_k fun K hK => ?_) | (refine SW.block ?_) | ((first | refine SW.region ?_ | refine SW.regionD (Checked.mixed Tryz.checked) (by kernel_rfl) ?_ | refine SW.cond ?_ | refine SW.skip ?_ | refine SW.exit ?_ | refine SW.ret ?_ | refine Call.of_pure (tr) ?_ | refine ⟨_, tr, ?_⟩ | (refine allF_i fun b hb => ?_; replace hD := And.intro hb hD; clear hb; try simp only [fresh_cons, fresh_nil, and_true, ne_eq, neF] at hD) | simp only [appK, appOsK]); try simp only [go_sem, hD]) | (refine And.intro (by omega) ?_) | (refine ifI (fun hc => ?_) (fun hc => ?_) <;> first | (exfalso; omega) | skip) | ((first | apply hK | ((iterate 1 (clear hK K)); apply hK) | ((iterate 2 (clear hK K)); apply hK) | ((iterate 3 (clear hK K)); apply hK) | ((iterate 4 (clear hK K)); apply hK) | ((iterate 5 (clear hK K)); apply hK)); clear hK K)
  apply ret_cell (i := 4) (n := 3); exact rfl; (simp only [go_sem, hD]; try rfl); (first | exact Nat.le_refl _ | decide); simp only [resL_tmp, resL_cellE, resC_ok, resL_nil, tupOf, getN, go_sem, hD]
set_option maxHeartbeats 1000000 in
set_option maxRecDepth 20000 in
theorem spoiled_bad (x : Rc) (hx : okRc x) (h : x.rows.length ≤ 12) : PCall Tryz.prog 5 [RC x, SB true] (.tup [TB (badS (tabS x)), SB true]) := by
  have tr := table_o x hx 12 h (by omega)
  have hl : (tabS x).rows.length = x.rows.length := by simp [tabS, wideS]
  have hts : ∀ t : Tb, TB t = .agg [Str t.name, SL t.attrs, RL t.rows] := fun _ => rfl
  generalize tabS x = t at *
  obtain ⟨nm, ats, L⟩ := t
  unfold badS
  simp only at tr hl ⊢
  have ba : (L.length + 1) * 32 ≤ 140737488355328 := by omega
  have h12 : ((12 : Nat) : Int) = 12 := rfl
  rw [h12] at tr
  refine Call.enter' (N := 25) (rs := [.cell 4 28, .tmp 5]) Tryz.func5 rfl rfl rfl (by decide) rfl ?_; simp only [argT]; have hD : (0 : Nat) = 0 := rfl
  repeat' first | (with_reducible refine Call.mono (Call.frameN (h1 := []) tr) ?_; intro r h' hx; obtain ⟨h1', rfl, ⟨y, rfl, hA⟩, hnd⟩ := hx; refine stop_i ?_) | (with_reducible refine And.intro (by omega) ?_) | (refine SW.seq_k fun K hK => ?_) | (refine SW.block ?_) | ((first | refine SW.region ?_ | refine SW.regionD (Checked.mixed Tryz.checked) (by kernel_rfl) ?_ | refine SW.cond ?_ | refine SW.skip ?_ | refine SW.exit ?_ | refine SW.ret ?_ | (refine allF_i fun b hb => ?_; replace hD := And.intro hb hD; clear hb; try simp only [fresh_cons, fresh_nil, and_true, ne_eq, neF] at hD) | simp only [appK, appOsK]); try simp only [go_sem, hD, true_implies]) | (refine And.intro (by omega) ?_) | (refine ifI (fun hc => ?_) (fun hc => ?_) <;> first | (exfalso; omega) | skip) | ((first | apply hK | ((iterate 1 (clear hK K)); apply hK) | ((iterate 2 (clear hK K)); apply hK) | ((iterate 3 (clear hK K)); apply hK) | ((iterate 4 (clear hK K)); apply hK) | ((iterate 5 (clear hK K)); apply hK)); clear hK K)
  refine Stop.mk ?_
  obtain ⟨rb, rfl⟩ : ∃ x, x = b := ⟨_, rfl⟩
  obtain ⟨xb, rfl⟩ : ∃ x, x = b := ⟨_, rfl⟩
  rcases hA with ⟨e1, rfl, rfl⟩ | ⟨e1, gg, rfl, rfl⟩
  · subst e1
    simp only [go_sem, hD, List.nil_append]
    repeat' first | (with_reducible refine And.intro (by omega) ?_) | (refine SW.seq_k fun K hK => ?_) | (refine SW.block ?_) | ((first | refine SW.region ?_ | refine SW.regionD (Checked.mixed Tryz.checked) (by kernel_rfl) ?_ | refine SW.cond ?_ | refine SW.skip ?_ | refine SW.exit ?_ | refine SW.ret ?_ | (refine allF_i fun b hb => ?_; replace hD := And.intro hb hD; clear hb; try simp only [fresh_cons, fresh_nil, and_true, ne_eq, neF] at hD) | simp only [appK, appOsK]); try simp only [go_sem, hD, true_implies, ba]) | (refine And.intro (by omega) ?_) | (refine ifI (fun hc => ?_) (fun hc => ?_) <;> first | (exfalso; omega) | skip) | ((first | apply hK | ((iterate 1 (clear hK K)); apply hK) | ((iterate 2 (clear hK K)); apply hK) | ((iterate 3 (clear hK K)); apply hK) | ((iterate 4 (clear hK K)); apply hK) | ((iterate 5 (clear hK K)); apply hK)); clear hK K)
    have hbr : ¬ b = rb := by simp [hD]
    have hrb : ¬ rb = b := by simp [hD]
    have st2 : ∀ t, (St.mk t [(b, .svs [I64 0, .sc (.slice none 0 0)]), (rb, .svs [Str nm, SL ats, .os b 0 1 2])]).le ⟨t, [(b, .svs (fC rC [(0, [])])), (rb, .svs [Str nm, SL ats, .os b 0 1 2])]⟩ := fun t => by
      have := St.le_nilC (t := t) (h := [(b, .svs [I64 0, .sc (.slice none 0 0)]), (rb, .svs [Str nm, SL ats, .os b 0 1 2])]) (c := b) (j := 1) (sz := 3) (f := vF []) (by rw [find_cons, if_pos rfl]) (by show 1 < 2; omega) rfl
      rw [upd_cons, if_pos rfl] at this
      exact this
    have st3 : ∀ t, (St.mk t [(b, .svs (fC rC [(0, [])])), (rb, .svs [Str nm, SL ats, .os b 0 1 2])]).le ⟨t, [(rb, .svs [Str nm, SL ats, RL [(0, [])]])]⟩ := fun t => by
      have := St.le_accC (t := t) (sz := 2) (n := 1) (c := rb) (j := 2) (Acc.osH (b := b) (cs := fC rC [(0, [])]) (h0 := [(rb, .svs [Str nm, SL ats, .os b 0 1 2])]) (by simp [fresh_cons, fresh_nil, hbr, hrb]) rfl) (by rw [find_cons, if_pos rfl]) (by show 2 < 3; omega) rfl (rF [(0, [])]) (fun j hj => fC_at (enc := rC) (k := 2) (fun _ => rfl) r0 [(0, [])] j hj)
      rw [upd_cons, if_pos rfl] at this
      exact this
    refine retQ_le ((St.le_pick [(b, .svs [I64 0, .sc (.slice none 0 0)]), (rb, .svs [Str nm, SL ats, .os b 0 1 2])] ?_ ?_).trans ((st2 _).trans ((st3 _).trans ((St.le_freezeP (i := 4) (b := rb) (off := 0) (n := 3) (k := .svs [Str nm, SL ats, RL [(0, [])]]) ?_ ?_ ?_).trans St.le_drop)))) ?_
    · repeat' (first | exact (fun x hx => (List.not_mem_nil hx).elim) | refine List.forall_mem_cons.2 ⟨?_, ?_⟩ | exact List.mem_cons_self | apply List.mem_cons_of_mem)
    · simp [hbr]
    · exact rfl
    · rw [find_cons, if_pos rfl]
    · exact Nat.le_refl 3
    · simp only [resL_tmp, resL_cellE, resC_ok, resL_nil, tupOf, getN, go_sem, hD]
  · have hf : fresh [(rb, _), (xb, _)] gg := fresh_of_nodup hnd
    simp only [fresh_cons, fresh_nil, and_true, ne_eq, neF] at hf
    have hD := And.intro hf hD
    have hfc : (fC rC L).length = L.length * 2 := by rw [← fC_len (k := 2) (fun _ => rfl)]
    simp only [go_sem, hD, List.cons_append, List.nil_append]
    repeat' first | (with_reducible refine And.intro (by omega) ?_) | (refine SW.seq_k fun K hK => ?_) | (refine SW.block ?_) | ((first | refine SW.region ?_ | refine SW.regionD (Checked.mixed Tryz.checked) (by kernel_rfl) ?_ | refine SW.cond ?_ | refine SW.skip ?_ | refine SW.exit ?_ | refine SW.ret ?_ | (refine allF_i fun b hb => ?_; replace hD := And.intro hb hD; clear hb; try simp only [fresh_cons, fresh_nil, and_true, ne_eq, neF] at hD) | simp only [appK, appOsK]); try simp only [go_sem, hD, ba, hfc]) | (refine And.intro (by omega) ?_) | (refine ifI (fun hc => ?_) (fun hc => ?_) <;> first | (exfalso; omega) | skip) | ((first | apply hK | ((iterate 1 (clear hK K)); apply hK) | ((iterate 2 (clear hK K)); apply hK) | ((iterate 3 (clear hK K)); apply hK) | ((iterate 4 (clear hK K)); apply hK) | ((iterate 5 (clear hK K)); apply hK)); clear hK K)
    have hbr : ¬ b = rb := by simp [hD]
    have hrb : ¬ rb = b := by simp [hD]
    have st2 : ∀ t, (St.mk t [(b, .svs (fC rC L ++ [I64 0, .sc (.slice none 0 0)])), (rb, .svs [Str nm, SL ats, .os b 0 (L.length + 1) 2])]).le ⟨t, [(b, .svs (fC rC (L ++ [(0, [])]))), (rb, .svs [Str nm, SL ats, .os b 0 (L.length + 1) 2])]⟩ := fun t => by
      have := St.le_nilC (t := t) (h := [(b, .svs (fC rC L ++ [I64 0, .sc (.slice none 0 0)])), (rb, .svs [Str nm, SL ats, .os b 0 (L.length + 1) 2])]) (c := b) (j := L.length * 2 + 1) (sz := 3) (f := vF []) (by rw [find_cons, if_pos rfl]) (by rw [List.length_append, hfc]; show L.length * 2 + 1 < L.length * 2 + 2; omega) (by rw [List.getD_eq_getElem?_getD, List.getElem?_append_right (by omega), hfc, Nat.add_sub_cancel_left]; rfl)
      rw [upd_cons, if_pos rfl, List.set_append_right _ _ (by omega), hfc, Nat.add_sub_cancel_left] at this
      rw [← fC_snoc]
      exact this
    have hfc2 : (L.length + 1) * 2 = (fC rC (L ++ [(0, [])])).length := by rw [← fC_len (enc := rC) (k := 2) (fun _ => rfl), List.length_append]; rfl
    have st3 : ∀ t, (St.mk t [(b, .svs (fC rC (L ++ [(0, [])]))), (rb, .svs [Str nm, SL ats, .os b 0 (L.length + 1) 2])]).le ⟨t, [(rb, .svs [Str nm, SL ats, RL (L ++ [(0, [])])])]⟩ := fun t => by
      have := St.le_accC (t := t) (sz := 2) (n := L.length + 1) (c := rb) (j := 2) (Acc.osH (b := b) (cs := fC rC (L ++ [(0, [])])) (h0 := [(rb, .svs [Str nm, SL ats, .os b 0 (L.length + 1) 2])]) (by simp [fresh_cons, fresh_nil, hbr, hrb]) hfc2) (by rw [find_cons, if_pos rfl]) (by show 2 < 3; omega) rfl (rF (L ++ [(0, [])])) (fun j hj => fC_at (enc := rC) (k := 2) (fun _ => rfl) r0 (L ++ [(0, [])]) j (by rw [List.length_append]; exact hj))
      rw [upd_cons, if_pos rfl] at this
      unfold RL
      rw [List.length_append]
      exact this
    refine retQ_le ((St.le_pick [(b, .svs (fC rC L ++ [I64 0, .sc (.slice none 0 0)])), (rb, .svs [Str nm, SL ats, .os b 0 (L.length + 1) 2])] ?_ ?_).trans ((st2 _).trans ((st3 _).trans ((St.le_freezeP (i := 4) (b := rb) (off := 0) (n := 3) (k := .svs [Str nm, SL ats, RL (L ++ [(0, [])])]) ?_ ?_ ?_).trans St.le_drop)))) ?_
    · repeat' (first | exact (fun x hx => (List.not_mem_nil hx).elim) | refine List.forall_mem_cons.2 ⟨?_, ?_⟩ | exact List.mem_cons_self | apply List.mem_cons_of_mem)
    · simp [hbr]
    · exact rfl
    · rw [find_cons, if_pos rfl]
    · exact Nat.le_refl 3
    · simp only [resL_tmp, resL_cellE, resC_ok, resL_nil, tupOf, getN, go_sem, hD]
end Go.Proofs.YtddkacbcecedaaaGreatDoor
