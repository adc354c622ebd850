/- Contracts: Of, All. -/
import Derived.Test.YtddkacbcecedaaaGreatDoorH6
set_option linter.unusedSimpArgs false
set_option linter.unusedVariables false
set_option linter.unusedSectionVars false
namespace Go.Ab.A34
open Go Go.Ab Go.Proofs
theorem rowsV_ok {n : Nat} : ∀ {l : List R3} {p : Int}, rowsV n p l = 0 → ∀ r ∈ l, r.2.length = n ∧ r.2.all okV = true
  | [], p, _, r, hr => by cases hr
  | x :: l, p, h, r, hr => by
    unfold rowsV at h
    split at h
    · cases h
    · split at h
      · cases h
      · rename_i h2
        split at h
        · rename_i h3
          rcases List.mem_cons.1 hr with rfl | hr
          · exact ⟨by omega, h3⟩
          · exact rowsV_ok h r hr
        · cases h
theorem okV_size {v : V3} (h : okV v = true) : v.2.2.size ≤ 200 := by
  unfold okV vok at h
  have he : ∀ s : ByteArray, emp s = true → s.size ≤ 200 := fun s hs => by
    unfold emp at hs
    rw [barr_eq.1 hs]
    exact Nat.zero_le _
  repeat' split at h
  all_goals first | (cases h; done) | skip
  all_goals (try simp only [Bool.and_eq_true, decide_eq_true_eq] at h)
  · exact he _ h.2
  · exact he _ h
  · exact h.2
  · exact he _ h.2
/-- What a valid table is. -/
theorem valid_rows {t : Tb} (h : validS t = 0) : t.rows.length ≤ 1000 ∧ t.attrs.length ≤ 16 ∧ ∀ r ∈ t.rows, r.2.length = t.attrs.length ∧ ∀ v ∈ r.2, okV v = true := by
  unfold validS at h
  split at h
  · split at h
    · cases h
    · split at h
      · exact ⟨by omega, by omega, fun r hr => ⟨(rowsV_ok h r hr).1, fun v hv => List.all_eq_true.1 (rowsV_ok h r hr).2 v hv⟩⟩
      · cases h
  · cases h
theorem chk_ok {t : Tb} {a : Int} (h : chkS t a = 0) : validS t = 0 ∧ 0 ≤ a ∧ a < t.attrs.length := by
  unfold chkS at h
  split at h
  · rename_i h1
    split at h
    · cases h
    · exact ⟨h1, by omega, by omega⟩
  · rename_i h1
    exact absurd h h1
abbrev CL (l : List Co) : SV := .fl l.length 15 (fun j => coC (l.getD j co0))
/-- The step of the reference says the same. -/
theorem co_len (c : Co) : (coC c).length = 15 := rfl
end Go.Ab.A34
namespace Go.Proofs.YtddkacbcecedaaaGreatDoor
open Go Go.Ab Go.Ab.A34
variable [Gl] [Tabs]





theorem all_p_bad (t : Tb) (h : ¬ validS t = 0) : PCall Tryz.prog 15 [TB t] (.tup [CL [], I64 (validS t)]) := by
  have va := valid_tp t
  generalize validS t = e at *
  refine Call.enter' (N := 26) (rs := [.tmp 2, .tmp 3]) Tryz.func15 rfl rfl rfl (by decide) rfl ?_; simp only [argT]; have hD : (0 : Nat) = 0 := rfl
  repeat' first | (with_reducible refine And.intro (by omega) ?_) | (refine SW.seq_k fun K hK => ?_) | (refine SW.block ?_) | ((first | refine SW.region ?_ | refine SW.regionD (Checked.mixed Tryz.checked) (by kernel_rfl) ?_ | refine SW.cond ?_ | refine SW.skip ?_ | refine SW.exit ?_ | refine SW.ret ?_ | refine Call.of_pure (va) ?_ | refine ⟨_, va, ?_⟩ | (refine allF_i fun b hb => ?_; replace hD := And.intro hb hD; clear hb; try simp only [fresh_cons, fresh_nil, and_true, ne_eq, neF] at hD) | simp only [appK, appOsK]); try simp only [go_sem, hD, h]) | (refine And.intro (by omega) ?_) | (refine ifI (fun hc => ?_) (fun hc => ?_) <;> first | (exfalso; omega) | skip) | ((first | apply hK | ((iterate 1 (clear hK K)); apply hK) | ((iterate 2 (clear hK K)); apply hK) | ((iterate 3 (clear hK K)); apply hK) | ((iterate 4 (clear hK K)); apply hK) | ((iterate 5 (clear hK K)); apply hK)); clear hK K)
  refine retQ_le (St.le_nil_fl (i := 2) (sz := 15) (f := fun j => coC (([] : List Co).getD j co0)) rfl) ?_
  simp only [resL_tmp, resL_nil, tupOf, go_sem, hD]
  rfl

set_option maxHeartbeats 2000000 in
set_option maxRecDepth 20000 in
theorem all_p (t : Tb) (h : validS t = 0) : PCall Tryz.prog 15 [TB t] (.tup [CL ((List.range t.attrs.length).map (profS t)), I64 0]) := by
  have va := valid_tp t
  rw [h] at va
  obtain ⟨r1, r2, r3⟩ := valid_rows h
  have pr : ∀ a : Nat, a < t.attrs.length → PCall Tryz.prog 29 [TB t, I64 a] (CO (profS t a)) := fun a ha => profile_p t a (by omega) (fun r hr => by have := r3 r hr; omega)
  obtain ⟨F, hF⟩ : ∃ F, F = profS t := ⟨_, rfl⟩
  rw [← hF]
  rw [← hF] at pr
  clear hF
  obtain ⟨nm, ats, l⟩ := t
  simp only at r1 r2 r3 pr ⊢
  refine Call.enter' (N := 26) (rs := [.tmp 2, .tmp 3]) Tryz.func15 rfl rfl rfl (by decide) rfl ?_; simp only [argT]; have hD : (0 : Nat) = 0 := rfl
  repeat' first | (with_reducible refine And.intro (by omega) ?_) | (refine SW.seq_k fun K hK => ?_) | (refine SW.block ?_) | ((first | refine SW.region ?_ | refine SW.regionD (Checked.mixed Tryz.checked) (by kernel_rfl) ?_ | refine SW.cond ?_ | refine SW.skip ?_ | refine SW.exit ?_ | refine SW.ret ?_ | refine Call.of_pure (va) ?_ | refine ⟨_, va, ?_⟩ | (refine allF_i fun b hb => ?_; replace hD := And.intro hb hD; clear hb; try simp only [fresh_cons, fresh_nil, and_true, ne_eq, neF] at hD) | simp only [appK, appOsK]); try simp only [go_sem, hD]) | (refine And.intro (by omega) ?_) | (refine ifI (fun hc => ?_) (fun hc => ?_) <;> first | (exfalso; omega) | skip) | ((first | apply hK | ((iterate 1 (clear hK K)); apply hK) | ((iterate 2 (clear hK K)); apply hK) | ((iterate 3 (clear hK K)); apply hK) | ((iterate 4 (clear hK K)); apply hK) | ((iterate 5 (clear hK K)); apply hK)); clear hK K)
  obtain ⟨tb, rfl⟩ : ∃ x, x = b := ⟨_, rfl⟩
  obtain ⟨I, hI⟩ : ∃ I : Nat → St → Prop, ∀ k S, I k S ↔ (∃ (i : Nat) (x : SV) (h : Heap), k = ats.length - i ∧ i ≤ ats.length ∧ Acc 15 x h [(tb, .svs [Str nm, SL ats, RL l])] i (fC coC ((List.range i).map F)) ∧ S = ⟨[(1, .op tb 0), (5, x), (14, I64 ats.length), (15, I64 i)], h⟩) := ⟨fun k S => _, fun _ _ => Iff.rfl⟩
  refine SW.loop' I (ats.length) ((hI _ _).2 ⟨0, _, _, rfl, Nat.zero_le _, .nil _ _, rfl⟩) (by repeat' (first | exact rfl | exact trivial | exact int_eq (by omega) | exact int_eq (by (rw [i64_wrap] <;> omega)) | constructor)) ?_
  intro k S hIn
  obtain ⟨i, x, h, rfl, hi, hB, rfl⟩ := (hI _ _).1 hIn
  clear hIn
  have ie : ((i : Nat) : Int).toNat = i := Int.toNat_natCast _
  have i0 : (0 : Int) ≤ ((i : Nat) : Int) := by omega
  have hsl : ((List.range i).map F).length = i := by simp
  by_cases hlt : i < ats.length
  · have hli : ((i : Nat) : Int) < (((ats.length) : Nat) : Int) := by omega
    have w1 : IntKind.i64.wrap ((i : Int) + 1) = ((i + 1 : Nat) : Int) := by rw [i64_wrap (by omega) (by omega)]; omega
    have hmp : (List.range (i + 1)).map F = (List.range i).map F ++ [F i] := by rw [List.range_succ, List.map_append]; rfl
    have pi := pr i hlt
    have hcx : coC (F i) = coC (F i) := rfl
    generalize F i = c at *
    have ba : (i + 1) * 160 ≤ 140737488355328 := by omega
    rcases hB.casesH with ⟨e0, e1, rfl, rfl⟩ | ⟨g, hgf, e0, rfl, hle⟩
    · repeat' first | (with_reducible refine And.intro (by omega) ?_) | (refine SW.seq_k fun K hK => ?_) | (refine SW.block ?_) | ((first | refine SW.region ?_ | refine SW.regionD (Checked.mixed Tryz.checked) (by kernel_rfl) ?_ | refine SW.cond ?_ | refine SW.skip ?_ | refine SW.exit ?_ | refine SW.ret ?_ | refine Call.of_pure (pi) ?_ | refine ⟨_, pi, ?_⟩ | (refine allF_i fun b hb => ?_; replace hD := And.intro hb hD; clear hb; try simp only [fresh_cons, fresh_nil, and_true, ne_eq, neF] at hD) | simp only [appK, appOsK]); try simp only [go_sem, hD, hli, ie, i0, w1, ba, true_implies]) | (refine And.intro (by omega) ?_) | (refine ifI (fun hc => ?_) (fun hc => ?_) <;> first | (exfalso; omega) | skip) | ((first | apply hK | ((iterate 1 (clear hK K)); apply hK) | ((iterate 2 (clear hK K)); apply hK) | ((iterate 3 (clear hK K)); apply hK) | ((iterate 4 (clear hK K)); apply hK) | ((iterate 5 (clear hK K)); apply hK)); clear hK K)
      subst e0
      refine Rnd.le (St.le_pick _ ?_ ?_) (Rnd.sub (ats.length - (0 + 1)) (by omega) ((hI _ _).2 ⟨0 + 1, _, [(b, .svs (coC c)), (tb, .svs [Str nm, SL ats, RL l])], rfl, by omega, (by rw [hmp, ← fC_snoc, e1]; exact Acc.osH (by simp [fresh_cons, fresh_nil, hD]) rfl), rfl⟩) (by repeat' (first | exact rfl | exact trivial | exact int_eq (by omega) | exact int_eq (by (rw [i64_wrap] <;> omega)) | constructor)))
      · repeat' (first | exact (fun x hx => (List.not_mem_nil hx).elim) | refine List.forall_mem_cons.2 ⟨?_, ?_⟩ | exact List.mem_cons_self | apply List.mem_cons_of_mem)
      · simp [fresh_cons, fresh_nil, hD]
    · refine Ab.SW.le (hle _) ?_
      have hgt : ¬ g = tb := fun e => hgf.1.1 e.symm
      repeat' first | (with_reducible refine And.intro (by omega) ?_) | (refine SW.seq_k fun K hK => ?_) | (refine SW.block ?_) | ((first | refine SW.region ?_ | refine SW.regionD (Checked.mixed Tryz.checked) (by kernel_rfl) ?_ | refine SW.cond ?_ | refine SW.skip ?_ | refine SW.exit ?_ | refine SW.ret ?_ | refine Call.of_pure (pi) ?_ | refine ⟨_, pi, ?_⟩ | (refine allF_i fun b hb => ?_; replace hD := And.intro hb hD; clear hb; try simp only [fresh_cons, fresh_nil, and_true, ne_eq, neF] at hD) | simp only [appK, appOsK]); try simp only [go_sem, hD, hli, ie, i0, w1, ba, true_implies, hgt, e0]) | (refine And.intro (by omega) ?_) | (refine ifI (fun hc => ?_) (fun hc => ?_) <;> first | (exfalso; omega) | skip) | ((first | apply hK | ((iterate 1 (clear hK K)); apply hK) | ((iterate 2 (clear hK K)); apply hK) | ((iterate 3 (clear hK K)); apply hK) | ((iterate 4 (clear hK K)); apply hK) | ((iterate 5 (clear hK K)); apply hK)); clear hK K)
      refine Rnd.le (St.le_pick _ ?_ ?_) (Rnd.sub (ats.length - (i + 1)) (by omega) ((hI _ _).2 ⟨i + 1, _, [(b, .svs (fC coC ((List.range i).map F) ++ coC c)), (tb, .svs [Str nm, SL ats, RL l])], rfl, by omega, (by rw [hmp, ← fC_snoc]; exact Acc.osH (by simp [fresh_cons, fresh_nil, hD]) (by rw [List.length_append, ← e0, co_len]; omega)), rfl⟩) (by repeat' (first | exact rfl | exact trivial | exact int_eq (by omega) | exact int_eq (by (rw [i64_wrap] <;> omega)) | constructor)))
      · repeat' (first | exact (fun x hx => (List.not_mem_nil hx).elim) | refine List.forall_mem_cons.2 ⟨?_, ?_⟩ | exact List.mem_cons_self | apply List.mem_cons_of_mem)
      · simp [fresh_cons, fresh_nil, hD]
  · have hli : ¬ ((i : Nat) : Int) < (((ats.length) : Nat) : Int) := by omega
    obtain rfl : i = ats.length := by omega
    repeat' first | (with_reducible refine And.intro (by omega) ?_) | (refine SW.seq_k fun K hK => ?_) | (refine SW.block ?_) | ((first | refine SW.region ?_ | refine SW.regionD (Checked.mixed Tryz.checked) (by kernel_rfl) ?_ | refine SW.cond ?_ | refine SW.skip ?_ | refine SW.exit ?_ | refine SW.ret ?_ | (refine allF_i fun b hb => ?_; replace hD := And.intro hb hD; clear hb; try simp only [fresh_cons, fresh_nil, and_true, ne_eq, neF] at hD) | simp only [appK, appOsK]); try simp only [go_sem, hD, hli]) | (refine And.intro (by omega) ?_) | (refine ifI (fun hc => ?_) (fun hc => ?_) <;> first | (exfalso; omega) | skip) | ((first | apply hK | ((iterate 1 (clear hK K)); apply hK) | ((iterate 2 (clear hK K)); apply hK) | ((iterate 3 (clear hK K)); apply hK) | ((iterate 4 (clear hK K)); apply hK) | ((iterate 5 (clear hK K)); apply hK)); clear hK K)
    refine retQ_le ((St.le_acc_fl (i := 2) (n := ats.length) (sz := 15) (x := x) ?_ hB (fun j => coC (((List.range ats.length).map F).getD j co0)) (fun j hj => fC_at co_len co0 _ j (by omega))).trans St.le_drop) ?_
    · exact rfl
    · simp only [resL_tmp, resL_nil, tupOf, go_sem, hD]
      unfold CL
      rw [hsl]
end Go.Proofs.YtddkacbcecedaaaGreatDoor
