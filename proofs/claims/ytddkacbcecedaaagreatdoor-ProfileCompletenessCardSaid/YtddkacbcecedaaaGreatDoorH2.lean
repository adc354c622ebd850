/- Contracts: a column in order. -/
import Derived.Test.YtddkacbcecedaaaGreatDoorH1
set_option linter.unusedSimpArgs false
set_option linter.unusedVariables false
set_option linter.unusedSectionVars false
namespace Go.Ab.A34
open Go Go.Ab Go.Proofs
def colS (t : Tb) (a : Nat) : List V3 := sortV (t.rows.map fun r => r.2.getD a v0)
end Go.Ab.A34
namespace Go.Proofs.YtddkacbcecedaaaGreatDoor
open Go Go.Ab Go.Ab.A34
variable [Gl] [Tabs]

set_option maxHeartbeats 2000000 in
set_option maxRecDepth 20000 in
theorem column_p (t : Tb) (a : Nat) (hl : t.rows.length ≤ 1000000) (ha : ∀ r ∈ t.rows, a < r.2.length) : PCall Tryz.prog 36 [TB t, I64 a] (VL (colS t a)) := by
  unfold colS
  obtain ⟨nm, as', l⟩ := t
  simp only at hl ha ⊢
  refine Call.enter' (N := 27) (rs := [.tmp 4]) Tryz.func36 rfl rfl rfl (by decide) rfl ?_; simp only [argT]; have hD : (0 : Nat) = 0 := rfl
  repeat' first | (with_reducible refine And.intro (by omega) ?_) | (refine SW.seq_k fun K hK => ?_) | (refine SW.block ?_) | ((first | refine SW.region ?_ | refine SW.regionD (Checked.mixed Tryz.checked) (by kernel_rfl) ?_ | refine SW.cond ?_ | refine SW.skip ?_ | refine SW.exit ?_ | refine SW.ret ?_ | (refine allF_i fun b hb => ?_; replace hD := And.intro hb hD; clear hb; try simp only [fresh_cons, fresh_nil, and_true, ne_eq, neF] at hD) | simp only [appK, appOsK]); try simp only [go_sem, hD]) | (refine And.intro (by omega) ?_) | (refine ifI (fun hc => ?_) (fun hc => ?_) <;> first | (exfalso; omega) | skip) | ((first | apply hK | ((iterate 1 (clear hK K)); apply hK) | ((iterate 2 (clear hK K)); apply hK) | ((iterate 3 (clear hK K)); apply hK) | ((iterate 4 (clear hK K)); apply hK) | ((iterate 5 (clear hK K)); apply hK)); clear hK K)
  obtain ⟨I, hI⟩ : ∃ I : Nat → St → Prop, ∀ k S, I k S ↔ (∃ (i : Nat) (x : SV) (h : Heap), k = l.length - i ∧ i ≤ l.length ∧ Acc 3 x h [] i (vCs ((l.take i).map fun r => r.2.getD a v0)) ∧ S = ⟨[(1, I64 a), (5, x), (9, RL l), (10, I64 l.length), (11, I64 i)], h⟩) := ⟨fun k S => _, fun _ _ => Iff.rfl⟩
  refine Ab.SW.le St.le_drop ?_
  refine SW.loop' I l.length ((hI _ _).2 ⟨0, _, _, rfl, Nat.zero_le _, .nil _ _, rfl⟩) (by repeat' (first | exact rfl | exact trivial | exact int_eq (by omega) | exact int_eq (by (rw [i64_wrap] <;> omega)) | constructor)) ?_
  intro k S hIn
  obtain ⟨i, x, h, rfl, hi, hB, rfl⟩ := (hI _ _).1 hIn
  clear hIn
  have ie : ((i : Nat) : Int).toNat = i := Int.toNat_natCast _
  have i0 : (0 : Int) ≤ ((i : Nat) : Int) := by omega
  by_cases hlt : i < l.length
  · have hli : ((i : Nat) : Int) < ((l.length : Nat) : Int) := by omega
    have w1 : IntKind.i64.wrap ((i : Int) + 1) = ((i + 1 : Nat) : Int) := by rw [i64_wrap (by omega) (by omega)]; omega
    have hg : l.getD i r0 = l[i] := by simp [List.getD_eq_getElem?_getD, hlt]
    have har := ha _ (List.getElem_mem hlt)
    rw [← hg] at har
    have hmp : ((l.take (i + 1)).map fun r => r.2.getD a v0) = ((l.take i).map fun r => r.2.getD a v0) ++ [(l.getD i r0).2.getD a v0] := by
      rw [List.take_add_one, List.getElem?_eq_getElem hlt, List.map_append, hg]
      rfl
    have hln : ((l.take i).map fun r => r.2.getD a v0).length = i := by rw [List.length_map, List.length_take]; omega
    obtain ⟨id, vs, hr⟩ : ∃ id vs, l.getD i r0 = (id, vs) := ⟨_, _, rfl⟩
    have tf : rF l i = [I64 id, VL vs] := by unfold rF; rw [hr]; rfl
    rw [hr] at har hmp
    simp only at har hmp
    obtain ⟨vk, vn, vt, hv⟩ : ∃ k n t, vs.getD a v0 = (k, n, t) := ⟨_, _, _, rfl⟩
    have tv : vF vs a = [I64 vk, I64 vn, Str vt] := by unfold vF; rw [hv]
    rw [hv] at hmp
    have a0 : (0 : Int) ≤ ((a : Nat) : Int) := by omega
    have al : ((a : Nat) : Int) < ((vs.length : Nat) : Int) := by omega
    have ae : ((a : Nat) : Int).toNat = a := Int.toNat_natCast _
    have ba : (i + 1) * 32 ≤ 140737488355328 := by omega
    have bb : (i + 1) * 40 ≤ 140737488355328 := by omega
    rcases hB.cases with ⟨e0, e1, rfl, rfl⟩ | ⟨b, e0, rfl, hle⟩
    · repeat' first | (with_reducible refine And.intro (by omega) ?_) | (refine SW.seq_k fun K hK => ?_) | (refine SW.block ?_) | ((first | refine SW.region ?_ | refine SW.regionD (Checked.mixed Tryz.checked) (by kernel_rfl) ?_ | refine SW.cond ?_ | refine SW.skip ?_ | refine SW.exit ?_ | refine SW.ret ?_ | (refine allF_i fun b hb => ?_; replace hD := And.intro hb hD; clear hb; try simp only [fresh_cons, fresh_nil, and_true, ne_eq, neF] at hD) | simp only [appK, appOsK]); try simp only [go_sem, hD, hli, ie, i0, w1, tf, tv, a0, al, ae, ba, bb, true_implies]) | (refine And.intro (by omega) ?_) | (refine ifI (fun hc => ?_) (fun hc => ?_) <;> first | (exfalso; omega) | skip) | ((first | apply hK | ((iterate 1 (clear hK K)); apply hK) | ((iterate 2 (clear hK K)); apply hK) | ((iterate 3 (clear hK K)); apply hK) | ((iterate 4 (clear hK K)); apply hK) | ((iterate 5 (clear hK K)); apply hK)); clear hK K)
      refine Rnd.le (St.le_only (b := b) (k := .svs (vC (vk, vn, vt))) (by repeat (first | exact List.mem_cons_self | apply List.mem_cons_of_mem))) ?_
      refine Rnd.sub (l.length - (i + 1)) (by omega) ((hI _ _).2 ⟨i + 1, _, _, rfl, by omega, by rw [hmp, ← vCs_snoc, e1, e0]; exact Acc.os1 rfl, rfl⟩) (by repeat' (first | exact rfl | exact trivial | exact int_eq (by omega) | exact int_eq (by (rw [i64_wrap] <;> omega)) | constructor))
    · refine Ab.SW.le (hle _) ?_
      repeat' first | (with_reducible refine And.intro (by omega) ?_) | (refine SW.seq_k fun K hK => ?_) | (refine SW.block ?_) | ((first | refine SW.region ?_ | refine SW.regionD (Checked.mixed Tryz.checked) (by kernel_rfl) ?_ | refine SW.cond ?_ | refine SW.skip ?_ | refine SW.exit ?_ | refine SW.ret ?_ | (refine allF_i fun b hb => ?_; replace hD := And.intro hb hD; clear hb; try simp only [fresh_cons, fresh_nil, and_true, ne_eq, neF] at hD) | simp only [appK, appOsK]); try simp only [go_sem, hD, hli, ie, i0, w1, tf, tv, a0, al, ae, ba, bb, true_implies]) | (refine And.intro (by omega) ?_) | (refine ifI (fun hc => ?_) (fun hc => ?_) <;> first | (exfalso; omega) | skip) | ((first | apply hK | ((iterate 1 (clear hK K)); apply hK) | ((iterate 2 (clear hK K)); apply hK) | ((iterate 3 (clear hK K)); apply hK) | ((iterate 4 (clear hK K)); apply hK) | ((iterate 5 (clear hK K)); apply hK)); clear hK K)
      refine Rnd.le (St.le_only (b := b) (k := .svs (vCs ((l.take i).map fun r => r.2.getD a v0) ++ vC (vk, vn, vt))) (by repeat (first | exact List.mem_cons_self | apply List.mem_cons_of_mem))) ?_
      refine Rnd.sub (l.length - (i + 1)) (by omega) ((hI _ _).2 ⟨i + 1, _, _, rfl, by omega, by rw [hmp, ← vCs_snoc]; exact Acc.os1 (by rw [List.length_append, ← e0]; show (i + 1) * 3 = i * 3 + 3; omega), rfl⟩) (by repeat' (first | exact rfl | exact trivial | exact int_eq (by omega) | exact int_eq (by (rw [i64_wrap] <;> omega)) | constructor))
  · have hli : ¬ ((i : Nat) : Int) < ((l.length : Nat) : Int) := by omega
    obtain rfl : i = l.length := by omega
    rw [List.take_length] at hB
    have hsl := sortV_len (l.map fun r => r.2.getD a v0)
    rw [List.length_map] at hsl
    rcases hB.cases with ⟨e0, e1, rfl, rfl⟩ | ⟨b, e0, rfl, hle⟩
    · have hnil : l = [] := List.eq_nil_of_length_eq_zero e0
      subst hnil
      have sn := sort_n
      repeat' first | (with_reducible refine And.intro (by omega) ?_) | (refine SW.seq_k fun K hK => ?_) | (refine SW.block ?_) | ((first | refine SW.region ?_ | refine SW.regionD (Checked.mixed Tryz.checked) (by kernel_rfl) ?_ | refine SW.cond ?_ | refine SW.skip ?_ | refine SW.exit ?_ | refine SW.ret ?_ | refine Call.of_pure (sn) ?_ | refine ⟨_, sn, ?_⟩ | (refine allF_i fun b hb => ?_; replace hD := And.intro hb hD; clear hb; try simp only [fresh_cons, fresh_nil, and_true, ne_eq, neF] at hD) | simp only [appK, appOsK]); try simp only [go_sem, hD, hli, true_implies]) | (refine And.intro (by omega) ?_) | (refine ifI (fun hc => ?_) (fun hc => ?_) <;> first | (exfalso; omega) | skip) | ((first | apply hK | ((iterate 1 (clear hK K)); apply hK) | ((iterate 2 (clear hK K)); apply hK) | ((iterate 3 (clear hK K)); apply hK) | ((iterate 4 (clear hK K)); apply hK) | ((iterate 5 (clear hK K)); apply hK)); clear hK K)
      refine retQ_le (St.le_nil_fl (i := 4) (sz := 3) (f := vF []) rfl) ?_
      simp only [resL_tmp, resL_nil, tupOf, go_sem, hD]
      rw [show sortV [] = [] from List.mergeSort_nil]
      rfl
    · refine Ab.SW.le (hle _) ?_
      have sc := sort_c b (l.map fun r => r.2.getD a v0) (by rw [List.length_map]; omega)
      rw [List.length_map] at sc
      repeat' first | ((with_reducible refine Call.mono sc ?_); intro r h' hx; obtain ⟨rfl, rfl⟩ := hx) | (with_reducible refine And.intro (by omega) ?_) | (refine SW.seq_k fun K hK => ?_) | (refine SW.block ?_) | ((first | refine SW.region ?_ | refine SW.regionD (Checked.mixed Tryz.checked) (by kernel_rfl) ?_ | refine SW.cond ?_ | refine SW.skip ?_ | refine SW.exit ?_ | refine SW.ret ?_ | (refine allF_i fun b hb => ?_; replace hD := And.intro hb hD; clear hb; try simp only [fresh_cons, fresh_nil, and_true, ne_eq, neF] at hD) | simp only [appK, appOsK]); try simp only [go_sem, hD, hli, true_implies]) | (refine And.intro (by omega) ?_) | (refine ifI (fun hc => ?_) (fun hc => ?_) <;> first | (exfalso; omega) | skip) | ((first | apply hK | ((iterate 1 (clear hK K)); apply hK) | ((iterate 2 (clear hK K)); apply hK) | ((iterate 3 (clear hK K)); apply hK) | ((iterate 4 (clear hK K)); apply hK) | ((iterate 5 (clear hK K)); apply hK)); clear hK K)
      generalize sortV (l.map fun r => r.2.getD a v0) = L at *
      have e2 := vCs_len L
      rw [hsl] at e2
      refine retQ_le (St.le_acc_fl (i := 4) (n := l.length) (sz := 3) (x := .os b 0 l.length 3) (h := [(b, .svs (vCs L))]) rfl (Acc.os1 e2) (vF L) (fun j hj => vCs_at L j (by omega))) ?_
      simp only [resL_tmp, resL_nil, tupOf, go_sem, hD]
      unfold VL
      rw [hsl]
end Go.Proofs.YtddkacbcecedaaaGreatDoor
