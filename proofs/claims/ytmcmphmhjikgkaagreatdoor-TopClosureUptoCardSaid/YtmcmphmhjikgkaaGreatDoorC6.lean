/- Copies of tableaux. -/
import Derived.Test.YtmcmphmhjikgkaaGreatDoorC5
set_option linter.unusedSimpArgs false
set_option linter.unusedVariables false
set_option linter.unusedSectionVars false
namespace Go.Ab.A20
open Go Go.Ab
/-- The cells of a row. -/
def rowL (n s : Nat) : List SV := (List.range n).map fun j => I64 (gR n s j : Nat)
theorem rowL_len (n s : Nat) : (rowL n s).length = n := by unfold rowL; simp
theorem rowL_fl (n s : Nat) : flCells (gF n s) n = rowL n s := by
  unfold flCells rowL gF
  induction (List.range n) with
  | nil => rfl
  | cons a r ih => rw [List.flatMap_cons, ih]; rfl
theorem rowL_at {n s j : Nat} (h : j < n) : (rowL n s).getD j .any = I64 (gR n s j : Nat) := by
  unfold rowL
  simp [List.getD_eq_getElem?_getD, h]
theorem rowL_get {n s j : Nat} (h : j < n) : gF n s j = ((rowL n s).drop j).take 1 := by
  have hl : j < (rowL n s).length := by rw [rowL_len]; exact h
  rw [List.drop_eq_getElem_cons hl, List.take_succ_cons, List.take_zero]
  have : (rowL n s)[j] = I64 (gR n s j : Nat) := by simp [rowL]
  rw [this]
  rfl
theorem rC_len (n s : Nat) : (rC n s).length = 1 := rfl
end Go.Ab.A20
namespace Go.Proofs.YtmcmphmhjikgkaaGreatDoor
open Go Go.Ab Go.Ab.A20
variable [Gl] [Bru]

set_option maxHeartbeats 1000000 in
set_option maxRecDepth 20000 in
theorem clone_r (n s : Nat) (hn : n ≤ 6) : PCall Tryz.prog 44 [NR n s] (NR n s) := by
  refine Call.enter' (N := 8) (rs := [.tmp 2]) Tryz.func44 rfl rfl rfl (by decide) rfl ?_; simp only [argT]; have hD : (0 : Nat) = 0 := rfl
  refine SW.seq_k fun K0 hK0 => ?_
  refine SW.region ?_
  simp only [go_sem, hD]
  refine hK0 _ ?_
  clear hK0 K0
  refine SW.seq_k fun K hK => ?_
  refine SW.seq_k fun K2 hK2 => ?_
  refine SW.region_nil (i := 0) (j := 3) (k := 4) rfl rfl rfl rfl rfl rfl Tryz.underlying45 rfl (by decide) (by decide) (fun hn => ?_) ?_
  · refine hK2 _ ?_
    clear hK2 K2
    subst hn
    repeat' first | (with_reducible refine And.intro (by omega) ?_) | (refine SW.seq_k fun K hK => ?_) | (refine SW.block ?_) | ((first | refine SW.region ?_ | refine SW.regionD (Checked.mixed Tryz.checked) (by kernel_rfl) ?_ | refine SW.cond ?_ | refine SW.skip ?_ | refine SW.exit ?_ | refine SW.ret ?_ | (refine allF_i fun b hb => ?_; replace hD := And.intro hb hD; clear hb; try simp only [fresh_cons, fresh_nil, and_true, ne_eq, neF] at hD) | simp only [appK, appOsK]); try simp only [go_sem, hD]) | (refine And.intro (by omega) ?_) | (refine ifI (fun hc => ?_) (fun hc => ?_) <;> first | (exfalso; omega) | skip) | ((first | apply hK | ((iterate 1 (clear hK K)); apply hK) | ((iterate 2 (clear hK K)); apply hK) | ((iterate 3 (clear hK K)); apply hK) | ((iterate 4 (clear hK K)); apply hK) | ((iterate 5 (clear hK K)); apply hK)); clear hK K)
    refine retQ_le (St.le_nil_fl (i := 2) (sz := 1) (f := gF 0 s) rfl) ?_
    simp only [resL_tmp, resL_nil, tupOf, go_sem, hD]
  · refine hK2 _ ?_
    clear hK2 K2
    repeat' first | (with_reducible refine And.intro (by omega) ?_) | (refine SW.seq_k fun K hK => ?_) | (refine SW.block ?_) | ((first | refine SW.region ?_ | refine SW.regionD (Checked.mixed Tryz.checked) (by kernel_rfl) ?_ | refine SW.cond ?_ | refine SW.skip ?_ | refine SW.exit ?_ | refine SW.ret ?_ | (refine allF_i fun b hb => ?_; replace hD := And.intro hb hD; clear hb; try simp only [fresh_cons, fresh_nil, and_true, ne_eq, neF] at hD) | simp only [appK, appOsK]); try simp only [go_sem, hD]) | (refine And.intro (by omega) ?_) | (refine ifI (fun hc => ?_) (fun hc => ?_) <;> first | (exfalso; omega) | skip) | ((first | apply hK | ((iterate 1 (clear hK K)); apply hK) | ((iterate 2 (clear hK K)); apply hK) | ((iterate 3 (clear hK K)); apply hK) | ((iterate 4 (clear hK K)); apply hK) | ((iterate 5 (clear hK K)); apply hK)); clear hK K)
    rw [rowL_fl]
    refine ⟨?_, by omega, by omega, allF_i fun b' hb' => ?_⟩
    · rw [List.all_eq_true]
      intro x hx
      obtain ⟨r, _, hr⟩ := List.mem_map.1 hx
      rw [← hr]
      rfl
    · apply hK
      clear hK K
      repeat' first | (with_reducible refine And.intro (by omega) ?_) | (refine SW.seq_k fun K hK => ?_) | (refine SW.block ?_) | ((first | refine SW.region ?_ | refine SW.regionD (Checked.mixed Tryz.checked) (by kernel_rfl) ?_ | refine SW.cond ?_ | refine SW.skip ?_ | refine SW.exit ?_ | refine SW.ret ?_ | (refine allF_i fun b hb => ?_; replace hD := And.intro hb hD; clear hb; try simp only [fresh_cons, fresh_nil, and_true, ne_eq, neF] at hD) | simp only [appK, appOsK]); try simp only [go_sem, hD]) | (refine And.intro (by omega) ?_) | (refine ifI (fun hc => ?_) (fun hc => ?_) <;> first | (exfalso; omega) | skip) | ((first | apply hK | ((iterate 1 (clear hK K)); apply hK) | ((iterate 2 (clear hK K)); apply hK) | ((iterate 3 (clear hK K)); apply hK) | ((iterate 4 (clear hK K)); apply hK) | ((iterate 5 (clear hK K)); apply hK)); clear hK K)
      refine retQ_le (St.le_freeze (i := 2) (b := b') (off := 0) (len := n) (sz := 1) (k := .svs (rowL n s)) rfl (by rw [find_cons, if_pos rfl]) (by rw [Blk.len_svs, rowL_len]; omega) (gF n s) (fun j hj => by
        rw [getN_take _ _ _ (by rw [Blk.len_svs, rowL_len]; omega), Nat.zero_add, Nat.mul_one]
        exact rowL_get hj)) ?_
      rw [del_head]
      simp only [resL_tmp, resL_nil, tupOf, go_sem, hD]
      all_goals first | exact ⟨rfl, rfl⟩ | rfl

set_option maxHeartbeats 1000000 in
set_option maxRecDepth 20000 in
theorem clone_o (n s : Nat) (hn : n ≤ 6) : Ab.Call Tryz.prog 44 [NR n s] [] (fun r h' => (n = 0 ∧ r = .sc (.slice none 0 0) ∧ h' = []) ∨ ∃ b, r = .os b 0 n 1 ∧ h' = [(b, .svs (rowL n s))]) := by
  refine Call.enter' (N := 8) (rs := [.tmp 2]) Tryz.func44 rfl rfl rfl (by decide) rfl ?_; simp only [argT]; have hD : (0 : Nat) = 0 := rfl
  refine SW.seq_k fun K0 hK0 => ?_
  refine SW.region ?_
  simp only [go_sem, hD]
  refine hK0 _ ?_
  clear hK0 K0
  refine SW.seq_k fun K hK => ?_
  refine SW.seq_k fun K2 hK2 => ?_
  refine SW.region_nil (i := 0) (j := 3) (k := 4) rfl rfl rfl rfl rfl rfl Tryz.underlying45 rfl (by decide) (by decide) (fun hn => ?_) ?_
  · refine hK2 _ ?_
    clear hK2 K2
    subst hn
    repeat' first | (with_reducible refine And.intro (by omega) ?_) | (refine SW.seq_k fun K hK => ?_) | (refine SW.block ?_) | ((first | refine SW.region ?_ | refine SW.regionD (Checked.mixed Tryz.checked) (by kernel_rfl) ?_ | refine SW.cond ?_ | refine SW.skip ?_ | refine SW.exit ?_ | refine SW.ret ?_ | (refine allF_i fun b hb => ?_; replace hD := And.intro hb hD; clear hb; try simp only [fresh_cons, fresh_nil, and_true, ne_eq, neF] at hD) | simp only [appK, appOsK]); try simp only [go_sem, hD]) | (refine And.intro (by omega) ?_) | (refine ifI (fun hc => ?_) (fun hc => ?_) <;> first | (exfalso; omega) | skip) | ((first | apply hK | ((iterate 1 (clear hK K)); apply hK) | ((iterate 2 (clear hK K)); apply hK) | ((iterate 3 (clear hK K)); apply hK) | ((iterate 4 (clear hK K)); apply hK) | ((iterate 5 (clear hK K)); apply hK)); clear hK K)
    refine retQ_le (fun M w0 D N a w r => r) ?_
    simp only [resL_tmp, resL_nil, tupOf, go_sem, hD]
  · refine hK2 _ ?_
    clear hK2 K2
    repeat' first | (with_reducible refine And.intro (by omega) ?_) | (refine SW.seq_k fun K hK => ?_) | (refine SW.block ?_) | ((first | refine SW.region ?_ | refine SW.regionD (Checked.mixed Tryz.checked) (by kernel_rfl) ?_ | refine SW.cond ?_ | refine SW.skip ?_ | refine SW.exit ?_ | refine SW.ret ?_ | (refine allF_i fun b hb => ?_; replace hD := And.intro hb hD; clear hb; try simp only [fresh_cons, fresh_nil, and_true, ne_eq, neF] at hD) | simp only [appK, appOsK]); try simp only [go_sem, hD]) | (refine And.intro (by omega) ?_) | (refine ifI (fun hc => ?_) (fun hc => ?_) <;> first | (exfalso; omega) | skip) | ((first | apply hK | ((iterate 1 (clear hK K)); apply hK) | ((iterate 2 (clear hK K)); apply hK) | ((iterate 3 (clear hK K)); apply hK) | ((iterate 4 (clear hK K)); apply hK) | ((iterate 5 (clear hK K)); apply hK)); clear hK K)
    rw [rowL_fl]
    refine ⟨?_, by omega, by omega, allF_i fun b' hb' => ?_⟩
    · rw [List.all_eq_true]
      intro x hx
      obtain ⟨r, _, hr⟩ := List.mem_map.1 hx
      rw [← hr]
      rfl
    · apply hK
      clear hK K
      repeat' first | (with_reducible refine And.intro (by omega) ?_) | (refine SW.seq_k fun K hK => ?_) | (refine SW.block ?_) | ((first | refine SW.region ?_ | refine SW.regionD (Checked.mixed Tryz.checked) (by kernel_rfl) ?_ | refine SW.cond ?_ | refine SW.skip ?_ | refine SW.exit ?_ | refine SW.ret ?_ | (refine allF_i fun b hb => ?_; replace hD := And.intro hb hD; clear hb; try simp only [fresh_cons, fresh_nil, and_true, ne_eq, neF] at hD) | simp only [appK, appOsK]); try simp only [go_sem, hD]) | (refine And.intro (by omega) ?_) | (refine ifI (fun hc => ?_) (fun hc => ?_) <;> first | (exfalso; omega) | skip) | ((first | apply hK | ((iterate 1 (clear hK K)); apply hK) | ((iterate 2 (clear hK K)); apply hK) | ((iterate 3 (clear hK K)); apply hK) | ((iterate 4 (clear hK K)); apply hK) | ((iterate 5 (clear hK K)); apply hK)); clear hK K)
      refine retQ_le (fun M w0 D N a w r => r) ?_
      simp only [resL_tmp, resL_nil, tupOf, go_sem, hD]
      exact .inr ⟨_, rfl, rfl⟩

set_option maxHeartbeats 1000000 in
set_option maxRecDepth 20000 in
theorem copied_f (n : Nat) (l : List Nat) (hn : n ≤ 6) (hl : l.length ≤ 64) : PCall Tryz.prog 65 [TB n l] (TB n l) := by
  refine Call.enter' (N := 25) (rs := [.cell 2 40]) Tryz.func65 rfl rfl rfl (by decide) rfl ?_; simp only [argT]; have hD : (0 : Nat) = 0 := rfl
  repeat' first | (with_reducible refine And.intro (by omega) ?_) | (refine SW.seq_k fun K hK => ?_) | (refine SW.block ?_) | ((first | refine SW.region ?_ | refine SW.regionD (Checked.mixed Tryz.checked) (by kernel_rfl) ?_ | refine SW.cond ?_ | refine SW.skip ?_ | refine SW.exit ?_ | refine SW.ret ?_ | (refine allF_i fun b hb => ?_; replace hD := And.intro hb hD; clear hb; try simp only [fresh_cons, fresh_nil, and_true, ne_eq, neF] at hD) | simp only [appK, appOsK]); try simp only [go_sem, hD]) | (refine And.intro (by omega) ?_) | (refine ifI (fun hc => ?_) (fun hc => ?_) <;> first | (exfalso; omega) | skip) | ((first | apply hK | ((iterate 1 (clear hK K)); apply hK) | ((iterate 2 (clear hK K)); apply hK) | ((iterate 3 (clear hK K)); apply hK) | ((iterate 4 (clear hK K)); apply hK) | ((iterate 5 (clear hK K)); apply hK)); clear hK K)
  rename_i bb db
  obtain ⟨cb, rfl⟩ : ∃ x, x = b := ⟨_, rfl⟩
  refine Ab.SW.le (St.le_pick [(cb, .svs [I64 n, .sc (.slice none 0 0)]), (db, .svs [I64 0, .sc (.slice none 0 0)])] ?_ ?_) ?_
  · repeat' (first | exact (fun x hx => (List.not_mem_nil hx).elim) | refine List.forall_mem_cons.2 ⟨?_, ?_⟩ | exact List.mem_cons_self | apply List.mem_cons_of_mem)
  · simp [fresh_cons, fresh_nil, hD]
  obtain ⟨I, hI⟩ : ∃ I : Nat → St → Prop, ∀ k S, I k S ↔ (∃ (i : Nat) (x : SV) (h : Heap), k = l.length - i ∧ i ≤ l.length ∧ Acc 1 x h [(cb, .svs [I64 n, x]), (db, .svs [I64 0, .sc (.slice none 0 0)])] i (fC (rC n) (l.take i)) ∧ S = ⟨[(2, .op db 0), (3, .op cb 0), (10, RL n l), (11, I64 l.length), (12, I64 i)], h⟩) := ⟨fun k S => _, fun _ _ => Iff.rfl⟩
  refine SW.loop' I (l.length) ((hI _ _).2 ⟨0, _, _, rfl, Nat.zero_le _, .nil _ _, rfl⟩) (by repeat' (first | exact rfl | exact trivial | exact int_eq (by omega) | exact int_eq (by (rw [i64_wrap] <;> omega)) | constructor)) ?_
  intro k S hIn
  obtain ⟨i, x, h, rfl, hi, hB, rfl⟩ := (hI _ _).1 hIn
  clear hIn
  have ie : ((i : Nat) : Int).toNat = i := Int.toNat_natCast _
  have i0 : (0 : Int) ≤ ((i : Nat) : Int) := by omega
  by_cases hlt : i < l.length
  · have hli : ((i : Nat) : Int) < (((l.length) : Nat) : Int) := by omega
    have w1 : IntKind.i64.wrap ((i : Int) + 1) = ((i + 1 : Nat) : Int) := by rw [i64_wrap (by omega) (by omega)]; omega
    have tf : rF n l i = [NR n (l.getD i 0)] := rfl
    have hst := take_snoc (l := l) 0 hlt
    have cl := clone_r n (l.getD i 0) hn
    have ba : (i + 1) * 24 ≤ 140737488355328 := by omega
    generalize l.getD i 0 = a at *
    rcases hB.casesH with ⟨e0, e1, rfl, rfl⟩ | ⟨g, hgf, e0, rfl, hle⟩
    · have hLn : i = 0 := e0
      subst hLn
      repeat' first | (with_reducible refine And.intro (by omega) ?_) | (refine SW.seq_k fun K hK => ?_) | (refine SW.block ?_) | ((first | refine SW.region ?_ | refine SW.regionZ (id := 5) (Checked.mixed Tryz.checked) ((.one 0 [0, 1, 5, 6, 7] (.one 1 [1, 5, 6, 7] (.one 2 [2, 3, 4, 5, 6, 7] (.one 3 [3, 4, 5, 6, 7] (.alt 4 (.alt 5 (.one 6 [6, 7] (.alt 7 .done .nil)) .nil) .nil))))) : OZ) (by kernel_rfl) ?_ | refine SW.regionD (Checked.mixed Tryz.checked) (by kernel_rfl) ?_ | refine SW.cond ?_ | refine SW.skip ?_ | refine SW.exit ?_ | refine SW.ret ?_ | refine Call.of_pure (cl) ?_ | refine ⟨_, cl, ?_⟩ | (refine allF_i fun b hb => ?_; replace hD := And.intro hb hD; clear hb; try simp only [fresh_cons, fresh_nil, and_true, ne_eq, neF] at hD) | simp only [appK, appOsK]); try simp only [go_sem, hD, hli, ie, i0, w1, tf, ba, true_implies]) | (refine And.intro (by omega) ?_) | (refine ifI (fun hc => ?_) (fun hc => ?_) <;> first | (exfalso; omega) | skip) | ((first | apply hK | ((iterate 1 (clear hK K)); apply hK) | ((iterate 2 (clear hK K)); apply hK) | ((iterate 3 (clear hK K)); apply hK) | ((iterate 4 (clear hK K)); apply hK) | ((iterate 5 (clear hK K)); apply hK)); clear hK K) | (refine And.intro ?_ ?_)
      refine Rnd.le (St.le_pick [(b, .svs [NR n a]), (cb, .svs [I64 n, .os b 0 1 1]), (db, .svs [I64 0, .sc (.slice none 0 0)])] ?_ ?_) (Rnd.sub (l.length - (0 + 1)) (by omega) ((hI _ _).2 ⟨0 + 1, _, _, rfl, by omega, (by rw [hst]; exact Acc.osH (cs := [NR n a]) (by simp [fresh_cons, fresh_nil, hD]) rfl), rfl⟩) (by repeat' (first | exact rfl | exact trivial | exact int_eq (by omega) | exact int_eq (by (rw [i64_wrap] <;> omega)) | constructor)))
      · repeat' (first | exact (fun x hx => (List.not_mem_nil hx).elim) | refine List.forall_mem_cons.2 ⟨?_, ?_⟩ | exact List.mem_cons_self | apply List.mem_cons_of_mem)
      · simp [fresh_cons, fresh_nil, hD]
    · refine Ab.SW.le (hle _) ?_
      have k1 : ¬ g = cb := fun e => by simp [e, fresh_cons] at hgf
      have k2 : ¬ g = db := fun e => by simp [e, fresh_cons] at hgf
      have k3 : ¬ cb = g := fun e => k1 e.symm
      have k4 : ¬ db = g := fun e => k2 e.symm
      repeat' first | (with_reducible refine And.intro (by omega) ?_) | (refine SW.seq_k fun K hK => ?_) | (refine SW.block ?_) | ((first | refine SW.region ?_ | refine SW.regionZ (id := 5) (Checked.mixed Tryz.checked) ((.one 0 [0, 1, 5, 6, 7] (.one 1 [1, 5, 6, 7] (.one 2 [2, 3, 4, 5, 6, 7] (.one 3 [3, 4, 5, 6, 7] (.alt 4 (.alt 5 (.one 6 [6, 7] (.alt 7 .done .nil)) .nil) .nil))))) : OZ) (by kernel_rfl) ?_ | refine SW.regionD (Checked.mixed Tryz.checked) (by kernel_rfl) ?_ | refine SW.cond ?_ | refine SW.skip ?_ | refine SW.exit ?_ | refine SW.ret ?_ | refine Call.of_pure (cl) ?_ | refine ⟨_, cl, ?_⟩ | (refine allF_i fun b hb => ?_; replace hD := And.intro hb hD; clear hb; try simp only [fresh_cons, fresh_nil, and_true, ne_eq, neF] at hD) | simp only [appK, appOsK]); try simp only [go_sem, hD, hli, ie, i0, w1, tf, ba, true_implies, e0, k1, k2, k3, k4]) | (refine And.intro (by omega) ?_) | (refine ifI (fun hc => ?_) (fun hc => ?_) <;> first | (exfalso; omega) | skip) | ((first | apply hK | ((iterate 1 (clear hK K)); apply hK) | ((iterate 2 (clear hK K)); apply hK) | ((iterate 3 (clear hK K)); apply hK) | ((iterate 4 (clear hK K)); apply hK) | ((iterate 5 (clear hK K)); apply hK)); clear hK K) | (refine And.intro ?_ ?_)
      refine Rnd.le (St.le_pick [(b, .svs (fC (rC n) (l.take i) ++ [NR n a])), (cb, .svs [I64 n, .os b 0 (i + 1) 1]), (db, .svs [I64 0, .sc (.slice none 0 0)])] ?_ ?_) (Rnd.sub (l.length - (i + 1)) (by omega) ((hI _ _).2 ⟨i + 1, _, _, rfl, by omega, (by rw [hst, ← fC_snoc]; exact Acc.osH (by simp [fresh_cons, fresh_nil, hD]) (by rw [List.length_append, ← e0]; simp)), rfl⟩) (by repeat' (first | exact rfl | exact trivial | exact int_eq (by omega) | exact int_eq (by (rw [i64_wrap] <;> omega)) | constructor)))
      · repeat' (first | exact (fun x hx => (List.not_mem_nil hx).elim) | refine List.forall_mem_cons.2 ⟨?_, ?_⟩ | exact List.mem_cons_self | apply List.mem_cons_of_mem)
      · simp [fresh_cons, fresh_nil, hD]
  · have hli : ¬ ((i : Nat) : Int) < (((l.length) : Nat) : Int) := by omega
    obtain rfl : i = l.length := by omega
    rw [List.take_length] at hB
    refine Ab.SW.le (St.le_accC (sz := 1) (n := l.length) (c := cb) (j := 1) hB (by rw [find_cons, if_pos rfl]) (by show 1 < 2; omega) rfl (rF n l) (fun j hj => fC_at (rC_len n) 0 l j hj)) ?_
    simp only [upd_cons, if_true, List.set_cons_succ, List.set_cons_zero]
    repeat' first | (with_reducible refine And.intro (by omega) ?_) | (refine SW.seq_k fun K hK => ?_) | (refine SW.block ?_) | ((first | refine SW.region ?_ | refine SW.regionD (Checked.mixed Tryz.checked) (by kernel_rfl) ?_ | refine SW.cond ?_ | refine SW.skip ?_ | refine SW.exit ?_ | refine SW.ret ?_ | (refine allF_i fun b hb => ?_; replace hD := And.intro hb hD; clear hb; try simp only [fresh_cons, fresh_nil, and_true, ne_eq, neF] at hD) | simp only [appK, appOsK]); try simp only [go_sem, hD, hli]) | (refine And.intro (by omega) ?_) | (refine ifI (fun hc => ?_) (fun hc => ?_) <;> first | (exfalso; omega) | skip) | ((first | apply hK | ((iterate 1 (clear hK K)); apply hK) | ((iterate 2 (clear hK K)); apply hK) | ((iterate 3 (clear hK K)); apply hK) | ((iterate 4 (clear hK K)); apply hK) | ((iterate 5 (clear hK K)); apply hK)); clear hK K)
    apply ret_cell (i := 2) (n := 2); exact rfl; (simp only [go_sem, hD]; try rfl); (first | exact Nat.le_refl _ | decide); simp only [resL_tmp, resL_cellE, resC_ok, resL_nil, tupOf, getN, go_sem, hD]
end Go.Proofs.YtmcmphmhjikgkaaGreatDoor
