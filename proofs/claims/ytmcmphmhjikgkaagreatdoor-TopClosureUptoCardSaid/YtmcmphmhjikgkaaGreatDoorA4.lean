/- Contracts: what a description means. -/
import Derived.Test.YtmcmphmhjikgkaaGreatDoorA3
set_option linter.unusedSimpArgs false
set_option linter.unusedVariables false
set_option linter.unusedSectionVars false
namespace Go.Proofs.YtmcmphmhjikgkaaGreatDoor
open Go Go.Ab Go.Ab.A20
variable [Gl]

set_option maxHeartbeats 1000000 in
set_option maxRecDepth 20000 in
theorem list_r (n : Nat) (l : List D2) (hn : n ≤ 6) (h64 : l.length ≤ 1048576) (hb : ∀ d ∈ l, d.1 < 256 ∧ d.2 < 256) : PCall Tryz.prog 23 [I64 n, EL l] (DL (lstS n l)) := by
  have fr := full_r n (by omega)
  have hp := pow31 n (by omega)
  obtain ⟨F, hF⟩ : ∃ F, F = 2 ^ n - 1 := ⟨_, rfl⟩
  have hF4 : F < 4294967296 := by omega
  rw [← hF] at fr
  have hls : (lstS n l).length = l.length := List.length_map _
  have hlt : ∀ i, (hi : i < l.length) → (lstS n l).take (i + 1) = (lstS n l).take i ++ [((l.getD i d0).1 &&& F, (l.getD i d0).2 &&& F)] := fun i hi => by
    rw [take_snoc d0 (by rw [hls]; exact hi)]
    congr 2
    unfold lstS
    rw [hF]
    simp [List.getD_eq_getElem?_getD, hi]
  refine Call.enter' (N := 37) (rs := [.tmp 4]) Tryz.func23 rfl rfl rfl (by decide) rfl ?_; simp only [argT]; have hD : (0 : Nat) = 0 := rfl
  repeat' first | (with_reducible refine And.intro (by omega) ?_) | (refine SW.seq_k fun K hK => ?_) | (refine SW.block ?_) | ((first | refine SW.region ?_ | refine SW.regionD (Checked.mixed Tryz.checked) (by kernel_rfl) ?_ | refine SW.cond ?_ | refine SW.skip ?_ | refine SW.exit ?_ | refine SW.ret ?_ | refine Call.of_pure (fr) ?_ | refine ⟨_, fr, ?_⟩ | (refine allF_i fun b hb => ?_; replace hD := And.intro hb hD; clear hb; try simp only [fresh_cons, fresh_nil, and_true, ne_eq, neF] at hD) | simp only [appK, appOsK]); try simp only [go_sem, hD]) | (refine And.intro (by omega) ?_) | (refine ifI (fun hc => ?_) (fun hc => ?_) <;> first | (exfalso; omega) | skip) | ((first | apply hK | ((iterate 1 (clear hK K)); apply hK) | ((iterate 2 (clear hK K)); apply hK) | ((iterate 3 (clear hK K)); apply hK) | ((iterate 4 (clear hK K)); apply hK) | ((iterate 5 (clear hK K)); apply hK)); clear hK K)
  obtain ⟨I, hI⟩ : ∃ I : Nat → St → Prop, ∀ k S, I k S ↔ (∃ (i : Nat) (x : SV) (h : Heap), k = l.length - i ∧ i ≤ l.length ∧ Acc 2 x h [] i (fC dC ((lstS n l).take i)) ∧ S = ⟨[(1, EL l), (5, U32 F), (6, x), (7, I64 i)], h⟩) := ⟨fun k S => _, fun _ _ => Iff.rfl⟩
  refine SW.loop' I (l.length) ((hI _ _).2 ⟨0, _, _, rfl, Nat.zero_le _, .nil _ _, rfl⟩) (by repeat' (first | exact rfl | exact trivial | exact int_eq (by omega) | exact int_eq (by (rw [i64_wrap] <;> omega)) | constructor)) ?_
  intro k S hIn
  obtain ⟨i, x, h, rfl, hi, hB, rfl⟩ := (hI _ _).1 hIn
  clear hIn
  have ie : ((i : Nat) : Int).toNat = i := Int.toNat_natCast _
  have i0 : (0 : Int) ≤ ((i : Nat) : Int) := by omega
  by_cases hli' : i < l.length
  · have hli : ((i : Nat) : Int) < (((l.length) : Nat) : Int) := by omega
    have w1 : IntKind.i64.wrap ((i : Int) + 1) = ((i + 1 : Nat) : Int) := by rw [i64_wrap (by omega) (by omega)]; omega
    have hd := hb _ (getD_mem d0 hli')
    have hs := hlt i hli'
    obtain ⟨a, c, hg⟩ : ∃ a c, l.getD i d0 = (a, c) := ⟨_, _, rfl⟩
    have tf : eF l i = [U8 a, U8 c] := by unfold eF; rw [hg]; rfl
    rw [hg] at hd hs
    simp only at hd hs
    have wa : IntKind.u32.wrap ((a : Nat) : Int) = ((a : Nat) : Int) := u32n (by omega) (by omega)
    have wc : IntKind.u32.wrap ((c : Nat) : Int) = ((c : Nat) : Int) := u32n (by omega) (by omega)
    have na := and32 a F (by omega) hF4
    have nc := and32 c F (by omega) hF4
    have ba : (i + 1) * 8 ≤ 140737488355328 := by omega
    rcases hB.casesH with ⟨e0, e1, rfl, rfl⟩ | ⟨g, hgf, e0, rfl, hle⟩
    · repeat' first | (with_reducible refine And.intro (by omega) ?_) | (refine SW.seq_k fun K hK => ?_) | (refine SW.block ?_) | ((first | refine SW.region ?_ | refine SW.regionZ (id := 6) (Checked.mixed Tryz.checked) ((.one 0 [0, 19, 20] (.one 1 [1, 3, 4, 5, 6, 8, 17, 18, 19, 20] (.one 2 [2, 3, 4, 5, 6, 8, 17, 18, 19, 20] (.one 3 [3, 4, 5, 6, 8, 17, 18, 19, 20] (.one 4 [4, 5, 6, 8, 17, 18, 19, 20] (.one 5 [5, 6, 8, 17, 18, 19, 20] (.one 6 [6, 8, 17, 18, 19, 20] (.one 7 [7, 8, 17, 18, 19, 20] (.one 8 [8, 17, 18, 19, 20] (.one 9 [9, 11, 12, 13, 14, 16, 17, 18, 19, 20] (.one 10 [10, 11, 12, 13, 14, 16, 17, 18, 19, 20] (.one 11 [11, 12, 13, 14, 16, 17, 18, 19, 20] (.one 12 [12, 13, 14, 16, 17, 18, 19, 20] (.one 13 [13, 14, 16, 17, 18, 19, 20] (.one 14 [14, 16, 17, 18, 19, 20] (.one 15 [15, 16, 17, 18, 19, 20] (.one 16 [16, 17, 18, 19, 20] (.one 17 [17, 18, 19, 20] (.alt 18 (.alt 19 (.one 20 [20] .done) .nil) .nil))))))))))))))))))) : OZ) (by kernel_rfl) ?_ | refine SW.regionD (Checked.mixed Tryz.checked) (by kernel_rfl) ?_ | refine SW.cond ?_ | refine SW.skip ?_ | refine SW.exit ?_ | refine SW.ret ?_ | (refine allF_i fun b hb => ?_; replace hD := And.intro hb hD; clear hb; try simp only [fresh_cons, fresh_nil, and_true, ne_eq, neF] at hD) | simp only [appK, appOsK]); try simp only [go_sem, hD, hli, ie, i0, w1, tf, wa, wc, na, nc, ba, true_implies]) | (refine And.intro (by omega) ?_) | (refine ifI (fun hc => ?_) (fun hc => ?_) <;> first | (exfalso; omega) | skip) | ((first | apply hK | ((iterate 1 (clear hK K)); apply hK) | ((iterate 2 (clear hK K)); apply hK) | ((iterate 3 (clear hK K)); apply hK) | ((iterate 4 (clear hK K)); apply hK) | ((iterate 5 (clear hK K)); apply hK)); clear hK K) | (refine And.intro ?_ ?_)
      all_goals
        rw [show SV.os b 0 1 2 = SV.os b 0 (i + 1) 2 by rw [e0]]
        refine Rnd.le (St.le_pick [(b, .svs (dC (a &&& F, c &&& F)))] ?_ ?_) (Rnd.sub (l.length - (i + 1)) (by omega) ((hI _ _).2 ⟨i + 1, _, _, rfl, by omega, (by rw [hs, ← fC_snoc, e1]; exact Acc.osH (by simp [fresh_nil]) (by rw [e0]; rfl)), rfl⟩) (by repeat' (first | exact rfl | exact trivial | exact int_eq (by omega) | exact int_eq (by (rw [i64_wrap] <;> omega)) | constructor)))
        · repeat' (first | exact (fun x hx => (List.not_mem_nil hx).elim) | refine List.forall_mem_cons.2 ⟨?_, ?_⟩ | exact List.mem_cons_self | apply List.mem_cons_of_mem)
        · simp [fresh_cons, fresh_nil, hD]
    · refine Ab.SW.le (hle _) ?_
      repeat' first | (with_reducible refine And.intro (by omega) ?_) | (refine SW.seq_k fun K hK => ?_) | (refine SW.block ?_) | ((first | refine SW.region ?_ | refine SW.regionZ (id := 6) (Checked.mixed Tryz.checked) ((.one 0 [0, 19, 20] (.one 1 [1, 3, 4, 5, 6, 8, 17, 18, 19, 20] (.one 2 [2, 3, 4, 5, 6, 8, 17, 18, 19, 20] (.one 3 [3, 4, 5, 6, 8, 17, 18, 19, 20] (.one 4 [4, 5, 6, 8, 17, 18, 19, 20] (.one 5 [5, 6, 8, 17, 18, 19, 20] (.one 6 [6, 8, 17, 18, 19, 20] (.one 7 [7, 8, 17, 18, 19, 20] (.one 8 [8, 17, 18, 19, 20] (.one 9 [9, 11, 12, 13, 14, 16, 17, 18, 19, 20] (.one 10 [10, 11, 12, 13, 14, 16, 17, 18, 19, 20] (.one 11 [11, 12, 13, 14, 16, 17, 18, 19, 20] (.one 12 [12, 13, 14, 16, 17, 18, 19, 20] (.one 13 [13, 14, 16, 17, 18, 19, 20] (.one 14 [14, 16, 17, 18, 19, 20] (.one 15 [15, 16, 17, 18, 19, 20] (.one 16 [16, 17, 18, 19, 20] (.one 17 [17, 18, 19, 20] (.alt 18 (.alt 19 (.one 20 [20] .done) .nil) .nil))))))))))))))))))) : OZ) (by kernel_rfl) ?_ | refine SW.regionD (Checked.mixed Tryz.checked) (by kernel_rfl) ?_ | refine SW.cond ?_ | refine SW.skip ?_ | refine SW.exit ?_ | refine SW.ret ?_ | (refine allF_i fun b hb => ?_; replace hD := And.intro hb hD; clear hb; try simp only [fresh_cons, fresh_nil, and_true, ne_eq, neF] at hD) | simp only [appK, appOsK]); try simp only [go_sem, hD, hli, ie, i0, w1, tf, wa, wc, na, nc, ba, true_implies, e0]) | (refine And.intro (by omega) ?_) | (refine ifI (fun hc => ?_) (fun hc => ?_) <;> first | (exfalso; omega) | skip) | ((first | apply hK | ((iterate 1 (clear hK K)); apply hK) | ((iterate 2 (clear hK K)); apply hK) | ((iterate 3 (clear hK K)); apply hK) | ((iterate 4 (clear hK K)); apply hK) | ((iterate 5 (clear hK K)); apply hK)); clear hK K) | (refine And.intro ?_ ?_)
      all_goals
        refine Rnd.le (St.le_pick [(b, .svs (fC dC ((lstS n l).take i) ++ dC (a &&& F, c &&& F)))] ?_ ?_) (Rnd.sub (l.length - (i + 1)) (by omega) ((hI _ _).2 ⟨i + 1, _, _, rfl, by omega, (by rw [hs, ← fC_snoc]; exact Acc.osH (by simp [fresh_nil]) (by rw [List.length_append, ← e0, dC_len, Nat.add_mul, Nat.one_mul])), rfl⟩) (by repeat' (first | exact rfl | exact trivial | exact int_eq (by omega) | exact int_eq (by (rw [i64_wrap] <;> omega)) | constructor)))
        · repeat' (first | exact (fun x hx => (List.not_mem_nil hx).elim) | refine List.forall_mem_cons.2 ⟨?_, ?_⟩ | exact List.mem_cons_self | apply List.mem_cons_of_mem)
        · simp [fresh_cons, fresh_nil, hD]
  · have hli : ¬ ((i : Nat) : Int) < (((l.length) : Nat) : Int) := by omega
    obtain rfl : i = l.length := by omega
    rw [show (lstS n l).take l.length = lstS n l from by rw [← hls, List.take_length]] at hB
    repeat' first | (with_reducible refine And.intro (by omega) ?_) | (refine SW.seq_k fun K hK => ?_) | (refine SW.block ?_) | ((first | refine SW.region ?_ | refine SW.regionD (Checked.mixed Tryz.checked) (by kernel_rfl) ?_ | refine SW.cond ?_ | refine SW.skip ?_ | refine SW.exit ?_ | refine SW.ret ?_ | (refine allF_i fun b hb => ?_; replace hD := And.intro hb hD; clear hb; try simp only [fresh_cons, fresh_nil, and_true, ne_eq, neF] at hD) | simp only [appK, appOsK]); try simp only [go_sem, hD, hli]) | (refine And.intro (by omega) ?_) | (refine ifI (fun hc => ?_) (fun hc => ?_) <;> first | (exfalso; omega) | skip) | ((first | apply hK | ((iterate 1 (clear hK K)); apply hK) | ((iterate 2 (clear hK K)); apply hK) | ((iterate 3 (clear hK K)); apply hK) | ((iterate 4 (clear hK K)); apply hK) | ((iterate 5 (clear hK K)); apply hK)); clear hK K)
    refine retQ_le ((St.le_acc_fl (i := 4) (n := l.length) (sz := 2) (x := x) ?_ hB (dF (lstS n l)) (fun j hj => fC_at dC_len d0 _ j (by rw [hls]; exact hj))).trans St.le_drop) ?_
    · exact rfl
    · simp only [resL_tmp, resL_nil, tupOf, go_sem, hD]
      unfold DL
      rw [hls]

set_option maxRecDepth 20000 in
theorem of_r (n : Nat) (l : List D2) (hn : n < 256) (h64 : l.length ≤ 1048576) (hb : ∀ d ∈ l, d.1 < 256 ∧ d.2 < 256) : PCall Tryz.prog 5 [.agg [U8 n, EL l]] (.tup [I64 (n % 7 : Nat), DL (lstS (n % 7) l), SB (decide (l.length ≤ 6))]) := by
  have lr := list_r (n % 7) l (by omega) h64 hb
  have em : Int.tmod ((n : Nat) : Int) 7 = ((n % 7 : Nat) : Int) := (Int.ofNat_tmod n 7).symm
  have ew : IntKind.i64.wrap ((n % 7 : Nat) : Int) = ((n % 7 : Nat) : Int) := by rw [i64_wrap (by omega) (by omega)]
  refine Call.enter' (N := 19) (rs := [.tmp 2, .tmp 3, .tmp 4]) Tryz.func5 rfl rfl rfl (by decide) rfl ?_; simp only [argT]; have hD : (0 : Nat) = 0 := rfl
  repeat' first | (with_reducible refine And.intro (by omega) ?_) | (refine SW.seq_k fun K hK => ?_) | (refine SW.block ?_) | ((first | refine SW.region ?_ | refine SW.regionZ (id := 2) (Checked.mixed Tryz.checked) ((.one 0 [0, 9, 10, 11] (.one 1 [1, 4, 9, 10, 11] (.one 2 [2, 3, 4, 9, 10, 11] (.one 3 [3, 4, 9, 10, 11] (.one 4 [4, 9, 10, 11] (.one 5 [5, 6, 7, 8, 11] (.one 6 [6, 7, 8, 11] (.one 7 [7, 8, 11] (.one 8 [8, 11] (.one 9 [9, 10, 11] (.one 10 [10, 11] (.one 11 [11] .done)))))))))))) : OZ) (by kernel_rfl) ?_ | refine SW.regionD (Checked.mixed Tryz.checked) (by kernel_rfl) ?_ | refine SW.cond ?_ | refine SW.skip ?_ | refine SW.exit ?_ | refine SW.ret ?_ | refine Call.of_pure (lr) ?_ | refine ⟨_, lr, ?_⟩ | (refine allF_i fun b hb => ?_; replace hD := And.intro hb hD; clear hb; try simp only [fresh_cons, fresh_nil, and_true, ne_eq, neF] at hD) | simp only [appK, appOsK]); try simp only [go_sem, hD, em, ew]) | (refine And.intro (by omega) ?_) | (refine ifI (fun hc => ?_) (fun hc => ?_) <;> first | (exfalso; omega) | skip) | ((first | apply hK | ((iterate 1 (clear hK K)); apply hK) | ((iterate 2 (clear hK K)); apply hK) | ((iterate 3 (clear hK K)); apply hK) | ((iterate 4 (clear hK K)); apply hK) | ((iterate 5 (clear hK K)); apply hK)); clear hK K) | (refine And.intro ?_ ?_)
  all_goals
    refine ret_pure ?_; simp only [resL_tmp, resL_nil, tupOf, go_sem, hD]
    rw [show decide (((l.length : Nat) : Int) ≤ 6) = decide (l.length ≤ 6) by rw [decide_eq_decide]; omega]
end Go.Proofs.YtmcmphmhjikgkaaGreatDoor
