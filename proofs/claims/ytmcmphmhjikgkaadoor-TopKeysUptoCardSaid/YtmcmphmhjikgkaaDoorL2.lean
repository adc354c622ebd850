/- The law of keys and antikeys. -/
import Derived.Test.YtmcmphmhjikgkaaDoorA4
import Derived.Test.YtmcmphmhjikgkaaDoorV6
import Derived.Test.YtmcmphmhjikgkaaDoorAw1
set_option linter.unusedSimpArgs false
set_option linter.unusedVariables false
set_option linter.unusedSectionVars false
namespace Go.Proofs.YtmcmphmhjikgkaaDoor
open Go Go.Ab Go.Ab.A20
variable [Gl] [Bru]

set_option maxHeartbeats 2000000 in
set_option maxRecDepth 20000 in
theorem law_keys (n : Nat) (l : List D2) (hn : n < 256) (h64 : l.length ≤ 1048576) (hb : ∀ d ∈ l, d.1 < 256 ∧ d.2 < 256) :
    PCall Tryd.prog 3 [.agg [U8 n, EL l]] (SB true) := by
  have of := of_r n l hn h64 hb
  have aw := awake_c
  obtain ⟨m, hm⟩ : ∃ m, m = n % 7 := ⟨_, rfl⟩
  have hm6 : m ≤ 6 := by omega
  rw [← hm] at of
  by_cases h6 : l.length ≤ 6
  · rw [decide_eq_true h6] at of
    have hp := pow6 hm6
    have hFl : (lstS m l).length = l.length := List.length_map _
    have hF : In2 m (lstS m l) := lst_ok m l (by omega)
    generalize lstS m l = F at *
    have hv := valE_ok hm6 (by omega) hF
    have hF4 : Ok2 F := in2_ok (by omega) hF
    have hF64 : F.length ≤ 64 := by omega
    have ks := keys_p m F hm6 hF hF64
    have an := anti_p m F hm6 hF hF64
    have hq : ∀ k ∈ keyL m F, IsKey m F k := fun k hk => (keyL_mem hm6 k).1 hk
    have hq2 : ∀ k ∈ antL m F, IsAnti m F k := fun k hk => (antL_mem hm6 k).1 hk
    have hE : ∀ e ∈ edgeS m (antL m F), e < 2 ^ m := fun e he => edge_n e he
    have hAl := antL_len (l := F) hm6
    have hKl := keyL_len (l := F) hm6
    have hEl : (edgeS m (antL m F)).length = (antL m F).length := List.length_map _
    have kt := keys_tra hm6 hF
    have du := dual_p m (edgeS m (antL m F)) (keyL m F) hm6 hE (by omega) kt (lt_nd (keyL_lt hm6))
    have al := allT_p m (edgeS m (antL m F)) hm6 hE (by omega)
    rw [kt] at al
    have ck := check_p m F (keyL m F) (antL m F) hm6 hF hF64 (fun k hk => ⟨(hq k hk).1, (hq k hk).2.1⟩) (fun k hk => ⟨(hq2 k hk).1, (hq2 k hk).2.1⟩) (by omega) (by omega) du
    have eq := eqS_self (keyL m F) (by omega)
    have hf := full_r m (by omega)
    have hEt : ∀ i, i < (antL m F).length → (edgeS m (antL m F)).take (i + 1) = (edgeS m (antL m F)).take i ++ [dif (2 ^ m - 1) ((antL m F).getD i 0)] := fun i hi => by
      rw [take_snoc 0 (by rw [hEl]; exact hi)]
      congr 2
      unfold edgeS
      simp [List.getD_eq_getElem?_getD, hi]
    generalize keyL m F = Y at *
    generalize antL m F = A at *
    generalize edgeS m A = E at *
    clear kt
    refine Call.enter' (N := 117) (rs := [.tmp 2]) Tryd.func3 rfl rfl rfl (by decide) rfl ?_; simp only [argT]; have hD : (0 : Nat) = 0 := rfl
    repeat' first | (with_reducible refine And.intro (by omega) ?_) | (refine SW.seq_k fun K hK => ?_) | (refine SW.block ?_) | ((first | refine SW.region ?_ | refine SW.regionD (Checked.mixed Tryd.checked) (by kernel_rfl) ?_ | refine SW.cond ?_ | refine SW.skip ?_ | refine SW.exit ?_ | refine SW.ret ?_ | refine Call.of_pure (of) ?_ | refine ⟨_, of, ?_⟩ | refine Call.of_pure (aw) ?_ | refine ⟨_, aw, ?_⟩ | refine Call.of_pure (ks) ?_ | refine ⟨_, ks, ?_⟩ | refine Call.of_pure (an) ?_ | refine ⟨_, an, ?_⟩ | refine Call.of_pure (ck) ?_ | refine ⟨_, ck, ?_⟩ | (refine allF_i fun b hb => ?_; replace hD := And.intro hb hD; clear hb; try simp only [fresh_cons, fresh_nil, and_true, ne_eq, neF] at hD) | simp only [appK, appOsK]); try simp only [go_sem, hD]) | (refine And.intro (by omega) ?_) | (refine ifI (fun hc => ?_) (fun hc => ?_) <;> first | (exfalso; omega) | skip) | ((first | apply hK | ((iterate 1 (clear hK K)); apply hK) | ((iterate 2 (clear hK K)); apply hK) | ((iterate 3 (clear hK K)); apply hK) | ((iterate 4 (clear hK K)); apply hK) | ((iterate 5 (clear hK K)); apply hK)); clear hK K)
    refine Ab.SW.le (St.le_pick [] ?_ ?_) ?_
    · repeat' (first | exact (fun x hx => (List.not_mem_nil hx).elim) | refine List.forall_mem_cons.2 ⟨?_, ?_⟩ | exact List.mem_cons_self | apply List.mem_cons_of_mem)
    · simp [fresh_cons, fresh_nil, hD]
    clear ks an ck of aw hD
    have hD : (0 : Nat) = 0 := rfl
    obtain ⟨I, hI⟩ : ∃ I : Nat → St → Prop, ∀ k S, I k S ↔ (∃ (i : Nat) (x : SV) (h : Heap), k = A.length - i ∧ i ≤ A.length ∧ Acc 1 x h [] i (fC sC1 (E.take i)) ∧ S = ⟨[(3, I64 m), (4, DL F), (6, SS Y), (10, x), (58, SS A), (59, I64 A.length), (60, I64 i)], h⟩) := ⟨fun k S => _, fun _ _ => Iff.rfl⟩
    refine SW.loop' I (A.length) ((hI _ _).2 ⟨0, _, _, rfl, Nat.zero_le _, .nil _ _, rfl⟩) (by repeat' (first | exact rfl | exact trivial | exact int_eq (by omega) | exact int_eq (by (rw [i64_wrap] <;> omega)) | constructor)) ?_
    intro k S hIn
    obtain ⟨i, x, h, rfl, hi, hB, rfl⟩ := (hI _ _).1 hIn
    clear hIn
    have ie : ((i : Nat) : Int).toNat = i := Int.toNat_natCast _
    have i0 : (0 : Int) ≤ ((i : Nat) : Int) := by omega
    by_cases hlt : i < A.length
    · have hli : ((i : Nat) : Int) < (((A.length) : Nat) : Int) := by omega
      have w1 : IntKind.i64.wrap ((i : Int) + 1) = ((i + 1 : Nat) : Int) := by rw [i64_wrap (by omega) (by omega)]; omega
      have hm := hq2 _ (getD_mem 0 hlt)
      have hst := hEt i hlt
      have tf : sF A i = [U32 (A.getD i 0)] := rfl
      generalize A.getD i 0 = a at *
      have en := not32 (2 ^ m - 1) a (by omega) (by have := hm.1; omega)
      have ba : (i + 1) * 4 ≤ 140737488355328 := by omega
      generalize dif (2 ^ m - 1) a = v at *
      rcases hB.casesH with ⟨e0, e1, rfl, rfl⟩ | ⟨g, hgf, e0, rfl, hle⟩
      · have hLn : i = 0 := e0
        subst hLn
        repeat' first | (with_reducible refine And.intro (by omega) ?_) | (refine SW.seq_k fun K hK => ?_) | (refine SW.block ?_) | ((first | refine SW.region ?_ | refine SW.regionD (Checked.mixed Tryd.checked) (by kernel_rfl) ?_ | refine SW.cond ?_ | refine SW.skip ?_ | refine SW.exit ?_ | refine SW.ret ?_ | refine Call.of_pure (hf) ?_ | refine ⟨_, hf, ?_⟩ | (refine allF_i fun b hb => ?_; replace hD := And.intro hb hD; clear hb; try simp only [fresh_cons, fresh_nil, and_true, ne_eq, neF] at hD) | simp only [appK, appOsK]); try simp only [go_sem, hD, hli, ie, i0, w1, tf, en, ba, true_implies]) | (refine And.intro (by omega) ?_) | (refine ifI (fun hc => ?_) (fun hc => ?_) <;> first | (exfalso; omega) | skip) | ((first | apply hK | ((iterate 1 (clear hK K)); apply hK) | ((iterate 2 (clear hK K)); apply hK) | ((iterate 3 (clear hK K)); apply hK) | ((iterate 4 (clear hK K)); apply hK) | ((iterate 5 (clear hK K)); apply hK)); clear hK K)
        refine Rnd.le (St.le_pick [(b, .ints .u32 [(v : Int)])] ?_ ?_) (Rnd.sub (A.length - (0 + 1)) (by omega) ((hI _ _).2 ⟨0 + 1, _, _, rfl, by omega, (by rw [hst]; exact .inr ⟨b, .ints .u32 [(v : Int)], by simp [fresh_nil], rfl, rfl, rfl, rfl, rfl⟩), rfl⟩) (by repeat' (first | exact rfl | exact trivial | exact int_eq (by omega) | exact int_eq (by (rw [i64_wrap] <;> omega)) | constructor)))
        · repeat' (first | exact (fun x hx => (List.not_mem_nil hx).elim) | refine List.forall_mem_cons.2 ⟨?_, ?_⟩ | exact List.mem_cons_self | apply List.mem_cons_of_mem)
        · simp [fresh_cons, fresh_nil, hD]
      · refine Ab.SW.le (hle _) ?_
        repeat' first | (with_reducible refine And.intro (by omega) ?_) | (refine SW.seq_k fun K hK => ?_) | (refine SW.block ?_) | ((first | refine SW.region ?_ | refine SW.regionD (Checked.mixed Tryd.checked) (by kernel_rfl) ?_ | refine SW.cond ?_ | refine SW.skip ?_ | refine SW.exit ?_ | refine SW.ret ?_ | refine Call.of_pure (hf) ?_ | refine ⟨_, hf, ?_⟩ | (refine allF_i fun b hb => ?_; replace hD := And.intro hb hD; clear hb; try simp only [fresh_cons, fresh_nil, and_true, ne_eq, neF] at hD) | simp only [appK, appOsK]); try simp only [go_sem, hD, hli, ie, i0, w1, tf, en, ba, true_implies, e0]) | (refine And.intro (by omega) ?_) | (refine ifI (fun hc => ?_) (fun hc => ?_) <;> first | (exfalso; omega) | skip) | ((first | apply hK | ((iterate 1 (clear hK K)); apply hK) | ((iterate 2 (clear hK K)); apply hK) | ((iterate 3 (clear hK K)); apply hK) | ((iterate 4 (clear hK K)); apply hK) | ((iterate 5 (clear hK K)); apply hK)); clear hK K)
        refine Rnd.le (St.le_pick [(b, .svs (fC sC1 (E.take i) ++ sC1 v))] ?_ ?_) (Rnd.sub (A.length - (i + 1)) (by omega) ((hI _ _).2 ⟨i + 1, _, _, rfl, by omega, (by rw [hst, ← fC_snoc]; exact Acc.osH (by simp [fresh_nil]) (by rw [List.length_append, ← e0]; simp [sC1])), rfl⟩) (by repeat' (first | exact rfl | exact trivial | exact int_eq (by omega) | exact int_eq (by (rw [i64_wrap] <;> omega)) | constructor)))
        · repeat' (first | exact (fun x hx => (List.not_mem_nil hx).elim) | refine List.forall_mem_cons.2 ⟨?_, ?_⟩ | exact List.mem_cons_self | apply List.mem_cons_of_mem)
        · simp [fresh_cons, fresh_nil, hD]
    · have hli : ¬ ((i : Nat) : Int) < (((A.length) : Nat) : Int) := by omega
      obtain rfl : i = A.length := by omega
      rw [show E.take A.length = E from by rw [← hEl, List.take_length]] at hB
      refine Ab.SW.le (St.le_acc_fl (i := 10) (n := A.length) (sz := 1) (x := x) rfl hB (sF E) (fun j hj => fC_at sC1_len 0 _ j (by rw [hEl]; exact hj))) ?_
      rw [show SV.fl A.length 1 (sF E) = SS E by rw [← hEl]]
      clear hI
      repeat' first | (with_reducible refine And.intro (by omega) ?_) | (refine SW.seq_k fun K hK => ?_) | (refine SW.block ?_) | ((first | refine SW.region ?_ | refine SW.regionD (Checked.mixed Tryd.checked) (by kernel_rfl) ?_ | refine SW.cond ?_ | refine SW.skip ?_ | refine SW.exit ?_ | refine SW.ret ?_ | refine Call.of_pure (al) ?_ | refine ⟨_, al, ?_⟩ | refine Call.of_pure (du) ?_ | refine ⟨_, du, ?_⟩ | refine Call.of_pure (eq) ?_ | refine ⟨_, eq, ?_⟩ | (refine allF_i fun b hb => ?_; replace hD := And.intro hb hD; clear hb; try simp only [fresh_cons, fresh_nil, and_true, ne_eq, neF] at hD) | simp only [appK, appOsK]); try simp only [go_sem, hD, hli]) | (refine And.intro (by omega) ?_) | (refine ifI (fun hc => ?_) (fun hc => ?_) <;> first | (exfalso; omega) | skip) | ((first | apply hK | ((iterate 1 (clear hK K)); apply hK) | ((iterate 2 (clear hK K)); apply hK) | ((iterate 3 (clear hK K)); apply hK) | ((iterate 4 (clear hK K)); apply hK) | ((iterate 5 (clear hK K)); apply hK)); clear hK K)
      clear al du eq
      obtain ⟨I, hI⟩ : ∃ I : Nat → St → Prop, ∀ k S, I k S ↔ (∃ (j : Nat) , k = Y.length - j ∧ j ≤ Y.length ∧ S = ⟨[(3, I64 m), (4, DL F), (97, SS Y), (98, I64 Y.length), (99, I64 j)], []⟩) := ⟨fun k S => _, fun _ _ => Iff.rfl⟩
      refine SW.loop' I (Y.length) ((hI _ _).2 ⟨0, rfl, Nat.zero_le _, rfl⟩) (by repeat' (first | exact rfl | exact trivial | exact int_eq (by omega) | exact int_eq (by (rw [i64_wrap] <;> omega)) | constructor)) ?_
      intro k S hIn
      obtain ⟨j, rfl, hi, rfl⟩ := (hI _ _).1 hIn
      clear hIn
      have ie : ((j : Nat) : Int).toNat = j := Int.toNat_natCast _
      have i0 : (0 : Int) ≤ ((j : Nat) : Int) := by omega
      by_cases hlt : j < Y.length
      · have hli : ((j : Nat) : Int) < (((Y.length) : Nat) : Int) := by omega
        have w1 : IntKind.i64.wrap ((j : Int) + 1) = ((j + 1 : Nat) : Int) := by rw [i64_wrap (by omega) (by omega)]; omega
        have hk := hq _ (getD_mem 0 hlt)
        have tf : sF Y j = [U32 (Y.getD j 0)] := rfl
        generalize Y.getD j 0 = a at *
        have cp := close_p F a hF4 (by have := hk.1; omega) (by omega)
        have e1 : cl F a = 2 ^ m - 1 := of_decide_eq_true hk.2.1
        rw [e1] at cp
        have ip := is_p m F a hm6 hF hF64 hk
        repeat' first | (with_reducible refine And.intro (by omega) ?_) | (refine SW.seq_k fun K hK => ?_) | (refine SW.block ?_) | ((first | refine SW.region ?_ | refine SW.regionD (Checked.mixed Tryd.checked) (by kernel_rfl) ?_ | refine SW.cond ?_ | refine SW.skip ?_ | refine SW.exit ?_ | refine SW.ret ?_ | refine Call.of_pure (cp) ?_ | refine ⟨_, cp, ?_⟩ | refine Call.of_pure (hf) ?_ | refine ⟨_, hf, ?_⟩ | refine Call.of_pure (ip) ?_ | refine ⟨_, ip, ?_⟩ | (refine allF_i fun b hb => ?_; replace hD := And.intro hb hD; clear hb; try simp only [fresh_cons, fresh_nil, and_true, ne_eq, neF] at hD) | simp only [appK, appOsK]); try simp only [go_sem, hD, hli, ie, i0, w1, tf]) | (refine And.intro (by omega) ?_) | (refine ifI (fun hc => ?_) (fun hc => ?_) <;> first | (exfalso; omega) | skip) | ((first | apply hK | ((iterate 1 (clear hK K)); apply hK) | ((iterate 2 (clear hK K)); apply hK) | ((iterate 3 (clear hK K)); apply hK) | ((iterate 4 (clear hK K)); apply hK) | ((iterate 5 (clear hK K)); apply hK)); clear hK K)
        refine Rnd.sub (Y.length - (j + 1)) (by omega) ((hI _ _).2 ⟨j + 1, rfl, by omega, rfl⟩) (by repeat' (first | exact rfl | exact trivial | exact int_eq (by omega) | exact int_eq (by (rw [i64_wrap] <;> omega)) | constructor))
      · have hli : ¬ ((j : Nat) : Int) < (((Y.length) : Nat) : Int) := by omega
        repeat' first | (with_reducible refine And.intro (by omega) ?_) | (refine SW.seq_k fun K hK => ?_) | (refine SW.block ?_) | ((first | refine SW.region ?_ | refine SW.regionD (Checked.mixed Tryd.checked) (by kernel_rfl) ?_ | refine SW.cond ?_ | refine SW.skip ?_ | refine SW.exit ?_ | refine SW.ret ?_ | (refine allF_i fun b hb => ?_; replace hD := And.intro hb hD; clear hb; try simp only [fresh_cons, fresh_nil, and_true, ne_eq, neF] at hD) | simp only [appK, appOsK]); try simp only [go_sem, hD, hli]) | (refine And.intro (by omega) ?_) | (refine ifI (fun hc => ?_) (fun hc => ?_) <;> first | (exfalso; omega) | skip) | ((first | apply hK | ((iterate 1 (clear hK K)); apply hK) | ((iterate 2 (clear hK K)); apply hK) | ((iterate 3 (clear hK K)); apply hK) | ((iterate 4 (clear hK K)); apply hK) | ((iterate 5 (clear hK K)); apply hK)); clear hK K)
        refine ret_pure ?_; simp only [resL_tmp, resL_nil, tupOf, go_sem, hD]
  · rw [decide_eq_false h6] at of
    refine Call.enter' (N := 117) (rs := [.tmp 2]) Tryd.func3 rfl rfl rfl (by decide) rfl ?_; simp only [argT]; have hD : (0 : Nat) = 0 := rfl
    repeat' first | (with_reducible refine And.intro (by omega) ?_) | (refine SW.seq_k fun K hK => ?_) | (refine SW.block ?_) | ((first | refine SW.region ?_ | refine SW.regionD (Checked.mixed Tryd.checked) (by kernel_rfl) ?_ | refine SW.cond ?_ | refine SW.skip ?_ | refine SW.exit ?_ | refine SW.ret ?_ | refine Call.of_pure (of) ?_ | refine ⟨_, of, ?_⟩ | refine Call.of_pure (aw) ?_ | refine ⟨_, aw, ?_⟩ | (refine allF_i fun b hb => ?_; replace hD := And.intro hb hD; clear hb; try simp only [fresh_cons, fresh_nil, and_true, ne_eq, neF] at hD) | simp only [appK, appOsK]); try simp only [go_sem, hD]) | (refine And.intro (by omega) ?_) | (refine ifI (fun hc => ?_) (fun hc => ?_) <;> first | (exfalso; omega) | skip) | ((first | apply hK | ((iterate 1 (clear hK K)); apply hK) | ((iterate 2 (clear hK K)); apply hK) | ((iterate 3 (clear hK K)); apply hK) | ((iterate 4 (clear hK K)); apply hK) | ((iterate 5 (clear hK K)); apply hK)); clear hK K)
    all_goals refine ret_pure ?_; simp only [resL_tmp, resL_nil, tupOf, go_sem, hD]
end Go.Proofs.YtmcmphmhjikgkaaDoor
