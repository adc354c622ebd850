/- The law of the dependencies that a proof uses. -/
import Derived.Test.YtmcmphmhjikgkaaDoorU2
import Derived.Test.YtmcmphmhjikgkaaDoorAw1
set_option linter.unusedSimpArgs false
set_option linter.unusedVariables false
set_option linter.unusedSectionVars false
namespace Go.Proofs.YtmcmphmhjikgkaaDoor
open Go Go.Ab Go.Ab.A20
variable [Gl] [Bru]

set_option maxHeartbeats 2000000 in
set_option maxRecDepth 20000 in
theorem law_used (n : Nat) (l : List D2) (a c : Nat) (hn : n < 256) (h64 : l.length ≤ 1048576) (hb : ∀ d ∈ l, d.1 < 256 ∧ d.2 < 256) (ha : a < 256) (hc : c < 256) :
    PCall Tryd.prog 4 [.agg [U8 n, EL l], .agg [U8 a, U8 c]] (SB true) := by
  have of := of_r n l hn h64 hb
  have aw := awake_c
  obtain ⟨m, hm⟩ : ∃ m, m = n % 7 := ⟨_, rfl⟩
  have hm6 : m ≤ 6 := by omega
  rw [← hm] at of
  by_cases h6 : l.length ≤ 6
  · rw [decide_eq_true h6] at of
    have hp := pow31 m (by omega)
    have hFl : (lstS m l).length = l.length := List.length_map _
    have hF := lst_ok m l (by omega)
    have lr := list_r m [(a, c)] hm6 (by simp) (fun d hd => by rw [List.mem_singleton.1 hd]; exact ⟨ha, hc⟩)
    have hG := lst_ok m [(a, c)] (by omega) _ List.mem_cons_self
    have egd : lstS m [(a, c)] = [(a &&& (2 ^ m - 1), c &&& (2 ^ m - 1))] := rfl
    rw [egd] at lr
    simp only at hG
    generalize a &&& (2 ^ m - 1) = A at *
    generalize c &&& (2 ^ m - 1) = B at *
    generalize lstS m l = F at *
    have hv := valE_ok hm6 (by omega) hF
    have hF4 : Ok2 F := fun d hd => by have := hF d hd; omega
    have tf0 : dF [(A, B)] 0 = [U32 A, U32 B] := rfl
    have l1 : [(A, B)].length = 1 := rfl
    have AB : PCall Tryd.prog 17 [I64 m, DL F, .agg [U32 A, U32 B]] (.tup [(if dif B (cl F A) = 0 then VL (prvS F (A, B)) else .sc (.slice none 0 0)), I64 (if dif B (cl F A) = 0 then 0 else 11)]) := by
      split
      · rename_i hz
        exact prove_ok m F (A, B) hF4 ⟨by show A < _; omega, by show B < _; omega⟩ (by omega) (by omega) hv (Nat.or_lt_two_pow hG.1 hG.2) hz
      · rename_i hz
        exact prove_bad m F (A, B) hF4 ⟨by show A < _; omega, by show B < _; omega⟩ (by omega) (by omega) hv (Nat.or_lt_two_pow hG.1 hG.2) hz
    have hpl := prv_len F (A, B)
    have hTl := trF_len 4294967296 F A hF4 (by omega)
    have hTi := tr_lt 4294967296 F A
    have us := used_p (prvS F (A, B)) (by rw [vals_prv]; exact natI_nodup (trF_nodup _ _ _)) (by rw [hpl]; unfold tr; simp only; omega)
    rw [vals_prv] at us
    simp only at us
    have hXp := srtI_perm (natI (tr F A))
    have hXl := srtI_len (natI (tr F A))
    rw [natI_len] at hXl
    have hXm : ∀ i ∈ tr F A, F.getD i d0 ∈ useL F (srtI (natI (tr F A))) := fun i hi =>
      List.mem_map.2 ⟨(i : Int), hXp.mem_iff.2 (List.mem_map.2 ⟨i, hi, rfl⟩), by rw [Int.toNat_natCast]⟩
    have hXi : ∀ v ∈ srtI (natI (tr F A)), 0 ≤ v ∧ v < F.length := fun v hv => by
      obtain ⟨i, hi, rfl⟩ := List.mem_map.1 (hXp.mem_iff.1 hv)
      have := hTi i hi
      exact ⟨by omega, by omega⟩
    have hUo := use_ok (X := srtI (natI (tr F A))) hF hp.1
    have suf := fun hz => used_suffice (l := F) (U := useL F (srtI (natI (tr F A)))) (g := (A, B)) hF4 (fun d hd => by have := hUo d hd; omega) (by show A < _; omega) hXm hz
    generalize hX : srtI (natI (tr F A)) = X at *
    refine Call.enter' (N := 70) (rs := [.tmp 4]) Tryd.func4 rfl rfl rfl (by decide) rfl ?_; simp only [argT]; have hD : (0 : Nat) = 0 := rfl
    repeat' first | (with_reducible refine And.intro (by omega) ?_) | (refine SW.seq_k fun K hK => ?_) | (refine SW.block ?_) | ((first | refine SW.region ?_ | refine SW.regionD (Checked.mixed Tryd.checked) (by kernel_rfl) ?_ | refine SW.cond ?_ | refine SW.skip ?_ | refine SW.exit ?_ | refine SW.ret ?_ | refine Call.of_pure (of) ?_ | refine ⟨_, of, ?_⟩ | refine Call.of_pure (aw) ?_ | refine ⟨_, aw, ?_⟩ | (refine allF_i fun b hb => ?_; replace hD := And.intro hb hD; clear hb; try simp only [fresh_cons, fresh_nil, and_true, ne_eq, neF] at hD) | simp only [appK, appOsK]); try simp only [go_sem, hD]) | (refine And.intro (by omega) ?_) | (refine ifI (fun hc => ?_) (fun hc => ?_) <;> first | (exfalso; omega) | skip) | ((first | apply hK | ((iterate 1 (clear hK K)); apply hK) | ((iterate 2 (clear hK K)); apply hK) | ((iterate 3 (clear hK K)); apply hK) | ((iterate 4 (clear hK K)); apply hK) | ((iterate 5 (clear hK K)); apply hK)); clear hK K)
    obtain ⟨nb, rfl⟩ : ∃ x, x = b := ⟨_, rfl⟩
    refine Call.freeze 1 (eF [(a, c)]) (by simp) rfl (by rw [find_cons, if_pos rfl]) (by exact Nat.le_refl 2) (fun j hj => by obtain rfl : j = 0 := (by omega); rfl) ?_
    rw [del_head]
    refine Call.of_pure (r := DL [(A, B)]) lr ?_
    simp only [go_sem, hD, tf0, l1]
    by_cases hz : dif B (cl F A) = 0
    · rw [if_pos hz, if_pos hz] at AB
      repeat' first | (with_reducible refine And.intro (by omega) ?_) | (refine SW.seq_k fun K hK => ?_) | (refine SW.block ?_) | ((first | refine SW.region ?_ | refine SW.regionD (Checked.mixed Tryd.checked) (by kernel_rfl) ?_ | refine SW.cond ?_ | refine SW.skip ?_ | refine SW.exit ?_ | refine SW.ret ?_ | refine Call.of_pure (AB) ?_ | refine ⟨_, AB, ?_⟩ | refine Call.of_pure (us) ?_ | refine ⟨_, us, ?_⟩ | (refine allF_i fun b hb => ?_; replace hD := And.intro hb hD; clear hb; try simp only [fresh_cons, fresh_nil, and_true, ne_eq, neF] at hD) | simp only [appK, appOsK]); try simp only [go_sem, hD, tf0, l1]) | (refine And.intro (by omega) ?_) | (refine ifI (fun hc => ?_) (fun hc => ?_) <;> first | (exfalso; omega) | skip) | ((first | apply hK | ((iterate 1 (clear hK K)); apply hK) | ((iterate 2 (clear hK K)); apply hK) | ((iterate 3 (clear hK K)); apply hK) | ((iterate 4 (clear hK K)); apply hK) | ((iterate 5 (clear hK K)); apply hK)); clear hK K)
      obtain ⟨pb, rfl⟩ : ∃ x, x = b := ⟨_, rfl⟩
      refine Ab.SW.le (St.le_pick [(pb, .svs [U32 A, U32 B])] ?_ ?_) ?_
      · repeat' (first | exact (fun x hx => (List.not_mem_nil hx).elim) | refine List.forall_mem_cons.2 ⟨?_, ?_⟩ | exact List.mem_cons_self | apply List.mem_cons_of_mem)
      · simp [fresh_cons, fresh_nil, hD]
      clear hD
      have hD : (0 : Nat) = 0 := rfl
      have hUl : (useL F X).length = X.length := List.length_map _
      have hUt : ∀ i, i < X.length → (useL F X).take (i + 1) = (useL F X).take i ++ [F.getD (X.getD i 0).toNat d0] := fun i hi => by
        rw [take_snoc d0 (by rw [hUl]; exact hi)]
        congr 2
        unfold useL
        simp [List.getD_eq_getElem?_getD, hi]
      have hX6 : X.length ≤ 6 := by rw [hXl]; exact Nat.le_trans (tr_few F A) (by omega)
      clear hTl hTi hXp hXm us AB of aw
      obtain ⟨I, hI⟩ : ∃ I : Nat → St → Prop, ∀ k S, I k S ↔ (∃ (i : Nat) (x : SV) (h : Heap), k = X.length - i ∧ i ≤ X.length ∧ Acc 2 x h [(pb, .svs [U32 A, U32 B])] i (fC dC ((useL F X).take i)) ∧ S = ⟨[(6, DL F), (8, .op pb 0), (11, x), (45, NL X), (46, I64 X.length), (47, I64 i)], h⟩) := ⟨fun k S => _, fun _ _ => Iff.rfl⟩
      refine SW.loop' I (X.length) ((hI _ _).2 ⟨0, _, _, rfl, Nat.zero_le _, .nil _ _, rfl⟩) (by repeat' (first | exact rfl | exact trivial | exact int_eq (by omega) | exact int_eq (by (rw [i64_wrap] <;> omega)) | constructor)) ?_
      intro k S hIn
      obtain ⟨i, x, h, rfl, hi, hB, rfl⟩ := (hI _ _).1 hIn
      clear hIn
      have ie : ((i : Nat) : Int).toNat = i := Int.toNat_natCast _
      have i0 : (0 : Int) ≤ ((i : Nat) : Int) := by omega
      by_cases hlt : i < X.length
      · have hli : ((i : Nat) : Int) < (((X.length) : Nat) : Int) := by omega
        have w1 : IntKind.i64.wrap ((i : Int) + 1) = ((i + 1 : Nat) : Int) := by rw [i64_wrap (by omega) (by omega)]; omega
        have hvi := hXi _ (getD_mem 0 hlt)
        have tx : nF X i = [I64 (X.getD i 0)] := rfl
        have hs := hUt i hlt
        obtain ⟨j, hj⟩ := Int.eq_ofNat_of_zero_le hvi.1
        rw [hj] at hvi tx hs
        rw [Int.toNat_natCast] at hs
        obtain ⟨p, q, hpq⟩ : ∃ p q, F.getD j d0 = (p, q) := ⟨_, _, rfl⟩
        have tf : dF F j = [U32 p, U32 q] := by unfold dF; rw [hpq]; rfl
        rw [hpq] at hs
        have j0 : ¬ ((j : Nat) : Int) < 0 := by omega
        have jl : ((j : Nat) : Int) < ((F.length : Nat) : Int) := hvi.2
        have jn : ¬ ((F.length : Nat) : Int) ≤ ((j : Nat) : Int) := by omega
        have jz : (0 : Int) ≤ ((j : Nat) : Int) := by omega
        have je : ((j : Nat) : Int).toNat = j := Int.toNat_natCast _
        have ba : (i + 1) * 8 ≤ 140737488355328 := by omega
        rcases hB.casesH with ⟨e0, e1, rfl, rfl⟩ | ⟨g, hgf, e0, rfl, hle⟩
        · repeat' first | (with_reducible refine And.intro (by omega) ?_) | (refine SW.seq_k fun K hK => ?_) | (refine SW.block ?_) | ((first | refine SW.region ?_ | refine SW.regionD (Checked.mixed Tryd.checked) (by kernel_rfl) ?_ | refine SW.cond ?_ | refine SW.skip ?_ | refine SW.exit ?_ | refine SW.ret ?_ | (refine allF_i fun b hb => ?_; replace hD := And.intro hb hD; clear hb; try simp only [fresh_cons, fresh_nil, and_true, ne_eq, neF] at hD) | simp only [appK, appOsK]); try simp only [go_sem, hD, hli, ie, i0, w1, tx, j0, jl, jn, je, jz, tf, ba, true_implies]) | (refine And.intro (by omega) ?_) | (refine ifI (fun hc => ?_) (fun hc => ?_) <;> first | (exfalso; omega) | skip) | ((first | apply hK | ((iterate 1 (clear hK K)); apply hK) | ((iterate 2 (clear hK K)); apply hK) | ((iterate 3 (clear hK K)); apply hK) | ((iterate 4 (clear hK K)); apply hK) | ((iterate 5 (clear hK K)); apply hK)); clear hK K)
          rw [show SV.os b 0 1 2 = SV.os b 0 (i + 1) 2 by rw [e0]]
          refine Rnd.le (St.le_pick [(b, .svs (dC (p, q))), (pb, .svs [U32 A, U32 B])] ?_ ?_) (Rnd.sub (X.length - (i + 1)) (by omega) ((hI _ _).2 ⟨i + 1, _, _, rfl, by omega, (by rw [hs, ← fC_snoc, e1]; exact Acc.osH (by simp [fresh_cons, fresh_nil, hD]) (by rw [e0]; rfl)), rfl⟩) (by repeat' (first | exact rfl | exact trivial | exact int_eq (by omega) | exact int_eq (by (rw [i64_wrap] <;> omega)) | constructor)))
          · repeat' (first | exact (fun x hx => (List.not_mem_nil hx).elim) | refine List.forall_mem_cons.2 ⟨?_, ?_⟩ | exact List.mem_cons_self | apply List.mem_cons_of_mem)
          · simp [fresh_cons, fresh_nil, hD]
        · refine Ab.SW.le (hle _) ?_
          have k1 : ¬ g = pb := fun e => by simp [e, fresh_cons] at hgf
          have k2 : ¬ pb = g := fun e => k1 e.symm
          repeat' first | (with_reducible refine And.intro (by omega) ?_) | (refine SW.seq_k fun K hK => ?_) | (refine SW.block ?_) | ((first | refine SW.region ?_ | refine SW.regionD (Checked.mixed Tryd.checked) (by kernel_rfl) ?_ | refine SW.cond ?_ | refine SW.skip ?_ | refine SW.exit ?_ | refine SW.ret ?_ | (refine allF_i fun b hb => ?_; replace hD := And.intro hb hD; clear hb; try simp only [fresh_cons, fresh_nil, and_true, ne_eq, neF] at hD) | simp only [appK, appOsK]); try simp only [go_sem, hD, hli, ie, i0, w1, tx, j0, jl, jn, je, jz, tf, ba, true_implies, e0, k1, k2]) | (refine And.intro (by omega) ?_) | (refine ifI (fun hc => ?_) (fun hc => ?_) <;> first | (exfalso; omega) | skip) | ((first | apply hK | ((iterate 1 (clear hK K)); apply hK) | ((iterate 2 (clear hK K)); apply hK) | ((iterate 3 (clear hK K)); apply hK) | ((iterate 4 (clear hK K)); apply hK) | ((iterate 5 (clear hK K)); apply hK)); clear hK K)
          refine Rnd.le (St.le_pick [(b, .svs (fC dC ((useL F X).take i) ++ dC (p, q))), (pb, .svs [U32 A, U32 B])] ?_ ?_) (Rnd.sub (X.length - (i + 1)) (by omega) ((hI _ _).2 ⟨i + 1, _, _, rfl, by omega, (by rw [hs, ← fC_snoc]; exact Acc.osH (by simp [fresh_cons, fresh_nil, hD]) (by rw [List.length_append, ← e0, dC_len, Nat.add_mul, Nat.one_mul])), rfl⟩) (by repeat' (first | exact rfl | exact trivial | exact int_eq (by omega) | exact int_eq (by (rw [i64_wrap] <;> omega)) | constructor)))
          · repeat' (first | exact (fun x hx => (List.not_mem_nil hx).elim) | refine List.forall_mem_cons.2 ⟨?_, ?_⟩ | exact List.mem_cons_self | apply List.mem_cons_of_mem)
          · simp [fresh_cons, fresh_nil, hD]
      · have hli : ¬ ((i : Nat) : Int) < (((X.length) : Nat) : Int) := by omega
        obtain rfl : i = X.length := by omega
        rw [show (useL F X).take X.length = useL F X from by rw [← hUl, List.take_length]] at hB
        have im := implies_p (useL F X) (A, B) (fun d hd => by have := hUo d hd; omega) ⟨by show A < _; omega, by show B < _; omega⟩ (by rw [hUl]; omega)
        simp only at im
        rw [show decide (dif B (cl (useL F X) A) = 0) = true from decide_eq_true (suf hz)] at im
        have im' : PCall Tryd.prog 19 [DL (useL F X), .agg [U32 A, U32 B]] (SB true) := im
        refine Ab.SW.le (St.le_acc_fl (i := 11) (n := X.length) (sz := 2) (x := x) rfl hB (dF (useL F X)) (fun j hj => fC_at dC_len d0 _ j (by rw [hUl]; exact hj))) ?_
        rw [show SV.fl X.length 2 (dF (useL F X)) = DL (useL F X) by rw [← hUl]]
        repeat' first | (with_reducible refine And.intro (by omega) ?_) | (refine SW.seq_k fun K hK => ?_) | (refine SW.block ?_) | ((first | refine SW.region ?_ | refine SW.regionD (Checked.mixed Tryd.checked) (by kernel_rfl) ?_ | refine SW.cond ?_ | refine SW.skip ?_ | refine SW.exit ?_ | refine SW.ret ?_ | refine Call.of_pure (im') ?_ | refine ⟨_, im', ?_⟩ | (refine allF_i fun b hb => ?_; replace hD := And.intro hb hD; clear hb; try simp only [fresh_cons, fresh_nil, and_true, ne_eq, neF] at hD) | simp only [appK, appOsK]); try simp only [go_sem, hD, hli]) | (refine And.intro (by omega) ?_) | (refine ifI (fun hc => ?_) (fun hc => ?_) <;> first | (exfalso; omega) | skip) | ((first | apply hK | ((iterate 1 (clear hK K)); apply hK) | ((iterate 2 (clear hK K)); apply hK) | ((iterate 3 (clear hK K)); apply hK) | ((iterate 4 (clear hK K)); apply hK) | ((iterate 5 (clear hK K)); apply hK)); clear hK K)
        refine ret_pure ?_; simp only [resL_tmp, resL_nil, tupOf, go_sem, hD]
    · rw [if_neg hz, if_neg hz] at AB
      repeat' first | (with_reducible refine And.intro (by omega) ?_) | (refine SW.seq_k fun K hK => ?_) | (refine SW.block ?_) | ((first | refine SW.region ?_ | refine SW.regionD (Checked.mixed Tryd.checked) (by kernel_rfl) ?_ | refine SW.cond ?_ | refine SW.skip ?_ | refine SW.exit ?_ | refine SW.ret ?_ | refine Call.of_pure (AB) ?_ | refine ⟨_, AB, ?_⟩ | (refine allF_i fun b hb => ?_; replace hD := And.intro hb hD; clear hb; try simp only [fresh_cons, fresh_nil, and_true, ne_eq, neF] at hD) | simp only [appK, appOsK]); try simp only [go_sem, hD, tf0, l1]) | (refine And.intro (by omega) ?_) | (refine ifI (fun hc => ?_) (fun hc => ?_) <;> first | (exfalso; omega) | skip) | ((first | apply hK | ((iterate 1 (clear hK K)); apply hK) | ((iterate 2 (clear hK K)); apply hK) | ((iterate 3 (clear hK K)); apply hK) | ((iterate 4 (clear hK K)); apply hK) | ((iterate 5 (clear hK K)); apply hK)); clear hK K)
      all_goals refine ret_pure ?_; simp only [resL_tmp, resL_nil, tupOf, go_sem, hD]
  · rw [decide_eq_false h6] at of
    refine Call.enter' (N := 70) (rs := [.tmp 4]) Tryd.func4 rfl rfl rfl (by decide) rfl ?_; simp only [argT]; have hD : (0 : Nat) = 0 := rfl
    repeat' first | (with_reducible refine And.intro (by omega) ?_) | (refine SW.seq_k fun K hK => ?_) | (refine SW.block ?_) | ((first | refine SW.region ?_ | refine SW.regionD (Checked.mixed Tryd.checked) (by kernel_rfl) ?_ | refine SW.cond ?_ | refine SW.skip ?_ | refine SW.exit ?_ | refine SW.ret ?_ | refine Call.of_pure (of) ?_ | refine ⟨_, of, ?_⟩ | refine Call.of_pure (aw) ?_ | refine ⟨_, aw, ?_⟩ | (refine allF_i fun b hb => ?_; replace hD := And.intro hb hD; clear hb; try simp only [fresh_cons, fresh_nil, and_true, ne_eq, neF] at hD) | simp only [appK, appOsK]); try simp only [go_sem, hD]) | (refine And.intro (by omega) ?_) | (refine ifI (fun hc => ?_) (fun hc => ?_) <;> first | (exfalso; omega) | skip) | ((first | apply hK | ((iterate 1 (clear hK K)); apply hK) | ((iterate 2 (clear hK K)); apply hK) | ((iterate 3 (clear hK K)); apply hK) | ((iterate 4 (clear hK K)); apply hK) | ((iterate 5 (clear hK K)); apply hK)); clear hK K)
    all_goals refine ret_pure ?_; simp only [resL_tmp, resL_nil, tupOf, go_sem, hD]
end Go.Proofs.YtmcmphmhjikgkaaDoor
