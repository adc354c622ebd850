/- Contract: quoted of the program. -/
import Derived.Test.YtddkacbcecedaaaGreatDoorR5
import Derived.Test.YtddkacbcecedaaaGreatDoorZ9
import Derived.Laws.BitsAllLaws
set_option linter.unusedSimpArgs false
set_option linter.unusedVariables false
set_option linter.unusedSectionVars false
namespace Go.Proofs.YtddkacbcecedaaaGreatDoor
open Go Go.Ab Go.Ab.A01
variable [Gl] [Tabs]

set_option maxHeartbeats 4000000 in
set_option maxRecDepth 20000 in
theorem quoted_p (s : ByteArray) (hs : s.size ≤ 1000000) : PCall Tryz.prog 42 [Str s] (Str (mkB (quoteL s.data.toList))) := by
  have ls : s.data.toList.length = s.size := Array.length_toList
  refine Call.enter' (N := 57) (rs := [.tmp 2]) Tryz.func42 rfl rfl rfl (by decide) rfl ?_; simp only [argT]; have hD : (0 : Nat) = 0 := rfl
  repeat' first | (with_reducible refine And.intro (by omega) ?_) | (refine SW.seq_k fun K hK => ?_) | ((first | refine SW.region ?_ | refine SW.regionD (Checked.mixed Tryz.checked) (by kernel_rfl) ?_ | refine SW.cond ?_ | refine SW.skip ?_ | refine SW.exit ?_ | refine SW.ret ?_ | (refine allF_i fun b hb => ?_; replace hD := And.intro hb hD; clear hb; try simp only [fresh_cons, fresh_nil, and_true, ne_eq, neF] at hD) | simp only [appK, appOsK]); try simp only [go_sem, hD]) | (refine And.intro (by omega) ?_) | (refine ifI (fun hc => ?_) (fun hc => ?_) <;> first | (exfalso; omega) | skip) | ((first | apply hK | ((iterate 1 (clear hK K)); apply hK) | ((iterate 2 (clear hK K)); apply hK) | ((iterate 3 (clear hK K)); apply hK) | ((iterate 4 (clear hK K)); apply hK) | ((iterate 5 (clear hK K)); apply hK)); clear hK K)
  refine SW.block ?_
  obtain ⟨I, hI⟩ : ∃ I : Nat → St → Prop, ∀ k S, I k S ↔ (∃ (j : Nat) (x : SV) (h : Heap), k = s.size - j ∧ j ≤ s.size ∧ Acc 1 x h [] (accL s.data.toList j).length (byts (accL s.data.toList j)) ∧ S = ⟨[(0, Str s), (3, x), (9, I64 j), (8, I64 s.size)], h⟩) := ⟨fun k S => _, fun _ _ => Iff.rfl⟩
  refine SW.loop' I s.size ((hI _ _).2 ⟨0, _, _, rfl, Nat.zero_le _, .inr ⟨b, .svs [.sc (.int .u8 34)], trivial, rfl, rfl, rfl, rfl⟩, rfl⟩) (by repeat' (first | exact rfl | exact trivial | exact int_eq (by omega) | exact int_eq (by (rw [i64_wrap] <;> omega)) | constructor)) ?_
  clear hD
  have hD : (0 : Nat) = 0 := rfl
  intro k S hIn
  obtain ⟨j, x, h, rfl, hj, hB, rfl⟩ := (hI _ _).1 hIn
  clear hIn
  have ie : ((j : Nat) : Int).toNat = j := Int.toNat_natCast _
  have i0 : (0 : Int) ≤ ((j : Nat) : Int) := by omega
  have sz := accL_size s.data.toList j
  by_cases h1 : j < s.size
  · have h1i : ((j : Nat) : Int) < ((s.size : Nat) : Int) := by omega
    have w1 : IntKind.i64.wrap ((j : Int) + 1) = ((j + 1 : Nat) : Int) := by rw [i64_wrap (by omega) (by omega)]; omega
    have st := accL_step (l := s.data.toList) (j := j) (by omega)
    have hc8 := (s.data.toList.getD j 0).toNat_lt
    have x1 := hexd_of ⟨(s.data.toList.getD j 0).toNat / 16, by omega⟩
    have x2 := hexd_of ⟨(s.data.toList.getD j 0).toNat % 16, by omega⟩
    simp only at x1 x2
    have n1 : (((s.data.toList.getD j 0).toNat / 16 : Nat) : Int).toNat = (s.data.toList.getD j 0).toNat / 16 := Int.toNat_natCast _
    have n2 : (((s.data.toList.getD j 0).toNat % 16 : Nat) : Int).toNat = (s.data.toList.getD j 0).toNat % 16 := Int.toNat_natCast _
    have b1 : ((s.data.toList.getD j 0).toNat : Int).fdiv (2 ^ min 4 8) = (((s.data.toList.getD j 0).toNat / 16 : Nat) : Int) := by
      rw [show min 4 8 = 4 from rfl, Int.fdiv_eq_ediv_of_nonneg _ (by decide), show (2 : Int) ^ 4 = 16 by decide]
      omega
    have b2 : bits BinOp.and IntKind.u8 ((s.data.toList.getD j 0).toNat : Int) 15 = (((s.data.toList.getD j 0).toNat % 16 : Nat) : Int) := by
      have h := u8_and_nat (s.data.toList.getD j 0).toNat 15 hc8 (by decide)
      rw [show ((15 : Nat) : Int) = 15 from rfl] at h
      rw [h]
      have e : (15 : Nat) = 2 ^ 4 - 1 := rfl
      rw [e, Nat.and_two_pow_sub_one_eq_mod]
    obtain ⟨cl, hcl⟩ : ∃ d, d = hexd ((s.data.toList.getD j 0).toNat % 16) := ⟨_, rfl⟩
    obtain ⟨ch, hch⟩ : ∃ d, d = hexd ((s.data.toList.getD j 0).toNat / 16) := ⟨_, rfl⟩
    rw [← hch] at x1
    rw [← hcl] at x2
    repeat' first | ((with_reducible refine appK_byts (l2 := [92, s.data.toList.getD j 0]) hB ?_ ?_ ?_ ?_ ?_ ?_ ?_ ?_ ?_); (iterate 8 (first | rfl | exact hD | exact hD.1 | exact hD.2.1 | exact hD.2.2.1 | exact Nat.succ_pos _ | (simp only [List.length_cons, List.length_nil]; omega))); intro b' blk' h' h'' n3 hn3 hfind hcells hcv hB' hle; clear hB; have hB := hB'; clear hB'; (try simp only [go_sem, hD] at hcv); simp only [go_sem, hD, hfind, hcv]; ((first | apply hK | ((iterate 1 (clear hK K)); apply hK) | ((iterate 2 (clear hK K)); apply hK) | ((iterate 3 (clear hK K)); apply hK) | ((iterate 4 (clear hK K)); apply hK) | ((iterate 5 (clear hK K)); apply hK)); clear hK K); refine SW.le (hle _) ?_; clear hle hfind hcv hcells) | ((with_reducible refine appK_byts (l2 := [92, 110]) hB ?_ ?_ ?_ ?_ ?_ ?_ ?_ ?_ ?_); (iterate 8 (first | rfl | exact hD | exact hD.1 | exact hD.2.1 | exact hD.2.2.1 | exact Nat.succ_pos _ | (simp only [List.length_cons, List.length_nil]; omega))); intro b' blk' h' h'' n3 hn3 hfind hcells hcv hB' hle; clear hB; have hB := hB'; clear hB'; (try simp only [go_sem, hD] at hcv); simp only [go_sem, hD, hfind, hcv]; ((first | apply hK | ((iterate 1 (clear hK K)); apply hK) | ((iterate 2 (clear hK K)); apply hK) | ((iterate 3 (clear hK K)); apply hK) | ((iterate 4 (clear hK K)); apply hK) | ((iterate 5 (clear hK K)); apply hK)); clear hK K); refine SW.le (hle _) ?_; clear hle hfind hcv hcells) | ((with_reducible refine appK_byts (l2 := [92, 120, ch, cl]) hB ?_ ?_ ?_ ?_ ?_ ?_ ?_ ?_ ?_); (iterate 8 (first | rfl | exact hD | exact hD.1 | exact hD.2.1 | exact hD.2.2.1 | exact Nat.succ_pos _ | (simp only [List.length_cons, List.length_nil]; omega))); intro b' blk' h' h'' n3 hn3 hfind hcells hcv hB' hle; clear hB; have hB := hB'; clear hB'; (try simp only [go_sem, hD] at hcv); simp only [go_sem, hD, hfind, hcv]; ((first | apply hK | ((iterate 1 (clear hK K)); apply hK) | ((iterate 2 (clear hK K)); apply hK) | ((iterate 3 (clear hK K)); apply hK) | ((iterate 4 (clear hK K)); apply hK) | ((iterate 5 (clear hK K)); apply hK)); clear hK K); refine SW.le (hle _) ?_; clear hle hfind hcv hcells) | ((with_reducible refine appK_byts (l2 := [s.data.toList.getD j 0]) hB ?_ ?_ ?_ ?_ ?_ ?_ ?_ ?_ ?_); (iterate 8 (first | rfl | exact hD | exact hD.1 | exact hD.2.1 | exact hD.2.2.1 | exact Nat.succ_pos _ | (simp only [List.length_cons, List.length_nil]; omega))); intro b' blk' h' h'' n3 hn3 hfind hcells hcv hB' hle; clear hB; have hB := hB'; clear hB'; (try simp only [go_sem, hD] at hcv); simp only [go_sem, hD, hfind, hcv]; ((first | apply hK | ((iterate 1 (clear hK K)); apply hK) | ((iterate 2 (clear hK K)); apply hK) | ((iterate 3 (clear hK K)); apply hK) | ((iterate 4 (clear hK K)); apply hK) | ((iterate 5 (clear hK K)); apply hK)); clear hK K); refine SW.le (hle _) ?_; clear hle hfind hcv hcells) | (with_reducible refine And.intro (by omega) ?_) | (refine SW.seq_k fun K hK => ?_) | (refine SW.block ?_) | ((first | refine SW.region ?_ | refine SW.regionZ (id := 12) (Checked.mixed Tryz.checked) ((.one 0 [0, 8, 9] (.one 1 [1, 2, 3, 7, 8, 9] (.one 2 [2, 3, 7, 8, 9] (.one 3 [3, 7, 8, 9] (.one 4 [4, 5, 6, 7, 8, 9] (.one 5 [5, 6, 7, 8, 9] (.one 6 [6, 7, 8, 9] (.alt 7 (.alt 8 (.one 9 [9] .done) .nil) .nil)))))))) : OZ) (by kernel_rfl) ?_ | refine SW.regionD (Checked.mixed Tryz.checked) (by kernel_rfl) ?_ | refine SW.cond ?_ | refine SW.skip ?_ | refine SW.exit ?_ | refine SW.ret ?_ | (refine allF_i fun b hb => ?_; replace hD := And.intro hb hD; clear hb; try simp only [fresh_cons, fresh_nil, and_true, ne_eq, neF] at hD) | simp only [appK, appOsK]); try simp only [go_sem, hD, h1i, ie, i0, w1, x1, x2, n1, n2, b1, b2]) | (refine And.intro (by omega) ?_) | (refine ifI (fun hc => ?_) (fun hc => ?_) <;> first | (exfalso; omega) | skip) | ((first | apply hK | ((iterate 1 (clear hK K)); apply hK) | ((iterate 2 (clear hK K)); apply hK) | ((iterate 3 (clear hK K)); apply hK) | ((iterate 4 (clear hK K)); apply hK) | ((iterate 5 (clear hK K)); apply hK)); clear hK K) | (refine And.intro ?_ ?_)
    · rw [q_b (.inl (by omega))] at st
      rw [← st] at hB
      refine Rnd.sub (s.size - (j + 1)) (by omega) ((hI _ _).2 ⟨j + 1, _, _, rfl, by omega, hB, rfl⟩) (by repeat' (first | exact rfl | exact trivial | exact int_eq (by omega) | exact int_eq (by (rw [i64_wrap] <;> omega)) | constructor))
    · rw [q_b (.inr (by omega))] at st
      rw [← st] at hB
      refine Rnd.sub (s.size - (j + 1)) (by omega) ((hI _ _).2 ⟨j + 1, _, _, rfl, by omega, hB, rfl⟩) (by repeat' (first | exact rfl | exact trivial | exact int_eq (by omega) | exact int_eq (by (rw [i64_wrap] <;> omega)) | constructor))
    · rw [q_n (by omega)] at st
      rw [← st] at hB
      refine Rnd.sub (s.size - (j + 1)) (by omega) ((hI _ _).2 ⟨j + 1, _, _, rfl, by omega, hB, rfl⟩) (by repeat' (first | exact rfl | exact trivial | exact int_eq (by omega) | exact int_eq (by (rw [i64_wrap] <;> omega)) | constructor))
    · rw [q_hex (by omega), ← hcl, ← hch] at st
      rw [← st] at hB
      refine Rnd.sub (s.size - (j + 1)) (by omega) ((hI _ _).2 ⟨j + 1, _, _, rfl, by omega, hB, rfl⟩) (by repeat' (first | exact rfl | exact trivial | exact int_eq (by omega) | exact int_eq (by (rw [i64_wrap] <;> omega)) | constructor))
    · rw [q_hex (by omega), ← hcl, ← hch] at st
      rw [← st] at hB
      refine Rnd.sub (s.size - (j + 1)) (by omega) ((hI _ _).2 ⟨j + 1, _, _, rfl, by omega, hB, rfl⟩) (by repeat' (first | exact rfl | exact trivial | exact int_eq (by omega) | exact int_eq (by (rw [i64_wrap] <;> omega)) | constructor))
    · rw [q_plain (by omega)] at st
      rw [← st] at hB
      refine Rnd.sub (s.size - (j + 1)) (by omega) ((hI _ _).2 ⟨j + 1, _, _, rfl, by omega, hB, rfl⟩) (by repeat' (first | exact rfl | exact trivial | exact int_eq (by omega) | exact int_eq (by (rw [i64_wrap] <;> omega)) | constructor))
  · have h1i : ¬ ((j : Nat) : Int) < ((s.size : Nat) : Int) := by omega
    have e := accL_end (l := s.data.toList) (j := j) (by omega)
    repeat' first | ((with_reducible refine appK_byts (l2 := [34]) hB ?_ ?_ ?_ ?_ ?_ ?_ ?_ ?_ ?_); (iterate 8 (first | rfl | exact hD | exact hD.1 | exact hD.2.1 | exact hD.2.2.1 | exact Nat.succ_pos _ | (simp only [List.length_cons, List.length_nil]; omega))); intro b' blk' h' h'' n3 hn3 hfind hcells hcv hB' hle; clear hB; have hB := hB'; clear hB'; (try simp only [go_sem, hD] at hcv); simp only [go_sem, hD, hfind, hcv]; ((first | apply hK | ((iterate 1 (clear hK K)); apply hK) | ((iterate 2 (clear hK K)); apply hK) | ((iterate 3 (clear hK K)); apply hK) | ((iterate 4 (clear hK K)); apply hK) | ((iterate 5 (clear hK K)); apply hK)); clear hK K); refine SW.le (hle _) ?_; clear hle hfind hcv hcells) | (with_reducible refine And.intro (by omega) ?_) | (refine SW.seq_k fun K hK => ?_) | (refine SW.block ?_) | ((first | refine SW.region ?_ | refine SW.regionZ (id := 12) (Checked.mixed Tryz.checked) ((.one 0 [0, 8, 9] (.one 1 [1, 2, 3, 7, 8, 9] (.one 2 [2, 3, 7, 8, 9] (.one 3 [3, 7, 8, 9] (.one 4 [4, 5, 6, 7, 8, 9] (.one 5 [5, 6, 7, 8, 9] (.one 6 [6, 7, 8, 9] (.alt 7 (.alt 8 (.one 9 [9] .done) .nil) .nil)))))))) : OZ) (by kernel_rfl) ?_ | refine SW.regionD (Checked.mixed Tryz.checked) (by kernel_rfl) ?_ | refine SW.cond ?_ | refine SW.skip ?_ | refine SW.exit ?_ | refine SW.ret ?_ | (refine allF_i fun b hb => ?_; replace hD := And.intro hb hD; clear hb; try simp only [fresh_cons, fresh_nil, and_true, ne_eq, neF] at hD) | simp only [appK, appOsK]); try simp only [go_sem, hD, h1i]) | (refine And.intro (by omega) ?_) | (refine ifI (fun hc => ?_) (fun hc => ?_) <;> first | (exfalso; omega) | skip) | ((first | apply hK | ((iterate 1 (clear hK K)); apply hK) | ((iterate 2 (clear hK K)); apply hK) | ((iterate 3 (clear hK K)); apply hK) | ((iterate 4 (clear hK K)); apply hK) | ((iterate 5 (clear hK K)); apply hK)); clear hK K) | (refine And.intro ?_ ?_)
    refine ret_pure ?_; simp only [resL_tmp, resL_nil, tupOf, go_sem, hD]
    rw [e]
    rfl
end Go.Proofs.YtddkacbcecedaaaGreatDoor
