/- Contract: Quote of the reference. -/
import Derived.Test.YtpkdknfdhhgbgaaDoorR4
import Derived.Test.YtpkdknfdhhgbgaaDoorP1
set_option linter.unusedSimpArgs false
set_option linter.unusedVariables false
set_option linter.unusedSectionVars false
namespace Go.Proofs.YtpkdknfdhhgbgaaDoor
open Go Go.Ab Go.Ab.A01
variable [Gl] [Tabs]

set_option maxRecDepth 20000 in
theorem quote_r (s : ByteArray) (hs : s.size ≤ 281474976710656) : PCall Tryd.prog 36 [Str s] (Str (mkB (quoteL s.data.toList))) := by
  have ls : s.data.toList.length = s.size := Array.length_toList
  refine Call.enter' (N := 62) (rs := [.tmp 2]) Tryd.func36 rfl rfl rfl (by decide) rfl ?_; simp only [argT]; have hD : (0 : Nat) = 0 := rfl
  repeat' first
    | (refine SW.seq_k fun K hK => ?_)
    | ((first
      | refine SW.region ?_
      | refine SW.regionD (Checked.mixed Tryd.checked) (by kernel_rfl) ?_
      | refine SW.cond ?_
      | refine SW.skip ?_
      | refine SW.exit ?_
      | refine SW.ret ?_
      | (refine allF_i fun b hb => ?_; replace hD := And.intro hb hD; clear hb; simp only [fresh_cons, fresh_nil, and_true, ne_eq, neF] at hD)
      | simp only [appK, appOsK]); try simp only [go_sem, ↓reduceIte, reduceCtorEq, Nat.reduceAdd, Nat.reduceMul, Nat.reduceSub, Nat.reduceLT, Nat.reduceLeDiff, Nat.reduceEqDiff, Nat.reduceBEq, Nat.reduceBneDiff, Int.reduceToNat, Int.toNat_natCast, eq_self, decide_true, decide_false, Int.reduceEq, and_true, true_and, if_false_eq, if_true_eq, List.getElem?_cons_zero, List.getElem?_cons_succ, setAll, List.length_cons, List.length_nil, List.length_set, List.getD_cons_zero, List.getD_cons_succ, Nat.le_refl, Int.le_refl, Nat.beq_refl, or_self, true_or, or_true, List.drop_zero, hD])
    | (refine And.intro (by omega) ?_)
    | (refine ifI (fun hc => ?_) (fun hc => ?_) <;> first | (exfalso; omega) | skip)
    | (first | (apply hK; clear hK K) | (clear hK K; apply hK; clear hK K) | (clear hK K; clear hK K; apply hK; clear hK K) | (clear hK K; clear hK K; clear hK K; apply hK; clear hK K) | (clear hK K; clear hK K; clear hK K; clear hK K; apply hK; clear hK K) | (clear hK K; clear hK K; clear hK K; clear hK K; clear hK K; apply hK; clear hK K))
    | fail
  refine SW.block ?_
  obtain ⟨I, hI⟩ : ∃ I : Nat → St → Prop, ∀ k S, I k S ↔ (∃ j : Nat, k = s.size - j ∧ j ≤ s.size ∧ S = ⟨[(0, Str s), (3, Str (accQ s.data.toList j)), (4, I64 j)], []⟩) := ⟨fun k S => _, fun _ _ => Iff.rfl⟩
  refine SW.loop' I s.size ((hI _ _).2 ⟨0, rfl, Nat.zero_le _, rfl⟩) (by repeat' (first | exact rfl | exact trivial | exact int_eq (by omega) | exact int_eq (by (rw [i64_wrap] <;> omega)) | constructor)) ?_
  intro k S hIn
  obtain ⟨j, rfl, hj, rfl⟩ := (hI _ _).1 hIn
  clear hIn
  have ie : ((j : Nat) : Int).toNat = j := Int.toNat_natCast _
  have i0 : (0 : Int) ≤ ((j : Nat) : Int) := by omega
  have sz := accQ_size s.data.toList j
  by_cases h1 : j < s.size
  · have h1i : ((j : Nat) : Int) < ((s.size : Nat) : Int) := by omega
    have w1 : IntKind.i64.wrap ((j : Int) + 1) = ((j + 1 : Nat) : Int) := by rw [i64_wrap (by omega) (by omega)]; omega
    have st := accQ_step (l := s.data.toList) (j := j) (by omega)
    have ex := ext_one h1
    have hc8 := (s.data.toList.getD j 0).toNat_lt
    have q1 : IntKind.u8.wrap (Int.tdiv ((s.data.toList.getD j 0).toNat : Int) 16) = (((s.data.toList.getD j 0).toNat / 16 : Nat) : Int) := by
      rw [show Int.tdiv ((s.data.toList.getD j 0).toNat : Int) 16 = (((s.data.toList.getD j 0).toNat / 16 : Nat) : Int) from (Int.ofNat_tdiv _ 16).symm]
      exact u8n (by omega) (by omega)
    have r1 : Int.tmod ((s.data.toList.getD j 0).toNat : Int) 16 = (((s.data.toList.getD j 0).toNat % 16 : Nat) : Int) := (Int.ofNat_tmod _ 16).symm
    have q2 : IntKind.u8.wrap ((((s.data.toList.getD j 0).toNat / 16 : Nat) : Int) + 1) = (((s.data.toList.getD j 0).toNat / 16 + 1 : Nat) : Int) := by rw [u8n (by omega) (by omega)]; omega
    have r2 : IntKind.u8.wrap ((((s.data.toList.getD j 0).toNat % 16 : Nat) : Int) + 1) = (((s.data.toList.getD j 0).toNat % 16 + 1 : Nat) : Int) := by rw [u8n (by omega) (by omega)]; omega
    have x1 := hex_one ⟨(s.data.toList.getD j 0).toNat / 16, by omega⟩
    have x2 := hex_one ⟨(s.data.toList.getD j 0).toNat % 16, by omega⟩
    have e2 : ((j + 1 : Nat) : Int).toNat = j + 1 := Int.toNat_natCast _
    simp only at x1 x2
    have n1 : (((s.data.toList.getD j 0).toNat / 16 : Nat) : Int).toNat = (s.data.toList.getD j 0).toNat / 16 := Int.toNat_natCast _
    have n2 : (((s.data.toList.getD j 0).toNat % 16 : Nat) : Int).toNat = (s.data.toList.getD j 0).toNat % 16 := Int.toNat_natCast _
    have n3 : (((s.data.toList.getD j 0).toNat / 16 + 1 : Nat) : Int).toNat = (s.data.toList.getD j 0).toNat / 16 + 1 := Int.toNat_natCast _
    have n4 : (((s.data.toList.getD j 0).toNat % 16 + 1 : Nat) : Int).toNat = (s.data.toList.getD j 0).toNat % 16 + 1 := Int.toNat_natCast _
    have y1 := mkB_size [hexd ((s.data.toList.getD j 0).toNat / 16)]
    have y2 := mkB_size [hexd ((s.data.toList.getD j 0).toNat % 16)]
    have y3 := mkB_size [s.data.toList.getD j 0]
    repeat' first
      | (refine SW.seq_k fun K hK => ?_)
      | (refine SW.block ?_)
      | ((first
      | refine SW.region ?_
      | refine SW.regionZ (id := 14) (Checked.mixed Tryd.checked) ((.one 0 [0, 15, 16] (.one 1 [1, 2, 6, 7, 14, 15, 16] (.one 2 [2, 6, 7, 14, 15, 16] (.one 3 [3, 4, 5, 6, 7, 14, 15, 16] (.one 4 [4, 5, 6, 7, 14, 15, 16] (.one 5 [5, 6, 7, 14, 15, 16] (.one 6 [6, 7, 14, 15, 16] (.one 7 [7, 14, 15, 16] (.one 8 [8, 9, 13, 14, 15, 16] (.one 9 [9, 13, 14, 15, 16] (.one 10 [10, 11, 12, 13, 14, 15, 16] (.one 11 [11, 12, 13, 14, 15, 16] (.one 12 [12, 13, 14, 15, 16] (.one 13 [13, 14, 15, 16] (.one 14 [14, 15, 16] (.one 15 [15, 16] (.one 16 [16] .done))))))))))))))))) : OZ) (by kernel_rfl) ?_
      | refine SW.regionD (Checked.mixed Tryd.checked) (by kernel_rfl) ?_
      | refine SW.cond ?_
      | refine SW.skip ?_
      | refine SW.exit ?_
      | refine SW.ret ?_
      | (refine allF_i fun b hb => ?_; replace hD := And.intro hb hD; clear hb; simp only [fresh_cons, fresh_nil, and_true, ne_eq, neF] at hD)
      | simp only [appK, appOsK]); try simp only [go_sem, ↓reduceIte, reduceCtorEq, Nat.reduceAdd, Nat.reduceMul, Nat.reduceSub, Nat.reduceLT, Nat.reduceLeDiff, Nat.reduceEqDiff, Nat.reduceBEq, Nat.reduceBneDiff, Int.reduceToNat, Int.toNat_natCast, eq_self, decide_true, decide_false, Int.reduceEq, and_true, true_and, if_false_eq, if_true_eq, List.getElem?_cons_zero, List.getElem?_cons_succ, setAll, List.length_cons, List.length_nil, List.length_set, List.getD_cons_zero, List.getD_cons_succ, Nat.le_refl, Int.le_refl, Nat.beq_refl, or_self, true_or, or_true, List.drop_zero, hD, h1i, ie, i0, w1, e2, q1, r1, q2, r2, n1, n2, n3, n4, x1, x2, ex, y1, y2, y3])
      | (refine And.intro (by omega) ?_)
      | (refine ifI (fun hc => ?_) (fun hc => ?_) <;> first | (exfalso; omega) | skip)
      | (first | (apply hK; clear hK K) | (clear hK K; apply hK; clear hK K) | (clear hK K; clear hK K; apply hK; clear hK K) | (clear hK K; clear hK K; clear hK K; apply hK; clear hK K) | (clear hK K; clear hK K; clear hK K; clear hK K; apply hK; clear hK K) | (clear hK K; clear hK K; clear hK K; clear hK K; clear hK K; apply hK; clear hK K))
      | (refine And.intro ?_ ?_)
      | fail
    all_goals refine Rnd.sub (s.size - (j + 1)) (by omega) ((hI _ _).2 ⟨j + 1, rfl, by omega, rfl⟩) ?_
    all_goals repeat' (first | exact rfl | exact trivial | (refine str_eq ?_) | constructor)
    all_goals rw [st]
    · rw [q_34 (by omega)]
    · rw [q_92 (by omega)]
    · rw [q_10 (by omega)]
    · rw [q_hex (by omega)]
      rfl
    · rw [q_hex (by omega)]
      rfl
    · rw [q_plain (by omega)]
  · have h1i : ¬ ((j : Nat) : Int) < ((s.size : Nat) : Int) := by omega
    have e : accQ s.data.toList j ++ _ = _ := accQ_end (l := s.data.toList) (j := j) (by omega)
    repeat' first
      | (refine SW.seq_k fun K hK => ?_)
      | (refine SW.block ?_)
      | ((first
      | refine SW.region ?_
      | refine SW.regionZ (id := 14) (Checked.mixed Tryd.checked) ((.one 0 [0, 15, 16] (.one 1 [1, 2, 6, 7, 14, 15, 16] (.one 2 [2, 6, 7, 14, 15, 16] (.one 3 [3, 4, 5, 6, 7, 14, 15, 16] (.one 4 [4, 5, 6, 7, 14, 15, 16] (.one 5 [5, 6, 7, 14, 15, 16] (.one 6 [6, 7, 14, 15, 16] (.one 7 [7, 14, 15, 16] (.one 8 [8, 9, 13, 14, 15, 16] (.one 9 [9, 13, 14, 15, 16] (.one 10 [10, 11, 12, 13, 14, 15, 16] (.one 11 [11, 12, 13, 14, 15, 16] (.one 12 [12, 13, 14, 15, 16] (.one 13 [13, 14, 15, 16] (.one 14 [14, 15, 16] (.one 15 [15, 16] (.one 16 [16] .done))))))))))))))))) : OZ) (by kernel_rfl) ?_
      | refine SW.regionD (Checked.mixed Tryd.checked) (by kernel_rfl) ?_
      | refine SW.cond ?_
      | refine SW.skip ?_
      | refine SW.exit ?_
      | refine SW.ret ?_
      | (refine allF_i fun b hb => ?_; replace hD := And.intro hb hD; clear hb; simp only [fresh_cons, fresh_nil, and_true, ne_eq, neF] at hD)
      | simp only [appK, appOsK]); try simp only [go_sem, ↓reduceIte, reduceCtorEq, Nat.reduceAdd, Nat.reduceMul, Nat.reduceSub, Nat.reduceLT, Nat.reduceLeDiff, Nat.reduceEqDiff, Nat.reduceBEq, Nat.reduceBneDiff, Int.reduceToNat, Int.toNat_natCast, eq_self, decide_true, decide_false, Int.reduceEq, and_true, true_and, if_false_eq, if_true_eq, List.getElem?_cons_zero, List.getElem?_cons_succ, setAll, List.length_cons, List.length_nil, List.length_set, List.getD_cons_zero, List.getD_cons_succ, Nat.le_refl, Int.le_refl, Nat.beq_refl, or_self, true_or, or_true, List.drop_zero, hD, h1i])
      | (refine And.intro (by omega) ?_)
      | (refine ifI (fun hc => ?_) (fun hc => ?_) <;> first | (exfalso; omega) | skip)
      | (first | (apply hK; clear hK K) | (clear hK K; apply hK; clear hK K) | (clear hK K; clear hK K; apply hK; clear hK K) | (clear hK K; clear hK K; clear hK K; apply hK; clear hK K) | (clear hK K; clear hK K; clear hK K; clear hK K; apply hK; clear hK K) | (clear hK K; clear hK K; clear hK K; clear hK K; clear hK K; apply hK; clear hK K))
      | (refine And.intro ?_ ?_)
      | fail
    refine ret_pure ?_; simp only [resL_tmp, resL_nil, tupOf, go_sem, ↓reduceIte, reduceCtorEq, Nat.reduceAdd, Nat.reduceMul, Nat.reduceSub, Nat.reduceLT, Nat.reduceLeDiff, Nat.reduceEqDiff, Nat.reduceBEq, Nat.reduceBneDiff, Int.reduceToNat, Int.toNat_natCast, eq_self, decide_true, decide_false, Int.reduceEq, and_true, true_and, if_false_eq, if_true_eq, List.getElem?_cons_zero, List.getElem?_cons_succ, setAll, List.length_cons, List.length_nil, List.length_set, List.getD_cons_zero, List.getD_cons_succ, Nat.le_refl, Int.le_refl, Nat.beq_refl, or_self, true_or, or_true, List.drop_zero, hD]
    exact congrArg (fun x => SV.sc (Value.string x)) e
end Go.Proofs.YtpkdknfdhhgbgaaDoor
