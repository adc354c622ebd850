/- Contracts: number, Key of the program. -/
import Derived.Test.YtpkdknfdhhgbgaaDoorP5
import Derived.Laws.Bits64
set_option linter.unusedSimpArgs false
set_option linter.unusedVariables false
set_option linter.unusedSectionVars false
namespace Go.Ab
open Go Go.Ab.A01
theorem xor_low {a : Nat} (h : a < 9223372036854775808) : a ^^^ 9223372036854775808 = a + 9223372036854775808 := by
  have p : (9223372036854775808 : Nat) = 2 ^ 63 := by decide
  rw [p] at h ⊢
  refine Nat.eq_of_testBit_eq fun i => ?_
  rw [Nat.testBit_xor, Nat.testBit_two_pow, Nat.add_comm]
  by_cases h1 : i = 63
  · subst h1
    rw [Nat.testBit_two_pow_add_eq]
    simp
  · rw [decide_eq_false (by omega), Bool.xor_false]
    rcases Nat.lt_or_gt_of_ne h1 with h2 | h2
    · rw [Nat.testBit_two_pow_add_gt h2]
    · have e1 : a.testBit i = false := Nat.testBit_lt_two_pow (Nat.lt_of_lt_of_le h (Nat.pow_le_pow_right (by decide) (by omega)))
      have e3 : 2 ^ 63 + a < 2 ^ 64 := by
        have : (2 : Nat) ^ 64 = 2 ^ 63 + 2 ^ 63 := by decide
        omega
      have e2 : (2 ^ 63 + a).testBit i = false := Nat.testBit_lt_two_pow (Nat.lt_of_lt_of_le e3 (Nat.pow_le_pow_right (by decide) (by omega)))
      rw [e1, e2]
theorem xor_high {a : Nat} (h : 9223372036854775808 ≤ a) (h2 : a < 18446744073709551616) : a ^^^ 9223372036854775808 = a - 9223372036854775808 := by
  have e := xor_low (a := a - 9223372036854775808) (by omega)
  have e2 : a - 9223372036854775808 + 9223372036854775808 = a := by omega
  rw [e2] at e
  conv => lhs; rw [← e]
  rw [Nat.xor_assoc, Nat.xor_self, Nat.xor_zero]
/-- The number's bits with the sign's bit turned. -/
def unum (n : Int) : Nat := (n + 9223372036854775808).toNat
theorem i64w (n : Int) : IntKind.i64.wrap n = (n + 9223372036854775808) % 18446744073709551616 - 9223372036854775808 := by
  have e : (2 : Int) ^ 64 = 18446744073709551616 := by decide
  have e2 : (2 : Int) ^ 63 = 9223372036854775808 := by decide
  have h : IntKind.i64.wrap n = if (true && decide (n % (2 : Int) ^ 64 ≥ (2 : Int) ^ 63)) = true then n % (2 : Int) ^ 64 - (2 : Int) ^ 64 else n % (2 : Int) ^ 64 := rfl
  rw [h, e, e2]
  simp only [Bool.true_and, decide_eq_true_eq, ge_iff_le]
  split <;> omega
end Go.Ab
namespace Go.Ab
open Go Go.Ab.A01
theorem beL_get : ∀ (m u j : Nat), j < m → (beL m u).getD j 0 = UInt8.ofNat (u / 256 ^ (m - 1 - j) % 256)
  | 0, u, j, h => absurd h (by omega)
  | m + 1, u, 0, h => by rw [beL, List.getD_cons_zero]; rfl
  | m + 1, u, j + 1, h => by
    rw [beL, List.getD_cons_succ, beL_get m _ j (by omega)]
    congr 1
    have e : m + 1 - 1 - (j + 1) = m - 1 - j := by omega
    have e2 : (256 : Nat) ^ m = 256 ^ (m - 1 - j) * 256 ^ (j + 1) := by rw [← Nat.pow_add]; congr 1; omega
    rw [e, e2, Nat.mod_mul_right_div_self, Nat.mod_mod_of_dvd _ (Nat.dvd_of_pow_dvd (Nat.succ_pos j) (Nat.dvd_refl _))]
theorem num8_get (n : Int) {j : Nat} (h : j < 8) : (num8 n).getD j 0 = UInt8.ofNat (unum n / 2 ^ (56 - 8 * j) % 256) := by
  unfold num8
  rw [beL_get 8 _ j h]
  have e : (256 : Nat) ^ (8 - 1 - j) = 2 ^ (56 - 8 * j) := by
    rw [show (256 : Nat) = 2 ^ 8 by decide, ← Nat.pow_mul]
    congr 1
    omega
  rw [e]
  rfl
end Go.Ab
namespace Go.Proofs.YtpkdknfdhhgbgaaDoor
open Go Go.Ab Go.Ab.A01
variable [Gl] [Tabs]

theorem unum_xor (n : Int) (hn : In64 n) : bits BinOp.xor IntKind.u64 (IntKind.u64.wrap n) 9223372036854775808 = (unum n : Int) := by
  unfold In64 at hn
  unfold unum
  rw [u64w]
  rcases Int.lt_or_le n 0 with h | h
  · have e : n % 18446744073709551616 = (((n + 18446744073709551616).toNat : Nat) : Int) := by omega
    have b := bits_xor_u64_nat (n + 18446744073709551616).toNat 9223372036854775808 (by omega) (by decide)
    rw [xor_high (by omega) (by omega), show ((9223372036854775808 : Nat) : Int) = 9223372036854775808 from rfl] at b
    rw [e, b]
    omega
  · have e : n % 18446744073709551616 = ((n.toNat : Nat) : Int) := by omega
    have b := bits_xor_u64_nat n.toNat 9223372036854775808 (by omega) (by decide)
    rw [xor_low (by omega), show ((9223372036854775808 : Nat) : Int) = 9223372036854775808 from rfl] at b
    rw [e, b]
    omega

set_option maxHeartbeats 2000000 in
set_option maxRecDepth 20000 in
theorem number_c (n : Int) (hn : In64 n) (l : List UInt8) (hl : l.length ≤ 1000) (x : SV) (h : Heap) (hA : Acc 1 x h [] l.length (byts l)) :
    Ab.Call Tryd.prog 40 [x, I64 n] h (fun r h' => Acc 1 r h' [] (l ++ num8 n).length (byts (l ++ num8 n))) := by
  have ux := unum_xor n hn
  have n8 := num8_len n
  have un : unum n < 18446744073709551616 := by unfold unum; unfold In64 at hn; omega
  refine Call.enter' (N := 22) (rs := [.tmp 4]) Tryd.func40 rfl rfl rfl (by decide) rfl ?_; simp only [argT]; have hD : (0 : Nat) = 0 := rfl
  repeat' first
    | (with_reducible refine And.intro (by omega) ?_)
    | (refine SW.seq_k fun K hK => ?_)
    | ((first
      | refine SW.region ?_
      | refine SW.regionD (Checked.mixed Tryd.checked) (by kernel_rfl) ?_
      | refine SW.cond ?_
      | refine SW.skip ?_
      | refine SW.exit ?_
      | refine SW.ret ?_
      | (refine allF_i fun b hb => ?_; replace hD := And.intro hb hD; clear hb; simp only [fresh_cons, fresh_nil, and_true, ne_eq, neF] at hD)
      | simp only [appK, appOsK]); try simp only [go_sem, ↓reduceIte, reduceCtorEq, Nat.reduceAdd, Nat.reduceMul, Nat.reduceSub, Nat.reduceLT, Nat.reduceLeDiff, Nat.reduceEqDiff, Nat.reduceBEq, Nat.reduceBneDiff, Int.reduceToNat, Int.toNat_natCast, eq_self, decide_true, decide_false, Int.reduceEq, and_true, true_and, if_false_eq, if_true_eq, List.getElem?_cons_zero, List.getElem?_cons_succ, setAll, List.length_cons, List.length_nil, List.length_set, List.getD_cons_zero, List.getD_cons_succ, Nat.le_refl, Int.le_refl, Nat.beq_refl, or_self, true_or, or_true, List.drop_zero, hD, ux])
    | (refine And.intro (by omega) ?_)
    | (refine ifI (fun hc => ?_) (fun hc => ?_) <;> first | (exfalso; omega) | skip)
    | (first | (apply hK; clear hK K) | (clear hK K; apply hK; clear hK K) | (clear hK K; clear hK K; apply hK; clear hK K) | (clear hK K; clear hK K; clear hK K; apply hK; clear hK K) | (clear hK K; clear hK K; clear hK K; clear hK K; apply hK; clear hK K) | (clear hK K; clear hK K; clear hK K; clear hK K; clear hK K; apply hK; clear hK K))
    | fail
  refine SW.block ?_
  obtain ⟨I, hI⟩ : ∃ I : Nat → St → Prop, ∀ k S, I k S ↔ (∃ (j : Nat) (y : SV) (h' : Heap), k = 8 - j ∧ j ≤ 8 ∧ Acc 1 y h' [] (l ++ (num8 n).take j).length (byts (l ++ (num8 n).take j)) ∧ S = ⟨[(0, y), (5, U64 (unum n)), (6, I64 (56 - 8 * (j : Int)))], h'⟩) := ⟨fun k S => _, fun _ _ => Iff.rfl⟩
  refine SW.loop' I 8 ((hI _ _).2 ⟨0, x, h, rfl, Nat.zero_le _, by rw [List.take_zero, List.append_nil]; exact hA, rfl⟩) (by repeat' (first | exact rfl | exact trivial | exact int_eq (by omega) | exact int_eq (by (rw [i64_wrap] <;> omega)) | constructor)) ?_
  intro k S hIn
  obtain ⟨j, y, h', rfl, hj, hB, rfl⟩ := (hI _ _).1 hIn
  clear hIn hA
  rcases Nat.lt_or_ge j 8 with h8 | h8
  · have h1i : (0 : Int) ≤ 56 - 8 * (j : Int) := by omega
    have w1 : IntKind.i64.wrap (56 - 8 * (j : Int) - 8) = 56 - 8 * ((j + 1 : Nat) : Int) := by rw [i64_wrap (by omega) (by omega)]; omega
    obtain ⟨c, hc⟩ : ∃ c, c = (num8 n).getD j 0 := ⟨_, rfl⟩
    have sl : (num8 n).take (j + 1) = (num8 n).take j ++ [c] := by
      have : j < (num8 n).length := by omega
      rw [List.take_add_one, hc]
      simp [List.getD_eq_getElem?_getD, this]
    have e1 : (56 - 8 * (j : Int)).toNat = 56 - 8 * j := by omega
    have e2 : min (56 - 8 * j) 64 = 56 - 8 * j := by omega
    have e3 : (unum n : Int).fdiv (2 ^ (56 - 8 * j)) = ((unum n / 2 ^ (56 - 8 * j) : Nat) : Int) := by
      rw [Int.fdiv_eq_ediv_of_nonneg _ (by exact_mod_cast Nat.zero_le _)]
      exact_mod_cast rfl
    have e4 : IntKind.u8.wrap ((unum n / 2 ^ (56 - 8 * j) : Nat) : Int) = (c.toNat : Int) := by
      rw [hc, num8_get n h8, UInt8.toNat_ofNat', IntKind.wrap_u8']
      omega
    have ll : ((num8 n).take j).length = j := by rw [List.length_take]; omega
    have la : (l ++ (num8 n).take j).length = l.length + j := by rw [List.length_append, ll]
    repeat' first
      | ((with_reducible refine appK_byts (l2 := [c]) hB ?_ ?_ ?_ ?_ ?_ ?_ ?_ ?_ ?_); (iterate 8 (first | rfl | exact hD | exact hD.1 | exact hD.2.1 | exact hD.2.2.1 | exact Nat.succ_pos _ | (simp only [List.length_cons, List.length_nil]; omega))); intro b' blk' h' h'' n3 hn3 hfind hcells hcv hB' hle; clear hB; have hB := hB'; clear hB'; (try simp only [go_sem, ↓reduceIte, reduceCtorEq, Nat.reduceAdd, Nat.reduceMul, Nat.reduceSub, Nat.reduceLT, Nat.reduceLeDiff, Nat.reduceEqDiff, Nat.reduceBEq, Nat.reduceBneDiff, Int.reduceToNat, Int.toNat_natCast, eq_self, decide_true, decide_false, Int.reduceEq, and_true, true_and, if_false_eq, if_true_eq, List.getElem?_cons_zero, List.getElem?_cons_succ, setAll, List.length_cons, List.length_nil, List.length_set, List.getD_cons_zero, List.getD_cons_succ, Nat.le_refl, Int.le_refl, Nat.beq_refl, or_self, true_or, or_true, List.drop_zero, hD] at hcv); simp only [go_sem, ↓reduceIte, reduceCtorEq, Nat.reduceAdd, Nat.reduceMul, Nat.reduceSub, Nat.reduceLT, Nat.reduceLeDiff, Nat.reduceEqDiff, Nat.reduceBEq, Nat.reduceBneDiff, Int.reduceToNat, Int.toNat_natCast, eq_self, decide_true, decide_false, Int.reduceEq, and_true, true_and, if_false_eq, if_true_eq, List.getElem?_cons_zero, List.getElem?_cons_succ, setAll, List.length_cons, List.length_nil, List.length_set, List.getD_cons_zero, List.getD_cons_succ, Nat.le_refl, Int.le_refl, Nat.beq_refl, or_self, true_or, or_true, List.drop_zero, hD, hfind, hcv]; (first | (apply hK; clear hK K) | (clear hK K; apply hK; clear hK K) | (clear hK K; clear hK K; apply hK; clear hK K) | (clear hK K; clear hK K; clear hK K; apply hK; clear hK K) | (clear hK K; clear hK K; clear hK K; clear hK K; apply hK; clear hK K) | (clear hK K; clear hK K; clear hK K; clear hK K; clear hK K; apply hK; clear hK K)); refine SW.le (hle _) ?_; clear hle hfind hcv hcells)
      | (with_reducible refine And.intro (by omega) ?_)
      | (refine SW.seq_k fun K hK => ?_)
      | (refine SW.block ?_)
      | ((first
      | refine SW.region ?_
      | refine SW.regionD (Checked.mixed Tryd.checked) (by kernel_rfl) ?_
      | refine SW.cond ?_
      | refine SW.skip ?_
      | refine SW.exit ?_
      | refine SW.ret ?_
      | (refine allF_i fun b hb => ?_; replace hD := And.intro hb hD; clear hb; simp only [fresh_cons, fresh_nil, and_true, ne_eq, neF] at hD)
      | simp only [appK, appOsK]); try simp only [go_sem, ↓reduceIte, reduceCtorEq, Nat.reduceAdd, Nat.reduceMul, Nat.reduceSub, Nat.reduceLT, Nat.reduceLeDiff, Nat.reduceEqDiff, Nat.reduceBEq, Nat.reduceBneDiff, Int.reduceToNat, Int.toNat_natCast, eq_self, decide_true, decide_false, Int.reduceEq, and_true, true_and, if_false_eq, if_true_eq, List.getElem?_cons_zero, List.getElem?_cons_succ, setAll, List.length_cons, List.length_nil, List.length_set, List.getD_cons_zero, List.getD_cons_succ, Nat.le_refl, Int.le_refl, Nat.beq_refl, or_self, true_or, or_true, List.drop_zero, hD, h1i, w1, e1, e2, e3, e4])
      | (refine And.intro (by omega) ?_)
      | (refine ifI (fun hc => ?_) (fun hc => ?_) <;> first | (exfalso; omega) | skip)
      | (first | (apply hK; clear hK K) | (clear hK K; apply hK; clear hK K) | (clear hK K; clear hK K; apply hK; clear hK K) | (clear hK K; clear hK K; clear hK K; apply hK; clear hK K) | (clear hK K; clear hK K; clear hK K; clear hK K; apply hK; clear hK K) | (clear hK K; clear hK K; clear hK K; clear hK K; clear hK K; apply hK; clear hK K))
      | (refine And.intro ?_ ?_)
      | fail
    rw [List.append_assoc, ← sl] at hB
    refine Rnd.sub (8 - (j + 1)) (by omega) ((hI _ _).2 ⟨j + 1, _, _, rfl, by omega, hB, rfl⟩) (by repeat' (first | exact rfl | exact trivial | exact int_eq (by omega) | exact int_eq (by (rw [i64_wrap] <;> omega)) | constructor))
  · obtain rfl : j = 8 := by omega
    rw [List.take_of_length_le (by omega)] at hB
    have h1i : ¬ (0 : Int) ≤ 56 - 8 * ((8 : Nat) : Int) := by omega
    repeat' first
      | (with_reducible refine And.intro (by omega) ?_)
      | (refine SW.seq_k fun K hK => ?_)
      | (refine SW.block ?_)
      | ((first
      | refine SW.region ?_
      | refine SW.regionD (Checked.mixed Tryd.checked) (by kernel_rfl) ?_
      | refine SW.cond ?_
      | refine SW.skip ?_
      | refine SW.exit ?_
      | refine SW.ret ?_
      | (refine allF_i fun b hb => ?_; replace hD := And.intro hb hD; clear hb; simp only [fresh_cons, fresh_nil, and_true, ne_eq, neF] at hD)
      | simp only [appK, appOsK]); try simp only [go_sem, ↓reduceIte, reduceCtorEq, Nat.reduceAdd, Nat.reduceMul, Nat.reduceSub, Nat.reduceLT, Nat.reduceLeDiff, Nat.reduceEqDiff, Nat.reduceBEq, Nat.reduceBneDiff, Int.reduceToNat, Int.toNat_natCast, eq_self, decide_true, decide_false, Int.reduceEq, and_true, true_and, if_false_eq, if_true_eq, List.getElem?_cons_zero, List.getElem?_cons_succ, setAll, List.length_cons, List.length_nil, List.length_set, List.getD_cons_zero, List.getD_cons_succ, Nat.le_refl, Int.le_refl, Nat.beq_refl, or_self, true_or, or_true, List.drop_zero, hD, h1i])
      | (refine And.intro (by omega) ?_)
      | (refine ifI (fun hc => ?_) (fun hc => ?_) <;> first | (exfalso; omega) | skip)
      | (first | (apply hK; clear hK K) | (clear hK K; apply hK; clear hK K) | (clear hK K; clear hK K; apply hK; clear hK K) | (clear hK K; clear hK K; clear hK K; apply hK; clear hK K) | (clear hK K; clear hK K; clear hK K; clear hK K; apply hK; clear hK K) | (clear hK K; clear hK K; clear hK K; clear hK K; clear hK K; apply hK; clear hK K))
      | (refine And.intro ?_ ?_)
      | fail
    refine retQ_ret ?_
    simp only [resL_tmp, resL_nil, tupOf, go_sem, ↓reduceIte, reduceCtorEq, Nat.reduceAdd, Nat.reduceMul, Nat.reduceSub, Nat.reduceLT, Nat.reduceLeDiff, Nat.reduceEqDiff, Nat.reduceBEq, Nat.reduceBneDiff, Int.reduceToNat, Int.toNat_natCast, eq_self, decide_true, decide_false, Int.reduceEq, and_true, true_and, if_false_eq, if_true_eq, List.getElem?_cons_zero, List.getElem?_cons_succ, setAll, List.length_cons, List.length_nil, List.length_set, List.getD_cons_zero, List.getD_cons_succ, Nat.le_refl, Int.le_refl, Nat.beq_refl, or_self, true_or, or_true, List.drop_zero, hD]
    rw [List.length_append] at hB
    exact hB

theorem number_k (n : Int) (hn : In64 n) (l : List UInt8) (hl : l.length ≤ 1000) (x : SV) (h : Heap) (hA : Acc 1 x h [] l.length (byts l)) :
    Ab.Call Tryd.prog 40 [x, I64 n] h (fun r h' => ∃ b blk m, r = .os b 0 m 1 ∧ h' = [(b, blk)] ∧ cvtK blk 0 m = .ok True (Str (mkB (l ++ num8 n)))) :=
  Call.mono (number_c n hn l hl x h hA) fun r h' hB => by
    have hne : l ++ num8 n ≠ [] := fun e => by
      have := num8_len n
      rw [(List.append_eq_nil_iff.1 e).2] at this
      cases this
    rcases hB.byts_cases with ⟨e, _, _⟩ | ⟨b, _, e1, blk, hc, e2⟩
    · exact absurd e hne
    · exact ⟨b, blk, _, e1, e2, cvtK_of hc hne rfl⟩

set_option maxRecDepth 20000 in
theorem key_bad (k n : Int) (s : ByteArray) (hv : vok k n s = false) : PCall Tryd.prog 23 [VS k n s] (.tup [Str ⟨#[]⟩, I64 1]) := by
  have v := valid_p k n s
  rw [hv] at v
  refine Call.enter' (N := 51) (rs := [.tmp 2, .tmp 3]) Tryd.func23 rfl rfl rfl (by decide) rfl ?_; simp only [argT]; have hD : (0 : Nat) = 0 := rfl
  repeat' first
    | (with_reducible refine And.intro (by omega) ?_)
    | (refine SW.seq_k fun K hK => ?_)
    | (refine SW.block ?_)
    | ((first
      | refine SW.region ?_
      | refine SW.regionD (Checked.mixed Tryd.checked) (by kernel_rfl) ?_
      | refine SW.cond ?_
      | refine SW.skip ?_
      | refine SW.exit ?_
      | refine SW.ret ?_
      | refine Call.of_pure (v) ?_
      | refine ⟨_, v, ?_⟩
      | (refine allF_i fun b hb => ?_; replace hD := And.intro hb hD; clear hb; simp only [fresh_cons, fresh_nil, and_true, ne_eq, neF] at hD)
      | simp only [appK, appOsK]); try simp only [go_sem, ↓reduceIte, reduceCtorEq, Nat.reduceAdd, Nat.reduceMul, Nat.reduceSub, Nat.reduceLT, Nat.reduceLeDiff, Nat.reduceEqDiff, Nat.reduceBEq, Nat.reduceBneDiff, Int.reduceToNat, Int.toNat_natCast, eq_self, decide_true, decide_false, Int.reduceEq, and_true, true_and, if_false_eq, if_true_eq, List.getElem?_cons_zero, List.getElem?_cons_succ, setAll, List.length_cons, List.length_nil, List.length_set, List.getD_cons_zero, List.getD_cons_succ, Nat.le_refl, Int.le_refl, Nat.beq_refl, or_self, true_or, or_true, List.drop_zero, hD])
    | (refine And.intro (by omega) ?_)
    | (refine ifI (fun hc => ?_) (fun hc => ?_) <;> first | (exfalso; omega) | skip)
    | (first | (apply hK; clear hK K) | (clear hK K; apply hK; clear hK K) | (clear hK K; clear hK K; apply hK; clear hK K) | (clear hK K; clear hK K; clear hK K; apply hK; clear hK K) | (clear hK K; clear hK K; clear hK K; clear hK K; apply hK; clear hK K) | (clear hK K; clear hK K; clear hK K; clear hK K; clear hK K; apply hK; clear hK K))
    | fail
  refine ret_pure ?_; simp only [resL_tmp, resL_nil, tupOf, go_sem, ↓reduceIte, reduceCtorEq, Nat.reduceAdd, Nat.reduceMul, Nat.reduceSub, Nat.reduceLT, Nat.reduceLeDiff, Nat.reduceEqDiff, Nat.reduceBEq, Nat.reduceBneDiff, Int.reduceToNat, Int.toNat_natCast, eq_self, decide_true, decide_false, Int.reduceEq, and_true, true_and, if_false_eq, if_true_eq, List.getElem?_cons_zero, List.getElem?_cons_succ, setAll, List.length_cons, List.length_nil, List.length_set, List.getD_cons_zero, List.getD_cons_succ, Nat.le_refl, Int.le_refl, Nat.beq_refl, or_self, true_or, or_true, List.drop_zero, hD]

set_option maxRecDepth 20000 in
theorem key_num (k n : Int) (hn : In64 n) (hk : k = 1 ∨ k = 3) (hv : vok k n ⟨#[]⟩ = true) : PCall Tryd.prog 23 [VS k n ⟨#[]⟩] (.tup [Str (mkB (keyL k n ⟨#[]⟩)), I64 0]) := by
  have v := valid_p k n ⟨#[]⟩
  rw [hv] at v
  rcases hk with rfl | rfl
  · have u1 : IntKind.u8.wrap 1 = 1 := by decide
    have kl : keyL 1 n ⟨#[]⟩ = [1] ++ num8 n := by unfold keyL; rw [if_pos (.inl rfl)]; rfl
    rw [kl]
    refine Call.enter' (N := 51) (rs := [.tmp 2, .tmp 3]) Tryd.func23 rfl rfl rfl (by decide) rfl ?_; simp only [argT]; have hD : (0 : Nat) = 0 := rfl
    repeat' first
      | (with_reducible refine And.intro (by omega) ?_)
      | (refine SW.seq_k fun K hK => ?_)
      | (refine SW.block ?_)
      | ((first
      | refine SW.region ?_
      | refine SW.regionD (Checked.mixed Tryd.checked) (by kernel_rfl) ?_
      | refine SW.cond ?_
      | refine SW.skip ?_
      | refine SW.exit ?_
      | refine SW.ret ?_
      | refine Call.of_pure (v) ?_
      | refine ⟨_, v, ?_⟩
      | (refine allF_i fun b hb => ?_; replace hD := And.intro hb hD; clear hb; simp only [fresh_cons, fresh_nil, and_true, ne_eq, neF] at hD)
      | simp only [appK, appOsK]); try simp only [go_sem, ↓reduceIte, reduceCtorEq, Nat.reduceAdd, Nat.reduceMul, Nat.reduceSub, Nat.reduceLT, Nat.reduceLeDiff, Nat.reduceEqDiff, Nat.reduceBEq, Nat.reduceBneDiff, Int.reduceToNat, Int.toNat_natCast, eq_self, decide_true, decide_false, Int.reduceEq, and_true, true_and, if_false_eq, if_true_eq, List.getElem?_cons_zero, List.getElem?_cons_succ, setAll, List.length_cons, List.length_nil, List.length_set, List.getD_cons_zero, List.getD_cons_succ, Nat.le_refl, Int.le_refl, Nat.beq_refl, or_self, true_or, or_true, List.drop_zero, hD, u1])
      | (refine And.intro (by omega) ?_)
      | (refine ifI (fun hc => ?_) (fun hc => ?_) <;> first | (exfalso; omega) | skip)
      | (first | (apply hK; clear hK K) | (clear hK K; apply hK; clear hK K) | (clear hK K; clear hK K; apply hK; clear hK K) | (clear hK K; clear hK K; clear hK K; apply hK; clear hK K) | (clear hK K; clear hK K; clear hK K; clear hK K; apply hK; clear hK K) | (clear hK K; clear hK K; clear hK K; clear hK K; clear hK K; apply hK; clear hK K))
      | fail
    rename_i b0
    refine Call.mono (Call.frame (h1 := [(b, Blk.svs [SV.sc (Value.int IntKind.u8 1)])]) (h2 := [(b0, _)]) (number_k n hn [1] (by decide) _ _ (.inr ⟨b, _, trivial, rfl, rfl, rfl, rfl⟩))) ?_
    rintro r h' ⟨h1', rfl, b2, blk, m, rfl, rfl, hcv⟩
    simp only [go_sem, ↓reduceIte, reduceCtorEq, Nat.reduceAdd, Nat.reduceMul, Nat.reduceSub, Nat.reduceLT, Nat.reduceLeDiff, Nat.reduceEqDiff, Nat.reduceBEq, Nat.reduceBneDiff, Int.reduceToNat, Int.toNat_natCast, eq_self, decide_true, decide_false, Int.reduceEq, and_true, true_and, if_false_eq, if_true_eq, List.getElem?_cons_zero, List.getElem?_cons_succ, setAll, List.length_cons, List.length_nil, List.length_set, List.getD_cons_zero, List.getD_cons_succ, Nat.le_refl, Int.le_refl, Nat.beq_refl, or_self, true_or, or_true, List.drop_zero, hD] at hcv
    simp only [go_sem, ↓reduceIte, reduceCtorEq, Nat.reduceAdd, Nat.reduceMul, Nat.reduceSub, Nat.reduceLT, Nat.reduceLeDiff, Nat.reduceEqDiff, Nat.reduceBEq, Nat.reduceBneDiff, Int.reduceToNat, Int.toNat_natCast, eq_self, decide_true, decide_false, Int.reduceEq, and_true, true_and, if_false_eq, if_true_eq, List.getElem?_cons_zero, List.getElem?_cons_succ, setAll, List.length_cons, List.length_nil, List.length_set, List.getD_cons_zero, List.getD_cons_succ, Nat.le_refl, Int.le_refl, Nat.beq_refl, or_self, true_or, or_true, List.drop_zero, hD]
    repeat' first
      | (with_reducible refine And.intro (by omega) ?_)
      | (refine SW.seq_k fun K hK => ?_)
      | (refine SW.block ?_)
      | ((first
      | refine SW.region ?_
      | refine SW.regionD (Checked.mixed Tryd.checked) (by kernel_rfl) ?_
      | refine SW.cond ?_
      | refine SW.skip ?_
      | refine SW.exit ?_
      | refine SW.ret ?_
      | (refine allF_i fun b hb => ?_; replace hD := And.intro hb hD; clear hb; simp only [fresh_cons, fresh_nil, and_true, ne_eq, neF] at hD)
      | simp only [appK, appOsK]); try simp only [go_sem, ↓reduceIte, reduceCtorEq, Nat.reduceAdd, Nat.reduceMul, Nat.reduceSub, Nat.reduceLT, Nat.reduceLeDiff, Nat.reduceEqDiff, Nat.reduceBEq, Nat.reduceBneDiff, Int.reduceToNat, Int.toNat_natCast, eq_self, decide_true, decide_false, Int.reduceEq, and_true, true_and, if_false_eq, if_true_eq, List.getElem?_cons_zero, List.getElem?_cons_succ, setAll, List.length_cons, List.length_nil, List.length_set, List.getD_cons_zero, List.getD_cons_succ, Nat.le_refl, Int.le_refl, Nat.beq_refl, or_self, true_or, or_true, List.drop_zero, hD, hcv])
      | (refine And.intro (by omega) ?_)
      | (refine ifI (fun hc => ?_) (fun hc => ?_) <;> first | (exfalso; omega) | skip)
      | (first | (apply hK; clear hK K) | (clear hK K; apply hK; clear hK K) | (clear hK K; clear hK K; apply hK; clear hK K) | (clear hK K; clear hK K; clear hK K; apply hK; clear hK K) | (clear hK K; clear hK K; clear hK K; clear hK K; apply hK; clear hK K) | (clear hK K; clear hK K; clear hK K; clear hK K; clear hK K; apply hK; clear hK K))
      | fail
    refine ret_pure ?_; simp only [resL_tmp, resL_nil, tupOf, go_sem, ↓reduceIte, reduceCtorEq, Nat.reduceAdd, Nat.reduceMul, Nat.reduceSub, Nat.reduceLT, Nat.reduceLeDiff, Nat.reduceEqDiff, Nat.reduceBEq, Nat.reduceBneDiff, Int.reduceToNat, Int.toNat_natCast, eq_self, decide_true, decide_false, Int.reduceEq, and_true, true_and, if_false_eq, if_true_eq, List.getElem?_cons_zero, List.getElem?_cons_succ, setAll, List.length_cons, List.length_nil, List.length_set, List.getD_cons_zero, List.getD_cons_succ, Nat.le_refl, Int.le_refl, Nat.beq_refl, or_self, true_or, or_true, List.drop_zero, hD]
  · have u1 : IntKind.u8.wrap 3 = 3 := by decide
    have kl : keyL 3 n ⟨#[]⟩ = [3] ++ num8 n := by unfold keyL; rw [if_pos (.inr rfl)]; rfl
    rw [kl]
    refine Call.enter' (N := 51) (rs := [.tmp 2, .tmp 3]) Tryd.func23 rfl rfl rfl (by decide) rfl ?_; simp only [argT]; have hD : (0 : Nat) = 0 := rfl
    repeat' first
      | (with_reducible refine And.intro (by omega) ?_)
      | (refine SW.seq_k fun K hK => ?_)
      | (refine SW.block ?_)
      | ((first
      | refine SW.region ?_
      | refine SW.regionD (Checked.mixed Tryd.checked) (by kernel_rfl) ?_
      | refine SW.cond ?_
      | refine SW.skip ?_
      | refine SW.exit ?_
      | refine SW.ret ?_
      | refine Call.of_pure (v) ?_
      | refine ⟨_, v, ?_⟩
      | (refine allF_i fun b hb => ?_; replace hD := And.intro hb hD; clear hb; simp only [fresh_cons, fresh_nil, and_true, ne_eq, neF] at hD)
      | simp only [appK, appOsK]); try simp only [go_sem, ↓reduceIte, reduceCtorEq, Nat.reduceAdd, Nat.reduceMul, Nat.reduceSub, Nat.reduceLT, Nat.reduceLeDiff, Nat.reduceEqDiff, Nat.reduceBEq, Nat.reduceBneDiff, Int.reduceToNat, Int.toNat_natCast, eq_self, decide_true, decide_false, Int.reduceEq, and_true, true_and, if_false_eq, if_true_eq, List.getElem?_cons_zero, List.getElem?_cons_succ, setAll, List.length_cons, List.length_nil, List.length_set, List.getD_cons_zero, List.getD_cons_succ, Nat.le_refl, Int.le_refl, Nat.beq_refl, or_self, true_or, or_true, List.drop_zero, hD, u1])
      | (refine And.intro (by omega) ?_)
      | (refine ifI (fun hc => ?_) (fun hc => ?_) <;> first | (exfalso; omega) | skip)
      | (first | (apply hK; clear hK K) | (clear hK K; apply hK; clear hK K) | (clear hK K; clear hK K; apply hK; clear hK K) | (clear hK K; clear hK K; clear hK K; apply hK; clear hK K) | (clear hK K; clear hK K; clear hK K; clear hK K; apply hK; clear hK K) | (clear hK K; clear hK K; clear hK K; clear hK K; clear hK K; apply hK; clear hK K))
      | fail
    rename_i b0
    refine Call.mono (Call.frame (h1 := [(b, Blk.svs [SV.sc (Value.int IntKind.u8 3)])]) (h2 := [(b0, _)]) (number_k n hn [3] (by decide) _ _ (.inr ⟨b, _, trivial, rfl, rfl, rfl, rfl⟩))) ?_
    rintro r h' ⟨h1', rfl, b2, blk, m, rfl, rfl, hcv⟩
    simp only [go_sem, ↓reduceIte, reduceCtorEq, Nat.reduceAdd, Nat.reduceMul, Nat.reduceSub, Nat.reduceLT, Nat.reduceLeDiff, Nat.reduceEqDiff, Nat.reduceBEq, Nat.reduceBneDiff, Int.reduceToNat, Int.toNat_natCast, eq_self, decide_true, decide_false, Int.reduceEq, and_true, true_and, if_false_eq, if_true_eq, List.getElem?_cons_zero, List.getElem?_cons_succ, setAll, List.length_cons, List.length_nil, List.length_set, List.getD_cons_zero, List.getD_cons_succ, Nat.le_refl, Int.le_refl, Nat.beq_refl, or_self, true_or, or_true, List.drop_zero, hD] at hcv
    simp only [go_sem, ↓reduceIte, reduceCtorEq, Nat.reduceAdd, Nat.reduceMul, Nat.reduceSub, Nat.reduceLT, Nat.reduceLeDiff, Nat.reduceEqDiff, Nat.reduceBEq, Nat.reduceBneDiff, Int.reduceToNat, Int.toNat_natCast, eq_self, decide_true, decide_false, Int.reduceEq, and_true, true_and, if_false_eq, if_true_eq, List.getElem?_cons_zero, List.getElem?_cons_succ, setAll, List.length_cons, List.length_nil, List.length_set, List.getD_cons_zero, List.getD_cons_succ, Nat.le_refl, Int.le_refl, Nat.beq_refl, or_self, true_or, or_true, List.drop_zero, hD]
    repeat' first
      | (with_reducible refine And.intro (by omega) ?_)
      | (refine SW.seq_k fun K hK => ?_)
      | (refine SW.block ?_)
      | ((first
      | refine SW.region ?_
      | refine SW.regionD (Checked.mixed Tryd.checked) (by kernel_rfl) ?_
      | refine SW.cond ?_
      | refine SW.skip ?_
      | refine SW.exit ?_
      | refine SW.ret ?_
      | (refine allF_i fun b hb => ?_; replace hD := And.intro hb hD; clear hb; simp only [fresh_cons, fresh_nil, and_true, ne_eq, neF] at hD)
      | simp only [appK, appOsK]); try simp only [go_sem, ↓reduceIte, reduceCtorEq, Nat.reduceAdd, Nat.reduceMul, Nat.reduceSub, Nat.reduceLT, Nat.reduceLeDiff, Nat.reduceEqDiff, Nat.reduceBEq, Nat.reduceBneDiff, Int.reduceToNat, Int.toNat_natCast, eq_self, decide_true, decide_false, Int.reduceEq, and_true, true_and, if_false_eq, if_true_eq, List.getElem?_cons_zero, List.getElem?_cons_succ, setAll, List.length_cons, List.length_nil, List.length_set, List.getD_cons_zero, List.getD_cons_succ, Nat.le_refl, Int.le_refl, Nat.beq_refl, or_self, true_or, or_true, List.drop_zero, hD, hcv])
      | (refine And.intro (by omega) ?_)
      | (refine ifI (fun hc => ?_) (fun hc => ?_) <;> first | (exfalso; omega) | skip)
      | (first | (apply hK; clear hK K) | (clear hK K; apply hK; clear hK K) | (clear hK K; clear hK K; apply hK; clear hK K) | (clear hK K; clear hK K; clear hK K; apply hK; clear hK K) | (clear hK K; clear hK K; clear hK K; clear hK K; apply hK; clear hK K) | (clear hK K; clear hK K; clear hK K; clear hK K; clear hK K; apply hK; clear hK K))
      | fail
    refine ret_pure ?_; simp only [resL_tmp, resL_nil, tupOf, go_sem, ↓reduceIte, reduceCtorEq, Nat.reduceAdd, Nat.reduceMul, Nat.reduceSub, Nat.reduceLT, Nat.reduceLeDiff, Nat.reduceEqDiff, Nat.reduceBEq, Nat.reduceBneDiff, Int.reduceToNat, Int.toNat_natCast, eq_self, decide_true, decide_false, Int.reduceEq, and_true, true_and, if_false_eq, if_true_eq, List.getElem?_cons_zero, List.getElem?_cons_succ, setAll, List.length_cons, List.length_nil, List.length_set, List.getD_cons_zero, List.getD_cons_succ, Nat.le_refl, Int.le_refl, Nat.beq_refl, or_self, true_or, or_true, List.drop_zero, hD]

theorem key_null : PCall Tryd.prog 23 [VS 0 0 ⟨#[]⟩] (.tup [Str (mkB (keyL 0 0 ⟨#[]⟩)), I64 0]) := by
  have v := valid_p 0 0 ⟨#[]⟩
  have e : vok 0 0 ⟨#[]⟩ = true := by decide +kernel
  rw [e] at v
  have u1 : IntKind.u8.wrap 0 = 0 := by decide
  have tb : (List.take 1 [SV.sc (Value.int IntKind.u8 0)]).all isByte = true := rfl
  refine Call.enter' (N := 51) (rs := [.tmp 2, .tmp 3]) Tryd.func23 rfl rfl rfl (by decide) rfl ?_; simp only [argT]; have hD : (0 : Nat) = 0 := rfl
  repeat' first
    | (with_reducible refine And.intro (by omega) ?_)
    | (refine SW.seq_k fun K hK => ?_)
    | (refine SW.block ?_)
    | ((first
      | refine SW.region ?_
      | refine SW.regionD (Checked.mixed Tryd.checked) (by kernel_rfl) ?_
      | refine SW.cond ?_
      | refine SW.skip ?_
      | refine SW.exit ?_
      | refine SW.ret ?_
      | refine Call.of_pure (v) ?_
      | refine ⟨_, v, ?_⟩
      | (refine allF_i fun b hb => ?_; replace hD := And.intro hb hD; clear hb; simp only [fresh_cons, fresh_nil, and_true, ne_eq, neF] at hD)
      | simp only [appK, appOsK]); try simp only [go_sem, ↓reduceIte, reduceCtorEq, Nat.reduceAdd, Nat.reduceMul, Nat.reduceSub, Nat.reduceLT, Nat.reduceLeDiff, Nat.reduceEqDiff, Nat.reduceBEq, Nat.reduceBneDiff, Int.reduceToNat, Int.toNat_natCast, eq_self, decide_true, decide_false, Int.reduceEq, and_true, true_and, if_false_eq, if_true_eq, List.getElem?_cons_zero, List.getElem?_cons_succ, setAll, List.length_cons, List.length_nil, List.length_set, List.getD_cons_zero, List.getD_cons_succ, Nat.le_refl, Int.le_refl, Nat.beq_refl, or_self, true_or, or_true, List.drop_zero, hD, u1, tb])
    | (refine And.intro (by omega) ?_)
    | (refine ifI (fun hc => ?_) (fun hc => ?_) <;> first | (exfalso; omega) | skip)
    | (first | (apply hK; clear hK K) | (clear hK K; apply hK; clear hK K) | (clear hK K; clear hK K; apply hK; clear hK K) | (clear hK K; clear hK K; clear hK K; apply hK; clear hK K) | (clear hK K; clear hK K; clear hK K; clear hK K; apply hK; clear hK K) | (clear hK K; clear hK K; clear hK K; clear hK K; clear hK K; apply hK; clear hK K))
    | fail
  refine ret_pure ?_; simp only [resL_tmp, resL_nil, tupOf, go_sem, ↓reduceIte, reduceCtorEq, Nat.reduceAdd, Nat.reduceMul, Nat.reduceSub, Nat.reduceLT, Nat.reduceLeDiff, Nat.reduceEqDiff, Nat.reduceBEq, Nat.reduceBneDiff, Int.reduceToNat, Int.toNat_natCast, eq_self, decide_true, decide_false, Int.reduceEq, and_true, true_and, if_false_eq, if_true_eq, List.getElem?_cons_zero, List.getElem?_cons_succ, setAll, List.length_cons, List.length_nil, List.length_set, List.getD_cons_zero, List.getD_cons_succ, Nat.le_refl, Int.le_refl, Nat.beq_refl, or_self, true_or, or_true, List.drop_zero, hD]
  rfl
end Go.Proofs.YtpkdknfdhhgbgaaDoor
