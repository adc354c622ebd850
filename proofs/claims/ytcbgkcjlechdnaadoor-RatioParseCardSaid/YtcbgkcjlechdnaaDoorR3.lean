/- Contracts of the reference: division bit by bit. -/
import Derived.Test.YtcbgkcjlechdnaaDoorR2
import Derived.Test.YtcbgkcjlechdnaaDoorZ5
set_option linter.unusedSimpArgs false
set_option linter.unusedVariables false
set_option linter.unusedSectionVars false
namespace Go.Ab
open Go
/-- One bit of a number. -/
theorem bit_hi {a i : Nat} (h1 : 64 ≤ i) : a / 18446744073709551616 / 2 ^ (i % 64) = a / 2 ^ (64 + i % 64) := by
  rw [Nat.div_div_eq_div_mul, Nat.pow_add]
theorem bit_lo {a i : Nat} (h : i < 64) : a % 18446744073709551616 / 2 ^ i % 2 = a / 2 ^ i % 2 := by
  have e : 18446744073709551616 = 2 ^ i * (2 * 2 ^ (63 - i)) := by
    rw [← Nat.mul_assoc, ← Nat.pow_succ, ← Nat.pow_add, show i + 1 + (63 - i) = 64 by omega]
  rw [e, Nat.mod_mul_right_div_self, Nat.mod_mul_right_mod]
theorem fdiv_pow (x k : Nat) : Int.fdiv (x : Int) (2 ^ k) = ((x / 2 ^ k : Nat) : Int) := by
  rw [Int.fdiv_eq_ediv_of_nonneg _ (by exact Int.pow_nonneg (by decide))]
  rw [Int.natCast_ediv, Int.natCast_pow]; rfl
/-- One step of a division. -/
theorem div_step {A b q r t : Nat} (hb : 0 < b) (hq : q = A / b) (hr : r = A % b) (ht : t < 2) :
    (b ≤ 2 * r + t → (2 * A + t) / b = 2 * q + 1 ∧ (2 * A + t) % b = 2 * r + t - b) ∧ (2 * r + t < b → (2 * A + t) / b = 2 * q ∧ (2 * A + t) % b = 2 * r + t) := by
  have h0 : A = b * q + r := by rw [hq, hr]; exact (Nat.div_add_mod A b).symm
  have hlt : r < b := by rw [hr]; exact Nat.mod_lt _ hb
  have e2 : 2 * (b * q) = b * (2 * q) := by rw [Nat.mul_left_comm]
  refine ⟨fun h => ?_, fun h => ?_⟩
  · have e : 2 * A + t = (2 * r + t - b) + b * (2 * q + 1) := by rw [Nat.mul_add, Nat.mul_one]; omega
    rw [e, Nat.add_mul_div_left _ _ hb, Nat.add_mul_mod_self_left, Nat.div_eq_of_lt (by omega), Nat.mod_eq_of_lt (by omega)]
    omega
  · have e : 2 * A + t = (2 * r + t) + b * (2 * q) := by omega
    rw [e, Nat.add_mul_div_left _ _ hb, Nat.add_mul_mod_self_left, Nat.div_eq_of_lt h, Nat.mod_eq_of_lt h]
    omega
end Go.Ab
namespace Go.Proofs.YtcbgkcjlechdnaaDoor
open Go Go.Ab
variable [Gl]

set_option maxHeartbeats 4000000 in
theorem parts_r (a d : Nat) (ha : a < 340282366920938463463374607431768211456) (hd0 : 0 < d) (hd1 : d ≤ 170141183460469231731687303715884105728) : PCall Tryd.prog 45 [Wd a, Wd d] (.tup [Wd (a / d), Wd (a % d)]) := by
  have hd2 : d < 340282366920938463463374607431768211456 := by omega
  refine Call.enter' (N := 48) (rs := [.cell 4 48, .cell 5 48]) Tryd.func45 rfl rfl rfl (by decide) rfl ?_; simp only [argT]; have hD : (0 : Nat) = 0 := rfl
  repeat' first
    | (refine SW.seq_k fun K hK => ?_)
    | (refine SW.block ?_)
    | ((first
      | refine SW.region ?_
      | refine SW.regionD (Checked.mixed Tryd.checked) (by kernel_rfl) ?_
      | refine SW.cond ?_
      | refine SW.skip ?_
      | refine SW.exit ?_
      | refine SW.ret ?_
      | (refine allF_i fun b hb => ?_; replace hD := And.intro hb hD; clear hb; simp only [fresh_cons, fresh_nil, and_true, ne_eq, neF] at hD)
      | simp only [appK, appOsK]); try simp only [go_sem, ↓reduceIte, reduceCtorEq, Nat.reduceAdd, Nat.reduceMul, Nat.reduceSub, Nat.reduceLT, Nat.reduceLeDiff, Nat.reduceEqDiff, Nat.reduceBEq, Nat.reduceBneDiff, Int.reduceToNat, Int.toNat_natCast, eq_self, decide_true, decide_false, Int.reduceEq, and_true, true_and, if_false_eq, if_true_eq, List.getElem?_cons_zero, List.getElem?_cons_succ, setAll, List.length_cons, List.length_nil, List.length_set, List.getD_cons_zero, List.getD_cons_succ, Nat.le_refl, Int.le_refl, Nat.beq_refl, or_self, true_or, or_true, List.drop_zero, hD])
    | (refine And.intro (by omega) ?_)
    | (refine ifI (fun hc => ?_) (fun hc => ?_) <;> first | (exfalso; omega) | skip)
    | (first | (apply hK; clear hK K) | (clear hK K; apply hK; clear hK K) | (clear hK K; clear hK K; apply hK; clear hK K) | (clear hK K; clear hK K; clear hK K; apply hK; clear hK K) | (clear hK K; clear hK K; clear hK K; clear hK K; apply hK; clear hK K) | (clear hK K; clear hK K; clear hK K; clear hK K; clear hK K; apply hK; clear hK K))
    | fail
  rename_i b2 b3 b4 b5 b6
  obtain ⟨I, hI⟩ : ∃ I : Nat → St → Prop, ∀ n S, I n S ↔ (∃ (q r : Nat) (x1 x2 y1 y2 : Int), n ≤ 128 ∧ q = a / 2 ^ n / d ∧ r = a / 2 ^ n % d ∧ x1 = (q / 18446744073709551616 : Nat) ∧ x2 = (q % 18446744073709551616 : Nat) ∧ y1 = (r / 18446744073709551616 : Nat) ∧ y2 = (r % 18446744073709551616 : Nat) ∧
    S = ⟨[(8, I64 ((n : Int) - 1)), (2, .op b2 0), (3, .op b3 0), (4, .op b4 0), (5, .op b5 0), (6, .op b6 0), (7, .op b 0)], [(b, .svs [U64 y1, U64 y2]), (b6, .svs [U64 x1, U64 x2]), (b5, .svs [U64 0, U64 0]), (b4, .svs [U64 0, U64 0]), (b3, .svs [U64 (d / 18446744073709551616 : Nat), U64 (d % 18446744073709551616 : Nat)]), (b2, .svs [U64 (a / 18446744073709551616 : Nat), U64 (a % 18446744073709551616 : Nat)])]⟩) := ⟨fun n S => _, fun _ _ => Iff.rfl⟩
  have hz : a / 2 ^ 128 = 0 := Nat.div_eq_of_lt (Nat.lt_of_lt_of_le ha (by decide))
  refine SW.loop' I 128 ((hI _ _).2 ⟨0, 0, 0, 0, 0, 0, Nat.le_refl _, by rw [hz, Nat.zero_div], by rw [hz, Nat.zero_mod], rfl, rfl, rfl, rfl, rfl⟩) (by repeat' (first | exact rfl | exact trivial | exact int_eq (by omega) | exact int_eq (by (rw [i64_wrap] <;> omega)) | constructor)) ?_
  intro n S hIn
  obtain ⟨q, r, _, _, _, _, hn, hq, hr, rfl, rfl, rfl, rfl, rfl⟩ := (hI _ _).1 hIn
  clear hIn
  cases n with
  | zero =>
    repeat' first
      | (refine SW.seq_k fun K hK => ?_)
      | (refine SW.block ?_)
      | ((first
      | refine SW.region ?_
      | refine SW.cond ?_
      | refine SW.skip ?_
      | refine SW.exit ?_
      | refine SW.ret ?_
      | (refine allF_i fun b hb => ?_; replace hD := And.intro hb hD; clear hb; simp only [fresh_cons, fresh_nil, and_true, ne_eq, neF] at hD)
      | simp only [appK, appOsK]); try simp only [go_sem, ↓reduceIte, reduceCtorEq, Nat.reduceAdd, Nat.reduceMul, Nat.reduceSub, Nat.reduceLT, Nat.reduceLeDiff, Nat.reduceEqDiff, Nat.reduceBEq, Nat.reduceBneDiff, Int.reduceToNat, Int.toNat_natCast, eq_self, decide_true, decide_false, Int.reduceEq, and_true, true_and, if_false_eq, if_true_eq, List.getElem?_cons_zero, List.getElem?_cons_succ, setAll, List.length_cons, List.length_nil, List.length_set, List.getD_cons_zero, List.getD_cons_succ, Nat.le_refl, Int.le_refl, Nat.beq_refl, or_self, true_or, or_true, List.drop_zero, hD])
      | (refine And.intro (by omega) ?_)
      | (refine ifI (fun hc => ?_) (fun hc => ?_) <;> first | (exfalso; omega) | skip)
      | (first | (apply hK; clear hK K) | (clear hK K; apply hK; clear hK K) | (clear hK K; clear hK K; apply hK; clear hK K) | (clear hK K; clear hK K; clear hK K; apply hK; clear hK K) | (clear hK K; clear hK K; clear hK K; clear hK K; apply hK; clear hK K) | (clear hK K; clear hK K; clear hK K; clear hK K; clear hK K; apply hK; clear hK K))
      | fail
    refine SW.regionT (Checked.mixed Tryd.checked) ((.alt 0 (.alt 1 (.alt 2 (.alt 3 .done .nil) .nil) (.alt 2 (.alt 1 (.alt 3 .done .nil) .nil) .nil)) (.alt 1 (.alt 0 (.alt 2 (.alt 3 .done .nil) .nil) .nil) .nil)) : OT) (by kernel_rfl) ?_; simp only [go_sem, ↓reduceIte, reduceCtorEq, Nat.reduceAdd, Nat.reduceMul, Nat.reduceSub, Nat.reduceLT, Nat.reduceLeDiff, Nat.reduceEqDiff, Nat.reduceBEq, Nat.reduceBneDiff, Int.reduceToNat, Int.toNat_natCast, eq_self, decide_true, decide_false, Int.reduceEq, and_true, true_and, if_false_eq, if_true_eq, List.getElem?_cons_zero, List.getElem?_cons_succ, setAll, List.length_cons, List.length_nil, List.length_set, List.getD_cons_zero, List.getD_cons_succ, Nat.le_refl, Int.le_refl, Nat.beq_refl, or_self, true_or, or_true, List.drop_zero, hD]
    rw [Nat.pow_zero, Nat.div_one] at hq hr
    subst hq hr
    refine ⟨⟨?_, ?_⟩, ?_⟩
    all_goals
      repeat' first
        | (refine SW.seq_k fun K hK => ?_)
        | (refine SW.block ?_)
        | ((first
      | refine SW.region ?_
      | refine SW.regionD (Checked.mixed Tryd.checked) (by kernel_rfl) ?_
      | refine SW.cond ?_
      | refine SW.skip ?_
      | refine SW.exit ?_
      | refine SW.ret ?_
      | (refine allF_i fun b hb => ?_; replace hD := And.intro hb hD; clear hb; simp only [fresh_cons, fresh_nil, and_true, ne_eq, neF] at hD)
      | simp only [appK, appOsK]); try simp only [go_sem, ↓reduceIte, reduceCtorEq, Nat.reduceAdd, Nat.reduceMul, Nat.reduceSub, Nat.reduceLT, Nat.reduceLeDiff, Nat.reduceEqDiff, Nat.reduceBEq, Nat.reduceBneDiff, Int.reduceToNat, Int.toNat_natCast, eq_self, decide_true, decide_false, Int.reduceEq, and_true, true_and, if_false_eq, if_true_eq, List.getElem?_cons_zero, List.getElem?_cons_succ, setAll, List.length_cons, List.length_nil, List.length_set, List.getD_cons_zero, List.getD_cons_succ, Nat.le_refl, Int.le_refl, Nat.beq_refl, or_self, true_or, or_true, List.drop_zero, hD])
        | (refine And.intro (by omega) ?_)
        | (refine ifI (fun hc => ?_) (fun hc => ?_) <;> first | (exfalso; omega) | skip)
        | (first | (apply hK; clear hK K) | (clear hK K; apply hK; clear hK K) | (clear hK K; clear hK K; apply hK; clear hK K) | (clear hK K; clear hK K; clear hK K; apply hK; clear hK K) | (clear hK K; clear hK K; clear hK K; clear hK K; apply hK; clear hK K) | (clear hK K; clear hK K; clear hK K; clear hK K; clear hK K; apply hK; clear hK K))
        | fail
      apply ret_cell2 (i := 4) (n := 2) (j := 5) (m := 2); exact rfl; exact rfl; decide; (simp only [go_sem, ↓reduceIte, reduceCtorEq, Nat.reduceAdd, Nat.reduceMul, Nat.reduceSub, Nat.reduceLT, Nat.reduceLeDiff, Nat.reduceEqDiff, Nat.reduceBEq, Nat.reduceBneDiff, Int.reduceToNat, Int.toNat_natCast, eq_self, decide_true, decide_false, Int.reduceEq, and_true, true_and, if_false_eq, if_true_eq, List.getElem?_cons_zero, List.getElem?_cons_succ, setAll, List.length_cons, List.length_nil, List.length_set, List.getD_cons_zero, List.getD_cons_succ, Nat.le_refl, Int.le_refl, Nat.beq_refl, or_self, true_or, or_true, List.drop_zero, hD]; try rfl); (simp only [go_sem, ↓reduceIte, reduceCtorEq, Nat.reduceAdd, Nat.reduceMul, Nat.reduceSub, Nat.reduceLT, Nat.reduceLeDiff, Nat.reduceEqDiff, Nat.reduceBEq, Nat.reduceBneDiff, Int.reduceToNat, Int.toNat_natCast, eq_self, decide_true, decide_false, Int.reduceEq, and_true, true_and, if_false_eq, if_true_eq, List.getElem?_cons_zero, List.getElem?_cons_succ, setAll, List.length_cons, List.length_nil, List.length_set, List.getD_cons_zero, List.getD_cons_succ, Nat.le_refl, Int.le_refl, Nat.beq_refl, or_self, true_or, or_true, List.drop_zero, hD]; try rfl); (first | exact Nat.le_refl _ | decide); (first | exact Nat.le_refl _ | decide); simp only [resL_tmp, resL_cellE, resC_ok, resL_nil, tupOf, getN, go_sem, ↓reduceIte, reduceCtorEq, Nat.reduceAdd, Nat.reduceMul, Nat.reduceSub, Nat.reduceLT, Nat.reduceLeDiff, Nat.reduceEqDiff, Nat.reduceBEq, Nat.reduceBneDiff, Int.reduceToNat, Int.toNat_natCast, eq_self, decide_true, decide_false, Int.reduceEq, and_true, true_and, if_false_eq, if_true_eq, List.getElem?_cons_zero, List.getElem?_cons_succ, setAll, List.length_cons, List.length_nil, List.length_set, List.getD_cons_zero, List.getD_cons_succ, Nat.le_refl, Int.le_refl, Nat.beq_refl, or_self, true_or, or_true, List.drop_zero, hD]
  | succ i =>
    have e0 : ((i + 1 : Nat) : Int) - 1 = (i : Int) := by omega
    rw [e0]
    have hA : a / 2 ^ i = 2 * (a / 2 ^ (i + 1)) + a / 2 ^ i % 2 := by
      rw [Nat.pow_succ, ← Nat.div_div_eq_div_mul]; omega
    have hAle : a / 2 ^ (i + 1) ≤ a / 2 := Nat.div_le_div_left (by rw [Nat.pow_succ]; have := Nat.two_pow_pos i; omega) (by decide)
    have hqle : q ≤ a / 2 ^ (i + 1) := by rw [hq]; exact Nat.div_le_self _ _
    have hrlt : r < d := by rw [hr]; exact Nat.mod_lt _ hd0
    have hthi : 64 ≤ i → a / 18446744073709551616 / 2 ^ (i % 64) % 2 = a / 2 ^ i % 2 := fun h => by
      rw [bit_hi h, show 64 + i % 64 = i by omega]
    have htlo : i < 64 → a % 18446744073709551616 / 2 ^ (i % 64) % 2 = a / 2 ^ i % 2 := fun h => by
      rw [Nat.mod_eq_of_lt h, bit_lo h]
    have htb : a / 2 ^ i % 2 < 2 := Nat.mod_lt _ (by decide)
    generalize ht : a / 2 ^ i % 2 = t at hA hthi htlo htb
    obtain ⟨hs1, hs2⟩ := div_step (A := a / 2 ^ (i + 1)) hd0 hq hr htb
    rw [← hA] at hs1 hs2
    have em : Int.tmod (i : Int) 64 = ((i % 64 : Nat) : Int) := (Int.ofNat_tmod i 64).symm
    have emin : min (i % 64) 64 = i % 64 := Nat.min_eq_left (by have := Nat.mod_lt i (show 64 > 0 by decide); exact Nat.le_of_lt this)
    have er : ∀ X : Nat, Int.tmod (X : Int) 2 = ((X % 2 : Nat) : Int) := fun X => (Int.ofNat_tmod X 2).symm
    have eR1 : (r + r) % 340282366920938463463374607431768211456 / 18446744073709551616 = (2 * r + t) / 18446744073709551616 := by omega
    have eR2 : IntKind.u64.wrap (((r + r) % 340282366920938463463374607431768211456 % 18446744073709551616 : Nat) + (t : Int)) = ((2 * r + t) % 18446744073709551616 : Nat) := by rw [u64n] <;> omega
    have eQ : (q + q) % 340282366920938463463374607431768211456 = 2 * q := by omega
    have p1 := plus_r r r (by omega) (by omega)
    have p2 := plus_r q q (by omega) (by omega)
    rw [eQ] at p2
    have p3 := less_r (2 * r + t) d (by omega) hd2
    have fin : ∀ (q' r' : Nat) (x1 x2 y1 y2 : Int) (st : List (Nat × SV)), a / 2 ^ i / d = q' → a / 2 ^ i % d = r' → x1 = (q' / 18446744073709551616 : Nat) → x2 = (q' % 18446744073709551616 : Nat) → y1 = (r' / 18446744073709551616 : Nat) → y2 = (r' % 18446744073709551616 : Nat) →
        sub ⟨st, []⟩ [(8, I64 ((i : Int) - 1)), (2, .op b2 0), (3, .op b3 0), (4, .op b4 0), (5, .op b5 0), (6, .op b6 0), (7, .op b 0)] →
        Rnd I (i + 1) ⟨st, [(b, .svs [U64 y1, U64 y2]), (b6, .svs [U64 x1, U64 x2]), (b5, .svs [U64 0, U64 0]), (b4, .svs [U64 0, U64 0]), (b3, .svs [U64 (d / 18446744073709551616 : Nat), U64 (d % 18446744073709551616 : Nat)]), (b2, .svs [U64 (a / 18446744073709551616 : Nat), U64 (a % 18446744073709551616 : Nat)])]⟩ := fun q' r' x1 x2 y1 y2 st h1 h2 h3 h4 h5 h6 hsub =>
      Rnd.sub i (by omega) ((hI _ _).2 ⟨q', r', x1, x2, y1, y2, by omega, h1.symm, h2.symm, h3, h4, h5, h6, rfl⟩) hsub
    have ei : IntKind.i64.wrap ((i : Int) - 1) = (i : Int) - 1 := i64_wrap (by omega) (by omega)
    by_cases h64 : 64 ≤ i
    · have et := hthi h64
      repeat' first
        | (refine SW.seq_k fun K hK => ?_)
        | (refine SW.block ?_)
        | ((first
      | refine SW.region ?_
      | refine SW.regionD (Checked.mixed Tryd.checked) (by kernel_rfl) ?_
      | refine SW.cond ?_
      | refine SW.skip ?_
      | refine SW.exit ?_
      | refine SW.ret ?_
      | refine Call.of_pure (p1) ?_
      | refine ⟨_, p1, ?_⟩
      | refine Call.of_pure (p2) ?_
      | refine ⟨_, p2, ?_⟩
      | refine Call.of_pure (p3) ?_
      | refine ⟨_, p3, ?_⟩
      | (refine allF_i fun b hb => ?_; replace hD := And.intro hb hD; clear hb; simp only [fresh_cons, fresh_nil, and_true, ne_eq, neF] at hD)
      | simp only [appK, appOsK]); try simp only [go_sem, ↓reduceIte, reduceCtorEq, Nat.reduceAdd, Nat.reduceMul, Nat.reduceSub, Nat.reduceLT, Nat.reduceLeDiff, Nat.reduceEqDiff, Nat.reduceBEq, Nat.reduceBneDiff, Int.reduceToNat, Int.toNat_natCast, eq_self, decide_true, decide_false, Int.reduceEq, and_true, true_and, if_false_eq, if_true_eq, List.getElem?_cons_zero, List.getElem?_cons_succ, setAll, List.length_cons, List.length_nil, List.length_set, List.getD_cons_zero, List.getD_cons_succ, Nat.le_refl, Int.le_refl, Nat.beq_refl, or_self, true_or, or_true, List.drop_zero, hD, em, emin, er, eR1, eR2, eQ, fdiv_pow, et, ei])
        | (refine And.intro (by omega) ?_)
        | (refine ifI (fun hc => ?_) (fun hc => ?_) <;> first | (exfalso; omega) | skip)
        | (first | (apply hK; clear hK K) | (clear hK K; apply hK; clear hK K) | (clear hK K; clear hK K; apply hK; clear hK K) | (clear hK K; clear hK K; clear hK K; apply hK; clear hK K) | (clear hK K; clear hK K; clear hK K; clear hK K; apply hK; clear hK K) | (clear hK K; clear hK K; clear hK K; clear hK K; clear hK K; apply hK; clear hK K))
        | fail
      · have hle : d ≤ 2 * r + t := by omega
        have p4 := minus_r (2 * r + t) d (by omega) hd2 hle
        refine Call.of_pure p4 ?_
        try simp only [go_sem, ↓reduceIte, reduceCtorEq, Nat.reduceAdd, Nat.reduceMul, Nat.reduceSub, Nat.reduceLT, Nat.reduceLeDiff, Nat.reduceEqDiff, Nat.reduceBEq, Nat.reduceBneDiff, Int.reduceToNat, Int.toNat_natCast, eq_self, decide_true, decide_false, Int.reduceEq, and_true, true_and, if_false_eq, if_true_eq, List.getElem?_cons_zero, List.getElem?_cons_succ, setAll, List.length_cons, List.length_nil, List.length_set, List.getD_cons_zero, List.getD_cons_succ, Nat.le_refl, Int.le_refl, Nat.beq_refl, or_self, true_or, or_true, List.drop_zero, hD, ei]
        repeat' first
          | (refine SW.seq_k fun K hK => ?_)
          | (refine SW.block ?_)
          | ((first
      | refine SW.region ?_
      | refine SW.regionD (Checked.mixed Tryd.checked) (by kernel_rfl) ?_
      | refine SW.cond ?_
      | refine SW.skip ?_
      | refine SW.exit ?_
      | refine SW.ret ?_
      | (refine allF_i fun b hb => ?_; replace hD := And.intro hb hD; clear hb; simp only [fresh_cons, fresh_nil, and_true, ne_eq, neF] at hD)
      | simp only [appK, appOsK]); try simp only [go_sem, ↓reduceIte, reduceCtorEq, Nat.reduceAdd, Nat.reduceMul, Nat.reduceSub, Nat.reduceLT, Nat.reduceLeDiff, Nat.reduceEqDiff, Nat.reduceBEq, Nat.reduceBneDiff, Int.reduceToNat, Int.toNat_natCast, eq_self, decide_true, decide_false, Int.reduceEq, and_true, true_and, if_false_eq, if_true_eq, List.getElem?_cons_zero, List.getElem?_cons_succ, setAll, List.length_cons, List.length_nil, List.length_set, List.getD_cons_zero, List.getD_cons_succ, Nat.le_refl, Int.le_refl, Nat.beq_refl, or_self, true_or, or_true, List.drop_zero, hD, ei])
          | (refine And.intro (by omega) ?_)
          | (refine ifI (fun hc => ?_) (fun hc => ?_) <;> first | (exfalso; omega) | skip)
          | (first | (apply hK; clear hK K) | (clear hK K; apply hK; clear hK K) | (clear hK K; clear hK K; apply hK; clear hK K) | (clear hK K; clear hK K; clear hK K; apply hK; clear hK K) | (clear hK K; clear hK K; clear hK K; clear hK K; apply hK; clear hK K) | (clear hK K; clear hK K; clear hK K; clear hK K; clear hK K; apply hK; clear hK K))
          | fail
        exact fin _ _ _ _ _ _ _ (hs1 hle).1 (hs1 hle).2 (by omega) (by first | omega | (rw [u64n] <;> omega)) (by omega) (by omega) (by repeat' (first | exact rfl | exact trivial | exact int_eq (by omega) | exact int_eq (by (rw [i64_wrap] <;> omega)) | constructor))
      · have hlt : 2 * r + t < d := by omega
        exact fin _ _ _ _ _ _ _ (hs2 hlt).1 (hs2 hlt).2 (by omega) (by omega) (by omega) (by omega) (by repeat' (first | exact rfl | exact trivial | exact int_eq (by omega) | exact int_eq (by (rw [i64_wrap] <;> omega)) | constructor))
    · have et := htlo (by omega)
      repeat' first
        | (refine SW.seq_k fun K hK => ?_)
        | (refine SW.block ?_)
        | ((first
      | refine SW.region ?_
      | refine SW.regionD (Checked.mixed Tryd.checked) (by kernel_rfl) ?_
      | refine SW.cond ?_
      | refine SW.skip ?_
      | refine SW.exit ?_
      | refine SW.ret ?_
      | refine Call.of_pure (p1) ?_
      | refine ⟨_, p1, ?_⟩
      | refine Call.of_pure (p2) ?_
      | refine ⟨_, p2, ?_⟩
      | refine Call.of_pure (p3) ?_
      | refine ⟨_, p3, ?_⟩
      | (refine allF_i fun b hb => ?_; replace hD := And.intro hb hD; clear hb; simp only [fresh_cons, fresh_nil, and_true, ne_eq, neF] at hD)
      | simp only [appK, appOsK]); try simp only [go_sem, ↓reduceIte, reduceCtorEq, Nat.reduceAdd, Nat.reduceMul, Nat.reduceSub, Nat.reduceLT, Nat.reduceLeDiff, Nat.reduceEqDiff, Nat.reduceBEq, Nat.reduceBneDiff, Int.reduceToNat, Int.toNat_natCast, eq_self, decide_true, decide_false, Int.reduceEq, and_true, true_and, if_false_eq, if_true_eq, List.getElem?_cons_zero, List.getElem?_cons_succ, setAll, List.length_cons, List.length_nil, List.length_set, List.getD_cons_zero, List.getD_cons_succ, Nat.le_refl, Int.le_refl, Nat.beq_refl, or_self, true_or, or_true, List.drop_zero, hD, em, emin, er, eR1, eR2, eQ, fdiv_pow, et, ei])
        | (refine And.intro (by omega) ?_)
        | (refine ifI (fun hc => ?_) (fun hc => ?_) <;> first | (exfalso; omega) | skip)
        | (first | (apply hK; clear hK K) | (clear hK K; apply hK; clear hK K) | (clear hK K; clear hK K; apply hK; clear hK K) | (clear hK K; clear hK K; clear hK K; apply hK; clear hK K) | (clear hK K; clear hK K; clear hK K; clear hK K; apply hK; clear hK K) | (clear hK K; clear hK K; clear hK K; clear hK K; clear hK K; apply hK; clear hK K))
        | fail
      · have hle : d ≤ 2 * r + t := by omega
        have p4 := minus_r (2 * r + t) d (by omega) hd2 hle
        refine Call.of_pure p4 ?_
        try simp only [go_sem, ↓reduceIte, reduceCtorEq, Nat.reduceAdd, Nat.reduceMul, Nat.reduceSub, Nat.reduceLT, Nat.reduceLeDiff, Nat.reduceEqDiff, Nat.reduceBEq, Nat.reduceBneDiff, Int.reduceToNat, Int.toNat_natCast, eq_self, decide_true, decide_false, Int.reduceEq, and_true, true_and, if_false_eq, if_true_eq, List.getElem?_cons_zero, List.getElem?_cons_succ, setAll, List.length_cons, List.length_nil, List.length_set, List.getD_cons_zero, List.getD_cons_succ, Nat.le_refl, Int.le_refl, Nat.beq_refl, or_self, true_or, or_true, List.drop_zero, hD, ei]
        repeat' first
          | (refine SW.seq_k fun K hK => ?_)
          | (refine SW.block ?_)
          | ((first
      | refine SW.region ?_
      | refine SW.regionD (Checked.mixed Tryd.checked) (by kernel_rfl) ?_
      | refine SW.cond ?_
      | refine SW.skip ?_
      | refine SW.exit ?_
      | refine SW.ret ?_
      | (refine allF_i fun b hb => ?_; replace hD := And.intro hb hD; clear hb; simp only [fresh_cons, fresh_nil, and_true, ne_eq, neF] at hD)
      | simp only [appK, appOsK]); try simp only [go_sem, ↓reduceIte, reduceCtorEq, Nat.reduceAdd, Nat.reduceMul, Nat.reduceSub, Nat.reduceLT, Nat.reduceLeDiff, Nat.reduceEqDiff, Nat.reduceBEq, Nat.reduceBneDiff, Int.reduceToNat, Int.toNat_natCast, eq_self, decide_true, decide_false, Int.reduceEq, and_true, true_and, if_false_eq, if_true_eq, List.getElem?_cons_zero, List.getElem?_cons_succ, setAll, List.length_cons, List.length_nil, List.length_set, List.getD_cons_zero, List.getD_cons_succ, Nat.le_refl, Int.le_refl, Nat.beq_refl, or_self, true_or, or_true, List.drop_zero, hD, ei])
          | (refine And.intro (by omega) ?_)
          | (refine ifI (fun hc => ?_) (fun hc => ?_) <;> first | (exfalso; omega) | skip)
          | (first | (apply hK; clear hK K) | (clear hK K; apply hK; clear hK K) | (clear hK K; clear hK K; apply hK; clear hK K) | (clear hK K; clear hK K; clear hK K; apply hK; clear hK K) | (clear hK K; clear hK K; clear hK K; clear hK K; apply hK; clear hK K) | (clear hK K; clear hK K; clear hK K; clear hK K; clear hK K; apply hK; clear hK K))
          | fail
        exact fin _ _ _ _ _ _ _ (hs1 hle).1 (hs1 hle).2 (by omega) (by first | omega | (rw [u64n] <;> omega)) (by omega) (by omega) (by repeat' (first | exact rfl | exact trivial | exact int_eq (by omega) | exact int_eq (by (rw [i64_wrap] <;> omega)) | constructor))
      · have hlt : 2 * r + t < d := by omega
        exact fin _ _ _ _ _ _ _ (hs2 hlt).1 (hs2 hlt).2 (by omega) (by omega) (by omega) (by omega) (by repeat' (first | exact rfl | exact trivial | exact int_eq (by omega) | exact int_eq (by (rw [i64_wrap] <;> omega)) | constructor))
end Go.Proofs.YtcbgkcjlechdnaaDoor
