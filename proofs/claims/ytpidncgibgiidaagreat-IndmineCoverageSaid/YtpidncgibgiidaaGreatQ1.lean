/- Several texts in one: NR, YA, YB, YC, R1, G1, G2, G3, A0, P1. -/
import Derived.Test.YtpidncgibgiidaaGreatB1
import Derived.Test.YtpidncgibgiidaaGreatZ5
import Derived.Test.YtpidncgibgiidaaGreatZ7
import Derived.Laws.Externs
import Derived.Shelf.Spec.BitsCarry
import Derived.Test.YtpidncgibgiidaaGreatZ8
import Derived.Test.YtpidncgibgiidaaGreatZ13
import Derived.Test.YtpidncgibgiidaaGreatZ11
import Derived.Test.YtpidncgibgiidaaGreatZ9
set_option linter.unusedSimpArgs false
set_option linter.unusedVariables false
set_option linter.unusedSectionVars false
set_option maxRecDepth 20000
set_option maxHeartbeats 4000000
namespace Go.Ab
open Go
abbrev FR (x : Int × Int × Int) : SV := .tup [.agg [I64 x.1, I64 x.2.1], I64 x.2.2]
def ofR (neg : Bool) (n d : Nat) : Int × Int × Int := if n ≤ 9223372036854775807 ∧ d ≤ 9223372036854775807 then (if neg = true then -(n : Int) else n, d, 0) else (0, 0, 7)
def bldR (neg : Bool) (n d : Nat) : Int × Int × Int := ofR neg (n / Nat.gcd n d) (d / Nat.gcd n d)
def mkR (num den : Int) : Int × Int × Int := if den = 0 then (0, 0, 8) else bldR (!(decide (num < 0) == decide (den < 0))) num.natAbs den.natAbs
end Go.Ab
namespace Go.Proofs.YtpidncgibgiidaaGreat
open Go Go.Ab
variable [Gl]
theorem abs_p (n : Int) (h0 : -9223372036854775808 ≤ n) (h1 : n ≤ 9223372036854775807) : PCall Tryz.prog 109 [I64 n] (U64 n.natAbs) := by
  refine Call.enter' (N := 10) (rs := [.tmp 2]) Tryz.func109 rfl rfl rfl (by decide) rfl ?_; simp only [argT]; have hD : (0 : Nat) = 0 := rfl
  repeat' first | (refine SW.seq_k fun K hK => ?_) | ((first | refine SW.region ?_ | refine SW.cond ?_ | refine SW.skip ?_ | refine SW.ret ?_); try simp only [go_sem, hD]) | (refine ifI (fun hc => ?_) (fun hc => ?_) <;> first | (exfalso; omega) | skip) | (apply hK; clear hK K)
  · refine ret_pure ?_; simp only [resL_tmp, resL_nil, tupOf, go_sem, hD]
    rw [absw_neg h0 (by omega)]
  · refine ret_pure ?_; simp only [resL_tmp, resL_nil, tupOf, go_sem, hD]
    rw [absw_pos (by omega) h1]
theorem gcd_p (a b : Nat) (ha : a < 18446744073709551616) (hb : b < 18446744073709551616) : PCall Tryz.prog 110 [U64 a, U64 b] (U64 (Nat.gcd a b)) := by
  refine Call.enter' (N := 12) (rs := [.tmp 4]) Tryz.func110 rfl rfl rfl (by decide) rfl ?_; simp only [argT]; have hD : (0 : Nat) = 0 := rfl
  repeat' first | (refine SW.seq_k fun K hK => ?_) | (refine SW.block ?_) | (refine SW.region ?_; try simp only [go_sem, hD]) | (apply hK; clear hK K)
  obtain ⟨I, hI⟩ : ∃ I : Nat → St → Prop, ∀ n S, I n S ↔ (∃ (x : Nat), x < 18446744073709551616 ∧ n < 18446744073709551616 ∧ Nat.gcd x n = Nat.gcd a b ∧ S = ⟨[(0, U64 x), (1, U64 n)], []⟩) := ⟨fun n S => _, fun _ _ => Iff.rfl⟩
  refine SW.loop' I b ((hI _ _).2 ⟨a, ha, hb, rfl, rfl⟩) (by repeat' (first | exact rfl | exact trivial | constructor)) ?_
  intro n S hIn
  obtain ⟨x, hx, hn, hg, rfl⟩ := (hI _ _).1 hIn
  clear hIn
  repeat' first | (refine SW.seq_k fun K hK => ?_) | ((first | refine SW.region ?_ | refine SW.cond ?_); try simp only [go_sem, hD]) | (apply hK; clear hK K)
  refine ifI (fun hc => ?_) (fun hc => ?_)
  · have e : Int.tmod (x : Int) (n : Int) = ((x % n : Nat) : Int) := (Int.ofNat_tmod x n).symm
    repeat' first | (with_reducible refine And.intro (by omega) ?_) | (refine SW.block ?_) | ((first | refine SW.regionD (Checked.mixed Tryz.checked) (by kernel_rfl) ?_ | refine SW.skip ?_); try simp only [go_sem, hD, e]) | (apply hK; clear hK K)
    refine Rnd.sub (x % n) (Nat.mod_lt _ (by omega)) ((hI _ _).2 ⟨n, hn, Nat.lt_of_lt_of_le (Nat.mod_lt _ (by omega)) (by omega), ?_, rfl⟩) (by repeat' (first | exact rfl | exact trivial | constructor))
    rw [← hg, Nat.gcd_comm, ← Nat.gcd_rec, Nat.gcd_comm]
  · repeat' first | (refine SW.seq_k fun K hK => ?_) | ((first | refine SW.region ?_ | refine SW.exit ?_ | refine SW.ret ?_); try simp only [go_sem, hD]) | (apply hK; clear hK K) | (clear hK K; apply hK; clear hK K)
    refine ret_pure ?_; simp only [resL_tmp, resL_nil, tupOf, go_sem, hD]
    obtain rfl : n = 0 := by omega
    rw [← hg, Nat.gcd_zero_right]
theorem rof_p (neg : Bool) (n d : Nat) (hn : n < 18446744073709551616) (hd : d < 18446744073709551616) : PCall Tryz.prog 111 [SB neg, U64 n, U64 d]
    (if n ≤ 9223372036854775807 ∧ d ≤ 9223372036854775807 then .tup [.agg [I64 (if neg then -(n : Int) else n), I64 d], I64 0] else .tup [.agg [I64 0, I64 0], I64 7]) := by
  refine Call.enter' (N := 27) (rs := [.cell 6 61, .tmp 7]) Tryz.func111 rfl rfl rfl (by decide) rfl ?_; simp only [argT]; have hD : (0 : Nat) = 0 := rfl
  repeat' first | (refine SW.seq_k fun K hK => ?_) | ((first | refine SW.region ?_ | refine SW.cond ?_ | refine SW.skip ?_ | refine SW.ret ?_ | (refine allF_i fun b hb => ?_; replace hD := And.intro hb hD; clear hb; try simp only [fresh_cons, fresh_nil, and_true, ne_eq, neF] at hD)); try simp only [go_sem, hD]) | (refine ifI (fun hc => ?_) (fun hc => ?_) <;> first | (exfalso; omega) | skip) | (apply hK; clear hK K)
  · apply ret_cell (i := 6) (n := 2); exact rfl; (simp only [go_sem, hD]; try rfl); (first | exact Nat.le_refl _ | decide); simp only [resL_tmp, resL_cellE, resC_ok, resL_nil, tupOf, getN, go_sem, hD]
    rw [if_neg (by omega)]
  · apply ret_cell (i := 6) (n := 2); exact rfl; (simp only [go_sem, hD]; try rfl); (first | exact Nat.le_refl _ | decide); simp only [resL_tmp, resL_cellE, resC_ok, resL_nil, tupOf, getN, go_sem, hD]
    rw [if_neg (by omega)]
  · apply ret_cell (i := 6) (n := 2); exact rfl; (simp only [go_sem, hD]; try rfl); (first | exact Nat.le_refl _ | decide); simp only [resL_tmp, resL_cellE, resC_ok, resL_nil, tupOf, getN, go_sem, hD]
    rw [if_pos (by omega), if_pos (by assumption)]
    have e : IntKind.i64.wrap (n : Int) = n := i64_wrap (by omega) (by omega)
    rw [e, i64_wrap (n := (d : Int)) (by omega) (by omega), i64_wrap (by omega) (by omega), Int.zero_sub]
  · apply ret_cell (i := 6) (n := 2); exact rfl; (simp only [go_sem, hD]; try rfl); (first | exact Nat.le_refl _ | decide); simp only [resL_tmp, resL_cellE, resC_ok, resL_nil, tupOf, getN, go_sem, hD]
    rw [if_pos (by omega), if_neg (by assumption), i64_wrap (by omega) (by omega), i64_wrap (by omega) (by omega)]
theorem rof_f (neg : Bool) (n d : Nat) (hn : n < 18446744073709551616) (hd : d < 18446744073709551616) : PCall Tryz.prog 111 [SB neg, U64 n, U64 d] (FR (ofR neg n d)) := by
  have h := rof_p neg n d hn hd
  unfold ofR
  split at h
  · rw [if_pos (by assumption)]; exact h
  · rw [if_neg (by assumption)]; exact h
theorem quo_u64 (x g : Nat) (hx : x < 18446744073709551616) : IntKind.u64.wrap (Int.tdiv (x : Int) (g : Int)) = ((x / g : Nat) : Int) := by
  have := Nat.div_le_self x g
  rw [← Int.ofNat_tdiv]
  generalize x / g = y at this ⊢
  exact u64n (by omega) (by omega)
theorem make_p (num den : Int) (h0 : -9223372036854775808 ≤ num) (h1 : num ≤ 9223372036854775807) (h2 : -9223372036854775808 ≤ den) (h3 : den ≤ 9223372036854775807) : PCall Tryz.prog 70 [I64 num, I64 den] (FR (mkR num den)) := by
  have hg := gcd_p num.natAbs den.natAbs (by omega) (by omega)
  have a1 := abs_p num h0 h1
  have a2 := abs_p den h2 h3
  have ho := rof_f (!(decide (num < 0) == decide (den < 0))) (num.natAbs / Nat.gcd num.natAbs den.natAbs) (den.natAbs / Nat.gcd num.natAbs den.natAbs) (Nat.lt_of_le_of_lt (Nat.div_le_self _ _) (by omega)) (Nat.lt_of_le_of_lt (Nat.div_le_self _ _) (by omega))
  refine Call.enter' (N := 33) (rs := [.cell 4 61, .tmp 5]) Tryz.func70 rfl rfl rfl (by decide) rfl ?_; simp only [argT]; have hD : (0 : Nat) = 0 := rfl
  by_cases hz : den = 0
  · repeat' first | (refine SW.seq_k fun K hK => ?_) | ((first | refine SW.region ?_ | refine SW.cond ?_ | refine SW.ret ?_ | (refine allF_i fun b hb => ?_; replace hD := And.intro hb hD; clear hb; try simp only [fresh_cons, fresh_nil, and_true, ne_eq, neF] at hD)); try simp only [go_sem, hD]) | (refine ifI (fun hc => ?_) (fun hc => ?_) <;> first | (exfalso; omega) | skip) | (apply hK; clear hK K)
    apply ret_cell (i := 4) (n := 2); exact rfl; (simp only [go_sem, hD]; try rfl); (first | exact Nat.le_refl _ | decide); simp only [resL_tmp, resL_cellE, resC_ok, resL_nil, tupOf, getN, go_sem, hD]
    rw [mkR, if_pos hz]
  · have hgp : 0 < Nat.gcd num.natAbs den.natAbs := Nat.gcd_pos_of_pos_right _ (by omega)
    have hm : mkR num den = ofR (!(decide (num < 0) == decide (den < 0))) (num.natAbs / Nat.gcd num.natAbs den.natAbs) (den.natAbs / Nat.gcd num.natAbs den.natAbs) := by rw [mkR, if_neg hz]; rfl
    rw [hm]
    clear hm
    generalize hgg : Nat.gcd num.natAbs den.natAbs = g at hg ho hgp
    have e1 := quo_u64 num.natAbs g (by omega)
    have e2 := quo_u64 den.natAbs g (by omega)
    have hgn : ¬ ((g : Nat) : Int) = 0 := by omega
    repeat' first | (with_reducible refine And.intro (by omega) ?_) | (refine SW.seq_k fun K hK => ?_) | ((first | refine SW.region ?_ | refine SW.regionD (Checked.mixed Tryz.checked) (by kernel_rfl) ?_ | refine SW.cond ?_ | refine SW.skip ?_ | refine SW.ret ?_ | refine Call.of_pure (a1) ?_ | refine Call.of_pure (a2) ?_ | refine Call.of_pure (hg) ?_ | refine ⟨_, ho, ?_⟩ | (refine allF_i fun b hb => ?_; replace hD := And.intro hb hD; clear hb; try simp only [fresh_cons, fresh_nil, and_true, ne_eq, neF] at hD)); try simp only [go_sem, hD, e1, e2]) | (refine ifI (fun hc => ?_) (fun hc => ?_) <;> first | (exfalso; omega) | skip) | (apply hK; clear hK K)
    apply ret_cell (i := 4) (n := 2); exact rfl; (simp only [go_sem, hD]; try rfl); (first | exact Nat.le_refl _ | decide); simp only [resL_tmp, resL_cellE, resC_ok, resL_nil, tupOf, getN, go_sem, hD]
end Go.Proofs.YtpidncgibgiidaaGreat
namespace Go.Ab
open Go
abbrev Wd (x : Nat) : SV := .agg [U64 (x / 18446744073709551616 : Nat), U64 (x % 18446744073709551616 : Nat)]
theorem Wd_eq {a b : Int} {x : Nat} (h1 : a = (x / 18446744073709551616 : Nat)) (h2 : b = (x % 18446744073709551616 : Nat)) : SV.agg [U64 a, U64 b] = Wd x := by rw [h1, h2]
end Go.Ab
namespace Go.Proofs.YtpidncgibgiidaaGreat
open Go Go.Ab
variable [Gl]
theorem add64 (x y c : Nat) (hc : c ≤ 1) : PCall Tryz.prog 203 [U64 x, U64 y, U64 c] (.tup [U64 ((x + y + c) % 18446744073709551616 : Nat), U64 ((x + y + c) / 18446744073709551616 : Nat)]) := by
  refine PCall.native fun E w vs hr => ?_
  obtain rfl := reps3 hr
  refine ⟨_, ?_, fun E' => rep_tup2 _ _⟩
  rw [run_callFunc_extern Tryz.func203 (by kernel_rfl) (by kernel_rfl) (by kernel_rfl) (e := add64Entry) (by kernel_rfl), run_add64 x y c (by omega) (by omega) (by omega) (by omega)]
  simp only [Result.andThen]
  congr 5 <;> omega
theorem sub64 (x y b : Nat) (hb : b ≤ 1) : PCall Tryz.prog 204 [U64 x, U64 y, U64 b] (.tup [U64 ((x + 18446744073709551616 - y - b) % 18446744073709551616 : Nat), U64 (if x < y + b then 1 else 0 : Nat)]) := by
  refine PCall.native fun E w vs hr => ?_
  obtain rfl := reps3 hr
  refine ⟨_, ?_, fun E' => rep_tup2 _ _⟩
  rw [run_callFunc_extern Tryz.func204 (by kernel_rfl) (by kernel_rfl) (by kernel_rfl) (e := sub64Entry) (by kernel_rfl), run_sub64 x y b hb]
  rfl
theorem plus_r (x y : Nat) (hx : x < 340282366920938463463374607431768211456) (hy : y < 340282366920938463463374607431768211456) : PCall Tryz.prog 190 [Wd x, Wd y] (Wd ((x + y) % 340282366920938463463374607431768211456)) := by
  refine Call.enter' (N := 29) (rs := [.cell 4 158]) Tryz.func190 rfl rfl rfl (by decide) rfl ?_; simp only [argT]; have hD : (0 : Nat) = 0 := rfl
  have a1 := add64 (x % 18446744073709551616) (y % 18446744073709551616) 0 (by omega)
  have a2 := add64 (x / 18446744073709551616) (y / 18446744073709551616) ((x % 18446744073709551616 + y % 18446744073709551616 + 0) / 18446744073709551616) (by omega)
  repeat' first | (refine SW.seq_k fun K hK => ?_) | ((first | refine SW.region ?_ | refine SW.ret ?_ | refine Call.of_pure (a1) ?_ | refine Call.of_pure (a2) ?_ | (refine allF_i fun b hb => ?_; replace hD := And.intro hb hD; clear hb; try simp only [fresh_cons, fresh_nil, and_true, ne_eq, neF] at hD)); try simp only [go_sem, hD]) | (apply hK; clear hK K)
  apply ret_cell (i := 4) (n := 2); exact rfl; (simp only [go_sem, hD]; try rfl); (first | exact Nat.le_refl _ | decide); simp only [resL_tmp, resL_cellE, resC_ok, resL_nil, tupOf, getN, go_sem, hD]
  exact Wd_eq (by omega) (by omega)
theorem minus_r (x y : Nat) (hx : x < 340282366920938463463374607431768211456) (hy : y < 340282366920938463463374607431768211456) (hle : y ≤ x) : PCall Tryz.prog 191 [Wd x, Wd y] (Wd (x - y)) := by
  refine Call.enter' (N := 29) (rs := [.cell 4 158]) Tryz.func191 rfl rfl rfl (by decide) rfl ?_; simp only [argT]; have hD : (0 : Nat) = 0 := rfl
  have a1 := sub64 (x % 18446744073709551616) (y % 18446744073709551616) 0 (by omega)
  have a2 := sub64 (x / 18446744073709551616) (y / 18446744073709551616) (if x % 18446744073709551616 < y % 18446744073709551616 + 0 then 1 else 0) (by split <;> omega)
  repeat' first | (refine SW.seq_k fun K hK => ?_) | ((first | refine SW.region ?_ | refine SW.ret ?_ | refine Call.of_pure (a1) ?_ | refine Call.of_pure (a2) ?_ | (refine allF_i fun b hb => ?_; replace hD := And.intro hb hD; clear hb; try simp only [fresh_cons, fresh_nil, and_true, ne_eq, neF] at hD)); try simp only [go_sem, hD]) | (apply hK; clear hK K)
  apply ret_cell (i := 4) (n := 2); exact rfl; (simp only [go_sem, hD]; try rfl); (first | exact Nat.le_refl _ | decide); simp only [resL_tmp, resL_cellE, resC_ok, resL_nil, tupOf, getN, go_sem, hD]
  exact Wd_eq (by split <;> omega) (by omega)
theorem lessW_r (x y : Nat) (hx : x < 340282366920938463463374607431768211456) (hy : y < 340282366920938463463374607431768211456) : PCall Tryz.prog 162 [Wd x, Wd y] (SB (decide (x < y))) := by
  refine Call.enter' (N := 24) (rs := [.tmp 4]) Tryz.func162 rfl rfl rfl (by decide) rfl ?_; simp only [argT]; have hD : (0 : Nat) = 0 := rfl
  repeat' first | (refine SW.seq_k fun K hK => ?_) | ((first | refine SW.region ?_ | refine SW.ret ?_ | (refine allF_i fun b hb => ?_; replace hD := And.intro hb hD; clear hb; try simp only [fresh_cons, fresh_nil, and_true, ne_eq, neF] at hD)); try simp only [go_sem, hD]) | (refine ifI (fun hc => ?_) (fun hc => ?_) <;> first | (exfalso; omega) | skip) | (apply hK; clear hK K)
  all_goals
    refine ret_pure ?_; simp only [resL_tmp, resL_nil, tupOf, go_sem, hD]
    refine bool_eq ?_
    first
      | (rw [decide_eq_decide]; omega)
      | (symm; rw [decide_eq_true_eq]; omega)
      | (symm; rw [decide_eq_false_iff_not]; omega)
theorem size_r (n : Int) (h0 : -9223372036854775808 ≤ n) (h1 : n ≤ 9223372036854775807) : PCall Tryz.prog 125 [I64 n] (.agg [U64 0, U64 n.natAbs]) := by
  refine Call.enter' (N := 12) (rs := [.cell 2 158]) Tryz.func125 rfl rfl rfl (by decide) rfl ?_; simp only [argT]; have hD : (0 : Nat) = 0 := rfl
  repeat' first | (refine SW.seq_k fun K hK => ?_) | ((first | refine SW.region ?_ | refine SW.cond ?_ | refine SW.skip ?_ | refine SW.ret ?_ | (refine allF_i fun b hb => ?_; replace hD := And.intro hb hD; clear hb; try simp only [fresh_cons, fresh_nil, and_true, ne_eq, neF] at hD)); try simp only [go_sem, hD]) | (refine ifI (fun hc => ?_) (fun hc => ?_) <;> first | (exfalso; omega) | skip) | (apply hK; clear hK K)
  · apply ret_cell (i := 2) (n := 2); exact rfl; (simp only [go_sem, hD]; try rfl); (first | exact Nat.le_refl _ | decide); simp only [resL_tmp, resL_cellE, resC_ok, resL_nil, tupOf, getN, go_sem, hD]
    rw [absw_neg h0 (by omega)]
  · apply ret_cell (i := 2) (n := 2); exact rfl; (simp only [go_sem, hD]; try rfl); (first | exact Nat.le_refl _ | decide); simp only [resL_tmp, resL_cellE, resC_ok, resL_nil, tupOf, getN, go_sem, hD]
    rw [absw_pos (by omega) h1]
theorem zero_r (x : Nat) (hx : x < 340282366920938463463374607431768211456) : PCall Tryz.prog 160 [Wd x] (SB (decide (x = 0))) := by
  refine Call.enter' (N := 11) (rs := [.tmp 2]) Tryz.func160 rfl rfl rfl (by decide) rfl ?_; simp only [argT]; have hD : (0 : Nat) = 0 := rfl
  repeat' first | (refine SW.seq_k fun K hK => ?_) | ((first | refine SW.region ?_ | refine SW.ret ?_ | (refine allF_i fun b hb => ?_; replace hD := And.intro hb hD; clear hb; try simp only [fresh_cons, fresh_nil, and_true, ne_eq, neF] at hD)); try simp only [go_sem, hD]) | (refine ifI (fun hc => ?_) (fun hc => ?_) <;> first | (exfalso; omega) | skip) | (apply hK; clear hK K)
  all_goals
    refine ret_pure ?_; simp only [resL_tmp, resL_nil, tupOf, go_sem, hD]
    refine bool_eq ?_
    first
      | (rw [decide_eq_decide]; omega)
      | (symm; rw [decide_eq_true_eq]; omega)
      | (symm; rw [decide_eq_false_iff_not]; omega)
end Go.Proofs.YtpidncgibgiidaaGreat
namespace Go.Ab
open Go
theorem bit_hi {a i : Nat} (h1 : 64 ≤ i) : a / 18446744073709551616 / 2 ^ (i % 64) = a / 2 ^ (64 + i % 64) := by
  rw [Nat.div_div_eq_div_mul, Nat.pow_add]
theorem bit_lo {a i : Nat} (h : i < 64) : a % 18446744073709551616 / 2 ^ i % 2 = a / 2 ^ i % 2 := by
  have e : 18446744073709551616 = 2 ^ i * (2 * 2 ^ (63 - i)) := by
    rw [← Nat.mul_assoc, ← Nat.pow_succ, ← Nat.pow_add, show i + 1 + (63 - i) = 64 by omega]
  rw [e, Nat.mod_mul_right_div_self, Nat.mod_mul_right_mod]
theorem fdiv_pow (x k : Nat) : Int.fdiv (x : Int) (2 ^ k) = ((x / 2 ^ k : Nat) : Int) := by
  rw [Int.fdiv_eq_ediv_of_nonneg _ (by exact Int.pow_nonneg (by decide))]
  rw [Int.natCast_ediv, Int.natCast_pow]; rfl
theorem div_step {A b q r t : Nat} (hb : 0 < b) (hq : q = A / b) (hr : r = A % b) (ht : t < 2) :
    (b ≤ 2 * r + t → (2 * A + t) / b = 2 * q + 1 ∧ (2 * A + t) % b = 2 * r + t - b) ∧ (2 * r + t < b → (2 * A + t) / b = 2 * q ∧ (2 * A + t) % b = 2 * r + t) := by
  have h0 : A = b * q + r := by rw [hq, hr]; exact (Nat.div_add_mod A b).symm
  have hlt : r < b := by rw [hr]; exact Nat.mod_lt _ hb
  have e2 : 2 * (b * q) = b * (2 * q) := by rw [Nat.mul_left_comm]
  refine ⟨fun h => ?_, fun h => ?_⟩
  · have e : 2 * A + t = (2 * r + t - b) + b * (2 * q + 1) := by rw [Nat.mul_add, Nat.mul_one]; omega
    rw [e, Nat.add_mul_div_left _ _ hb, Nat.add_mul_mod_self_left, Nat.div_eq_of_lt (by omega), Nat.mod_eq_of_lt (by omega)]
    omega
  · have e : 2 * A + t = (2 * r + t) + b * (2 * q) := by omega
    rw [e, Nat.add_mul_div_left _ _ hb, Nat.add_mul_mod_self_left, Nat.div_eq_of_lt h, Nat.mod_eq_of_lt h]
    omega
end Go.Ab
namespace Go.Proofs.YtpidncgibgiidaaGreat
open Go Go.Ab
variable [Gl]
theorem parts_r (a d : Nat) (ha : a < 340282366920938463463374607431768211456) (hd0 : 0 < d) (hd1 : d ≤ 170141183460469231731687303715884105728) : PCall Tryz.prog 161 [Wd a, Wd d] (.tup [Wd (a / d), Wd (a % d)]) := by
  have hd2 : d < 340282366920938463463374607431768211456 := by omega
  refine Call.enter' (N := 48) (rs := [.cell 4 158, .cell 5 158]) Tryz.func161 rfl rfl rfl (by decide) rfl ?_; simp only [argT]; have hD : (0 : Nat) = 0 := rfl
  repeat' first | (refine SW.seq_k fun K hK => ?_) | (refine SW.block ?_) | ((first | refine SW.region ?_ | (refine allF_i fun b hb => ?_; replace hD := And.intro hb hD; clear hb; try simp only [fresh_cons, fresh_nil, and_true, ne_eq, neF] at hD)); try simp only [go_sem, hD]) | (apply hK; clear hK K)
  rename_i b2 b3 b4 b5 b6
  obtain ⟨I, hI⟩ : ∃ I : Nat → St → Prop, ∀ n S, I n S ↔ (∃ (q r : Nat) (x1 x2 y1 y2 : Int), n ≤ 128 ∧ q = a / 2 ^ n / d ∧ r = a / 2 ^ n % d ∧ x1 = (q / 18446744073709551616 : Nat) ∧ x2 = (q % 18446744073709551616 : Nat) ∧ y1 = (r / 18446744073709551616 : Nat) ∧ y2 = (r % 18446744073709551616 : Nat) ∧
    S = ⟨[(8, I64 ((n : Int) - 1)), (2, .op b2 0), (3, .op b3 0), (4, .op b4 0), (5, .op b5 0), (6, .op b6 0), (7, .op b 0)], [(b, .svs [U64 y1, U64 y2]), (b6, .svs [U64 x1, U64 x2]), (b5, .svs [U64 0, U64 0]), (b4, .svs [U64 0, U64 0]), (b3, .svs [U64 (d / 18446744073709551616 : Nat), U64 (d % 18446744073709551616 : Nat)]), (b2, .svs [U64 (a / 18446744073709551616 : Nat), U64 (a % 18446744073709551616 : Nat)])]⟩) := ⟨fun n S => _, fun _ _ => Iff.rfl⟩
  have hz : a / 2 ^ 128 = 0 := Nat.div_eq_of_lt (Nat.lt_of_lt_of_le ha (by decide))
  refine SW.loop' I 128 ((hI _ _).2 ⟨0, 0, 0, 0, 0, 0, Nat.le_refl _, by rw [hz, Nat.zero_div], by rw [hz, Nat.zero_mod], rfl, rfl, rfl, rfl, rfl⟩) (by repeat' (first | exact rfl | exact trivial | constructor)) ?_
  intro n S hIn
  obtain ⟨q, r, _, _, _, _, hn, hq, hr, rfl, rfl, rfl, rfl, rfl⟩ := (hI _ _).1 hIn
  clear hIn
  cases n with
  | zero =>
    repeat' first | (refine SW.seq_k fun K hK => ?_) | ((first | refine SW.region ?_ | refine SW.cond ?_ | refine SW.exit ?_); try simp only [go_sem, hD]) | (apply hK; clear hK K) | (clear hK K; apply hK; clear hK K)
    refine SW.regionT (Checked.mixed Tryz.checked) ((.alt 0 (.alt 1 (.alt 2 (.alt 3 .done .nil) .nil) (.alt 2 (.alt 1 (.alt 3 .done .nil) .nil) .nil)) (.alt 1 (.alt 0 (.alt 2 (.alt 3 .done .nil) .nil) .nil) .nil)) : OT) (by kernel_rfl) ?_; simp only [go_sem, hD]
    rw [Nat.pow_zero, Nat.div_one] at hq hr
    subst hq hr
    refine ⟨⟨?_, ?_⟩, ?_⟩
    all_goals
      repeat' first | (refine SW.ret ?_; try simp only [go_sem, hD]) | (apply hK; clear hK K)
      apply ret_cell2 (i := 4) (n := 2) (j := 5) (m := 2); exact rfl; exact rfl; decide; (simp only [go_sem, hD]; try rfl); (simp only [go_sem, hD]; try rfl); (first | exact Nat.le_refl _ | decide); (first | exact Nat.le_refl _ | decide); simp only [resL_tmp, resL_cellE, resC_ok, resL_nil, tupOf, getN, go_sem, hD]
  | succ i =>
    have e0 : ((i + 1 : Nat) : Int) - 1 = (i : Int) := by omega
    rw [e0]
    have hA : a / 2 ^ i = 2 * (a / 2 ^ (i + 1)) + a / 2 ^ i % 2 := by
      rw [Nat.pow_succ, ← Nat.div_div_eq_div_mul]; omega
    have hAle : a / 2 ^ (i + 1) ≤ a / 2 := Nat.div_le_div_left (by rw [Nat.pow_succ]; have := Nat.two_pow_pos i; omega) (by decide)
    have hqle : q ≤ a / 2 ^ (i + 1) := by rw [hq]; exact Nat.div_le_self _ _
    have hrlt : r < d := by rw [hr]; exact Nat.mod_lt _ hd0
    have hthi : 64 ≤ i → a / 18446744073709551616 / 2 ^ (i % 64) % 2 = a / 2 ^ i % 2 := fun h => by
      rw [bit_hi h, show 64 + i % 64 = i by omega]
    have htlo : i < 64 → a % 18446744073709551616 / 2 ^ (i % 64) % 2 = a / 2 ^ i % 2 := fun h => by
      rw [Nat.mod_eq_of_lt h, bit_lo h]
    have htb : a / 2 ^ i % 2 < 2 := Nat.mod_lt _ (by decide)
    generalize ht : a / 2 ^ i % 2 = t at hA hthi htlo htb
    obtain ⟨hs1, hs2⟩ := div_step (A := a / 2 ^ (i + 1)) hd0 hq hr htb
    rw [← hA] at hs1 hs2
    have em : Int.tmod (i : Int) 64 = ((i % 64 : Nat) : Int) := (Int.ofNat_tmod i 64).symm
    have emin : min (i % 64) 64 = i % 64 := Nat.min_eq_left (by have := Nat.mod_lt i (show 64 > 0 by decide); exact Nat.le_of_lt this)
    have er : ∀ X : Nat, Int.tmod (X : Int) 2 = ((X % 2 : Nat) : Int) := fun X => (Int.ofNat_tmod X 2).symm
    have eR1 : (r + r) % 340282366920938463463374607431768211456 / 18446744073709551616 = (2 * r + t) / 18446744073709551616 := by omega
    have eR2 : IntKind.u64.wrap (((r + r) % 340282366920938463463374607431768211456 % 18446744073709551616 : Nat) + (t : Int)) = ((2 * r + t) % 18446744073709551616 : Nat) := by rw [u64n] <;> omega
    have eQ : (q + q) % 340282366920938463463374607431768211456 = 2 * q := by omega
    have p1 := plus_r r r (by omega) (by omega)
    have p2 := plus_r q q (by omega) (by omega)
    rw [eQ] at p2
    have p3 := lessW_r (2 * r + t) d (by omega) hd2
    have fin : ∀ (q' r' : Nat) (x1 x2 y1 y2 : Int) (st : List (Nat × SV)), a / 2 ^ i / d = q' → a / 2 ^ i % d = r' → x1 = (q' / 18446744073709551616 : Nat) → x2 = (q' % 18446744073709551616 : Nat) → y1 = (r' / 18446744073709551616 : Nat) → y2 = (r' % 18446744073709551616 : Nat) →
        sub ⟨st, []⟩ [(8, I64 ((i : Int) - 1)), (2, .op b2 0), (3, .op b3 0), (4, .op b4 0), (5, .op b5 0), (6, .op b6 0), (7, .op b 0)] →
        Rnd I (i + 1) ⟨st, [(b, .svs [U64 y1, U64 y2]), (b6, .svs [U64 x1, U64 x2]), (b5, .svs [U64 0, U64 0]), (b4, .svs [U64 0, U64 0]), (b3, .svs [U64 (d / 18446744073709551616 : Nat), U64 (d % 18446744073709551616 : Nat)]), (b2, .svs [U64 (a / 18446744073709551616 : Nat), U64 (a % 18446744073709551616 : Nat)])]⟩ := fun q' r' x1 x2 y1 y2 st h1 h2 h3 h4 h5 h6 hsub =>
      Rnd.sub i (by omega) ((hI _ _).2 ⟨q', r', x1, x2, y1, y2, by omega, h1.symm, h2.symm, h3, h4, h5, h6, rfl⟩) hsub
    have ei : IntKind.i64.wrap ((i : Int) - 1) = (i : Int) - 1 := i64_wrap (by omega) (by omega)
    by_cases h64 : 64 ≤ i
    · have et := hthi h64
      repeat' first | (refine SW.seq_k fun K hK => ?_) | (refine SW.block ?_) | ((first | refine SW.region ?_ | refine SW.regionD (Checked.mixed Tryz.checked) (by kernel_rfl) ?_ | refine SW.cond ?_ | refine SW.skip ?_ | refine Call.of_pure (p1) ?_ | refine Call.of_pure (p2) ?_ | refine Call.of_pure (p3) ?_); try simp only [go_sem, hD, em, emin, er, eR1, eR2, eQ, fdiv_pow, et, ei]) | (refine ifI (fun hc => ?_) (fun hc => ?_) <;> first | (exfalso; omega) | skip) | (apply hK; clear hK K)
      · have hle : d ≤ 2 * r + t := by omega
        have p4 := minus_r (2 * r + t) d (by omega) hd2 hle
        refine Call.of_pure p4 ?_
        try simp only [go_sem, hD, ei]
        repeat' first | (refine SW.region ?_; try simp only [go_sem, hD, ei]) | (apply hK; clear hK K)
        exact fin _ _ _ _ _ _ _ (hs1 hle).1 (hs1 hle).2 (by omega) (by first | omega | (rw [u64n] <;> omega)) (by omega) (by omega) (by repeat' (first | exact rfl | exact trivial | constructor))
      · have hlt : 2 * r + t < d := by omega
        exact fin _ _ _ _ _ _ _ (hs2 hlt).1 (hs2 hlt).2 (by omega) (by omega) (by omega) (by omega) (by repeat' (first | exact rfl | exact trivial | constructor))
    · have et := htlo (by omega)
      repeat' first | (refine SW.seq_k fun K hK => ?_) | (refine SW.block ?_) | ((first | refine SW.region ?_ | refine SW.regionD (Checked.mixed Tryz.checked) (by kernel_rfl) ?_ | refine SW.cond ?_ | refine SW.skip ?_ | refine Call.of_pure (p1) ?_ | refine Call.of_pure (p2) ?_ | refine Call.of_pure (p3) ?_); try simp only [go_sem, hD, em, emin, er, eR1, eR2, eQ, fdiv_pow, et, ei]) | (refine ifI (fun hc => ?_) (fun hc => ?_) <;> first | (exfalso; omega) | skip) | (apply hK; clear hK K)
      · have hle : d ≤ 2 * r + t := by omega
        have p4 := minus_r (2 * r + t) d (by omega) hd2 hle
        refine Call.of_pure p4 ?_
        try simp only [go_sem, hD, ei]
        repeat' first | (refine SW.region ?_; try simp only [go_sem, hD, ei]) | (apply hK; clear hK K)
        exact fin _ _ _ _ _ _ _ (hs1 hle).1 (hs1 hle).2 (by omega) (by first | omega | (rw [u64n] <;> omega)) (by omega) (by omega) (by repeat' (first | exact rfl | exact trivial | constructor))
      · have hlt : 2 * r + t < d := by omega
        exact fin _ _ _ _ _ _ _ (hs2 hlt).1 (hs2 hlt).2 (by omega) (by omega) (by omega) (by omega) (by repeat' (first | exact rfl | exact trivial | constructor))
end Go.Proofs.YtpidncgibgiidaaGreat
namespace Go.Ab
open Go
theorem Wd_small {x : Nat} (h : x < 18446744073709551616) : Wd x = .agg [U64 0, U64 x] := by
  have h1 : x / 18446744073709551616 = 0 := Nat.div_eq_of_lt h
  have h2 : x % 18446744073709551616 = x := Nat.mod_eq_of_lt h
  unfold Wd
  rw [h1, h2]; rfl
end Go.Ab
namespace Go.Proofs.YtpidncgibgiidaaGreat
open Go Go.Ab
variable [Gl]
def Ds5 (a b c d e : Nat) : Prop := (((a = b) = False ∧ (b = a) = False) ∧ ((a = c) = False ∧ (c = a) = False) ∧ ((a = d) = False ∧ (d = a) = False) ∧ ((a = e) = False ∧ (e = a) = False)) ∧ (((b = c) = False ∧ (c = b) = False) ∧ ((b = d) = False ∧ (d = b) = False) ∧ ((b = e) = False ∧ (e = b) = False)) ∧ (((c = d) = False ∧ (d = c) = False) ∧ ((c = e) = False ∧ (e = c) = False)) ∧ ((d = e) = False ∧ (e = d) = False)
theorem Ds5.nodup {a b c d e : Nat} (h : Ds5 a b c d e) : [a, b, c, d, e].Nodup := by
  unfold Ds5 at h
  simp [h]
def bld1 (bn bd br : Nat) (neg : Bool) (n d : Nat) (S : St) : Prop := ∃ b8 b9 : Nat, Ds5 b8 b9 bn bd br ∧
  S.le ⟨[(0, SB neg), (4, .op bn 0), (5, .op bd 0), (6, .op br 0), (8, .op b8 0), (9, .op b9 0)], [(b8, .svs [U64 (n / 18446744073709551616 : Nat), U64 (n % 18446744073709551616 : Nat)]), (b9, .svs [U64 (d / 18446744073709551616 : Nat), U64 (d % 18446744073709551616 : Nat)]), (bn, .svs [U64 (n / 18446744073709551616 : Nat), U64 (n % 18446744073709551616 : Nat)]), (bd, .svs [U64 (d / 18446744073709551616 : Nat), U64 (d % 18446744073709551616 : Nat)]), (br, .svs [I64 0, I64 0])]⟩
theorem le_find5 {t l : List (Nat × SV)} {h : Heap} {a b c d e : Nat} {ka kb kc kd ke : Blk} (hs : sub ⟨t, h⟩ l) (fa : h.find a = some ka) (fb : h.find b = some kb) (fc : h.find c = some kc) (fd : h.find d = some kd) (fe : h.find e = some ke) (hn : [a, b, c, d, e].Nodup) :
    (St.mk t h).le ⟨l, [(a, ka), (b, kb), (c, kc), (d, kd), (e, ke)]⟩ := by
  refine (St.le_sub hs).trans (St.le_sublist (fun x hx => ?_) (fun _ => by simpa using hn))
  simp only [List.mem_cons, List.not_mem_nil, or_false] at hx
  rcases hx with rfl | rfl | rfl | rfl | rfl
  · exact Heap.find_mem fa
  · exact Heap.find_mem fb
  · exact Heap.find_mem fc
  · exact Heap.find_mem fd
  · exact Heap.find_mem fe
theorem bld1_i {bn bd br : Nat} {neg : Bool} {n d : Nat} {t : List (Nat × SV)} {h : Heap} {b8 b9 : Nat} (hs : sub ⟨t, h⟩ [(0, SB neg), (4, .op bn 0), (5, .op bd 0), (6, .op br 0), (8, .op b8 0), (9, .op b9 0)])
    (f8 : h.find b8 = some (.svs [U64 (n / 18446744073709551616 : Nat), U64 (n % 18446744073709551616 : Nat)])) (f9 : h.find b9 = some (.svs [U64 (d / 18446744073709551616 : Nat), U64 (d % 18446744073709551616 : Nat)])) (fn : h.find bn = some (.svs [U64 (n / 18446744073709551616 : Nat), U64 (n % 18446744073709551616 : Nat)])) (fd : h.find bd = some (.svs [U64 (d / 18446744073709551616 : Nat), U64 (d % 18446744073709551616 : Nat)])) (fr : h.find br = some (.svs [I64 0, I64 0]))
    (hd : Ds5 b8 b9 bn bd br) : bld1 bn bd br neg n d ⟨t, h⟩ := ⟨b8, b9, hd, le_find5 hs f8 f9 fn fd fr hd.nodup⟩
theorem build_r (neg : Bool) (n d : Nat) (hn : n < 340282366920938463463374607431768211456) (hd0 : 0 < d) (hd1 : d ≤ 170141183460469231731687303715884105728) : PCall Tryz.prog 124 [SB neg, Wd n, Wd d] (FR (bldR neg n d)) := by
  refine Call.enter' (N := 60) (rs := [.cell 6 61, .tmp 7]) Tryz.func124 rfl rfl rfl (by decide) rfl ?_; simp only [argT]; have hD : (0 : Nat) = 0 := rfl
  repeat' first | (refine SW.seq_k fun K hK => ?_) | ((first | refine SW.region ?_ | (refine allF_i fun b hb => ?_; replace hD := And.intro hb hD; clear hb; try simp only [fresh_cons, fresh_nil, and_true, ne_eq, neF] at hD)); try simp only [go_sem, hD]) | (apply hK; clear hK K)
  rename_i bn bd
  rename Nat => br
  refine SW.cut (bld1 bn bd br neg n d) ?_ ?_
  · refine SW.regionT (Checked.mixed Tryz.checked) ((.alt 0 (.alt 1 (.alt 2 (.alt 3 (.alt 4 (.alt 5 .done .nil) .nil) .nil) (.alt 3 (.alt 2 (.alt 4 (.alt 5 .done .nil) .nil) .nil) .nil)) (.alt 2 (.alt 1 (.alt 3 (.alt 4 (.alt 5 .done .nil) .nil) .nil) (.alt 3 (.alt 1 (.alt 4 (.alt 5 .done .nil) .nil) (.alt 4 (.alt 1 (.alt 5 .done .nil) .nil) .nil)) .nil)) (.alt 3 (.alt 1 (.alt 2 (.alt 4 (.alt 5 .done .nil) .nil) .nil) (.alt 2 (.alt 1 (.alt 4 (.alt 5 .done .nil) .nil) (.alt 4 (.alt 1 (.alt 5 .done .nil) .nil) .nil)) .nil)) .nil))) (.alt 1 (.alt 0 (.alt 2 (.alt 3 (.alt 4 (.alt 5 .done .nil) .nil) .nil) (.alt 3 (.alt 2 (.alt 4 (.alt 5 .done .nil) .nil) .nil) .nil)) (.alt 2 (.alt 0 (.alt 3 (.alt 4 (.alt 5 .done .nil) .nil) .nil) (.alt 3 (.alt 0 (.alt 4 (.alt 5 .done .nil) .nil) .nil) .nil)) (.alt 3 (.alt 0 (.alt 2 (.alt 4 (.alt 5 .done .nil) .nil) .nil) (.alt 2 (.alt 0 (.alt 4 (.alt 5 .done .nil) .nil) .nil) .nil)) .nil))) (.alt 2 (.alt 0 (.alt 1 (.alt 3 (.alt 4 (.alt 5 .done .nil) .nil) .nil) (.alt 3 (.alt 1 (.alt 4 (.alt 5 .done .nil) .nil) (.alt 4 (.alt 1 (.alt 5 .done .nil) .nil) .nil)) .nil)) (.alt 1 (.alt 0 (.alt 3 (.alt 4 (.alt 5 .done .nil) .nil) .nil) (.alt 3 (.alt 0 (.alt 4 (.alt 5 .done .nil) .nil) .nil) .nil)) (.alt 3 (.alt 0 (.alt 1 (.alt 4 (.alt 5 .done .nil) .nil) (.alt 4 (.alt 1 (.alt 5 .done .nil) .nil) .nil)) (.alt 1 (.alt 0 (.alt 4 (.alt 5 .done .nil) .nil) .nil) .nil)) .nil))) (.alt 3 (.alt 0 (.alt 1 (.alt 2 (.alt 4 (.alt 5 .done .nil) .nil) .nil) (.alt 2 (.alt 1 (.alt 4 (.alt 5 .done .nil) .nil) (.alt 4 (.alt 1 (.alt 5 .done .nil) .nil) .nil)) .nil)) (.alt 1 (.alt 0 (.alt 2 (.alt 4 (.alt 5 .done .nil) .nil) .nil) (.alt 2 (.alt 0 (.alt 4 (.alt 5 .done .nil) .nil) .nil) .nil)) (.alt 2 (.alt 0 (.alt 1 (.alt 4 (.alt 5 .done .nil) .nil) (.alt 4 (.alt 1 (.alt 5 .done .nil) .nil) .nil)) (.alt 1 (.alt 0 (.alt 4 (.alt 5 .done .nil) .nil) .nil) .nil)) .nil))) .nil)))) : OT) (by kernel_rfl) ?_; simp only [go_sem, hD]
    repeat' (first
      | (refine And.intro ?_ ?_)
      | (refine allF_i fun b hb => ?_; replace hD := And.intro hb hD; clear hb; simp only [fresh_cons, fresh_nil, and_true, ne_eq, neF] at hD; try simp only [go_sem, hD]))
    all_goals
      refine nrm_i (bld1_i (by repeat' (first | exact rfl | exact trivial | constructor)) ?_ ?_ ?_ ?_ ?_ ?_)
      all_goals first | (simp only [go_sem, hD]; done) | (unfold Ds5; simp only [go_sem, hD]; done) | skip
  · rintro S' ⟨b8, b9, hne, hle⟩
    unfold Ds5 at hne
    replace hD := And.intro hne hD
    clear hne
    try simp only [go_sem, hD]
    (first | apply hK | (clear hK K; apply hK) | (clear hK K; clear hK K; apply hK)); clear hK K
    refine Ab.SW.le hle ?_
    clear hle
    repeat' first | (refine SW.seq_k fun K hK => ?_) | (refine SW.block ?_)
    obtain ⟨I, hI⟩ : ∃ I : Nat → St → Prop, ∀ k S, I k S ↔ (∃ x : Nat, x < 340282366920938463463374607431768211456 ∧ k ≤ 170141183460469231731687303715884105728 ∧ (k = 0 → x = Nat.gcd n d) ∧ Nat.gcd x k = Nat.gcd n d ∧
      S = ⟨[(0, SB neg), (4, .op bn 0), (5, .op bd 0), (6, .op br 0), (8, .op b8 0), (9, .op b9 0)], [(b8, .svs [U64 (x / 18446744073709551616 : Nat), U64 (x % 18446744073709551616 : Nat)]), (b9, .svs [U64 (k / 18446744073709551616 : Nat), U64 (k % 18446744073709551616 : Nat)]), (bn, .svs [U64 (n / 18446744073709551616 : Nat), U64 (n % 18446744073709551616 : Nat)]), (bd, .svs [U64 (d / 18446744073709551616 : Nat), U64 (d % 18446744073709551616 : Nat)]), (br, .svs [I64 0, I64 0])]⟩) := ⟨fun n S => _, fun _ _ => Iff.rfl⟩
    refine SW.loop' I d ((hI _ _).2 ⟨n, hn, hd1, fun h => by omega, rfl, rfl⟩) (by repeat' (first | exact rfl | exact trivial | constructor)) ?_
    intro k S hIn
    obtain ⟨x, hx, hk, hx0, hg, rfl⟩ := (hI _ _).1 hIn
    clear hIn
    have hz := zero_r k (by omega)
    by_cases hk0 : k = 0
    · subst hk0
      obtain rfl := hx0 rfl
      have hgp : 0 < Nat.gcd n d := Nat.gcd_pos_of_pos_right _ hd0
      have hgle : Nat.gcd n d ≤ 170141183460469231731687303715884105728 := Nat.le_trans (Nat.gcd_le_right _ hd0) hd1
      have hbr : bldR neg n d = ofR neg (n / Nat.gcd n d) (d / Nat.gcd n d) := rfl
      clear hg hx0
      generalize Nat.gcd n d = g at *
      have hnd := Nat.div_le_self n g
      have hdd := Nat.div_le_self d g
      have hp1 := parts_r n g hn hgp hgle
      have hp2 := parts_r d g (by omega) hgp hgle
      have hl1 : PCall Tryz.prog 162 [.agg [U64 0, U64 9223372036854775807], Wd (n / g)] (SB (decide (9223372036854775807 < n / g))) := lessW_r 9223372036854775807 (n / g) (by decide) (by omega)
      have hl2 : PCall Tryz.prog 162 [.agg [U64 0, U64 9223372036854775807], Wd (d / g)] (SB (decide (9223372036854775807 < d / g))) := lessW_r 9223372036854775807 (d / g) (by decide) (by omega)
      generalize n / g = a at *
      generalize d / g = c at *
      repeat' first | (refine SW.seq_k fun K hK => ?_) | ((first | refine SW.region ?_ | refine SW.cond ?_ | refine SW.skip ?_ | refine SW.exit ?_ | refine SW.ret ?_ | refine Call.of_pure (hz) ?_ | refine Call.of_pure (hp1) ?_ | refine Call.of_pure (hp2) ?_ | refine Call.of_pure (hl1) ?_ | refine Call.of_pure (hl2) ?_ | (refine allF_i fun b hb => ?_; replace hD := And.intro hb hD; clear hb; try simp only [fresh_cons, fresh_nil, and_true, ne_eq, neF] at hD)); try simp only [go_sem, hD]) | (refine ifI (fun hc => ?_) (fun hc => ?_) <;> first | (exfalso; omega) | skip) | (apply hK; clear hK K) | (clear hK K; apply hK; clear hK K)
      · apply ret_cell (i := 6) (n := 2); exact rfl; (simp only [go_sem, hD]; try rfl); (first | exact Nat.le_refl _ | decide); simp only [resL_tmp, resL_cellE, resC_ok, resL_nil, tupOf, getN, go_sem, hD]
        rw [hbr, ofR, if_neg (by omega)]
      · apply ret_cell (i := 6) (n := 2); exact rfl; (simp only [go_sem, hD]; try rfl); (first | exact Nat.le_refl _ | decide); simp only [resL_tmp, resL_cellE, resC_ok, resL_nil, tupOf, getN, go_sem, hD]
        rw [hbr, ofR, if_neg (by omega)]
      · have ea : IntKind.i64.wrap ((a % 18446744073709551616 : Nat) : Int) = (a : Int) := by rw [i64_wrap] <;> omega
        have ec : IntKind.i64.wrap ((c % 18446744073709551616 : Nat) : Int) = (c : Int) := by rw [i64_wrap] <;> omega
        have en : IntKind.i64.wrap (0 - (a : Int)) = -(a : Int) := by rw [i64_wrap] <;> omega
        apply ret_cell (i := 6) (n := 2); exact rfl; (simp only [go_sem, hD]; try rfl); (first | exact Nat.le_refl _ | decide); simp only [resL_tmp, resL_cellE, resC_ok, resL_nil, tupOf, getN, go_sem, hD]
        rw [hbr, ofR, if_pos (by omega), if_pos (by assumption), ea, ec, en]
      · have ea : IntKind.i64.wrap ((a % 18446744073709551616 : Nat) : Int) = (a : Int) := by rw [i64_wrap] <;> omega
        have ec : IntKind.i64.wrap ((c % 18446744073709551616 : Nat) : Int) = (c : Int) := by rw [i64_wrap] <;> omega
        apply ret_cell (i := 6) (n := 2); exact rfl; (simp only [go_sem, hD]; try rfl); (first | exact Nat.le_refl _ | decide); simp only [resL_tmp, resL_cellE, resC_ok, resL_nil, tupOf, getN, go_sem, hD]
        rw [hbr, ofR, if_pos (by omega), if_neg (by assumption), ea, ec]
    · have hp := parts_r x k hx (by omega) hk
      have hml : x % k < k := Nat.mod_lt _ (by omega)
      have hgs : Nat.gcd k (x % k) = Nat.gcd n d := by rw [← hg, Nat.gcd_comm, ← Nat.gcd_rec, Nat.gcd_comm]
      repeat' first | (refine SW.seq_k fun K hK => ?_) | (refine SW.block ?_) | ((first | refine SW.region ?_ | refine SW.cond ?_ | refine SW.skip ?_ | refine Call.of_pure (hz) ?_ | refine Call.of_pure (hp) ?_ | (refine allF_i fun b hb => ?_; replace hD := And.intro hb hD; clear hb; try simp only [fresh_cons, fresh_nil, and_true, ne_eq, neF] at hD)); try simp only [go_sem, hD]) | (refine ifI (fun hc => ?_) (fun hc => ?_) <;> first | (exfalso; omega) | skip) | (apply hK; clear hK K)
      refine SW.regionT (Checked.mixed Tryz.checked) ((.alt 0 (.alt 1 (.alt 2 (.alt 3 .done .nil) .nil) (.alt 2 (.alt 1 (.alt 3 .done .nil) .nil) .nil)) (.alt 1 (.alt 0 (.alt 2 (.alt 3 .done .nil) .nil) .nil) .nil)) : OT) (by kernel_rfl) ?_; simp only [go_sem, hD]
      refine ⟨⟨?_, ?_⟩, ?_⟩
      all_goals
        repeat' first | (with_reducible refine And.intro (by omega) ?_) | (refine SW.seq_k fun K hK => ?_) | (refine SW.block ?_) | ((first | refine SW.region ?_ | refine SW.regionD (Checked.mixed Tryz.checked) (by kernel_rfl) ?_ | refine SW.cond ?_ | refine SW.skip ?_ | refine SW.exit ?_ | refine SW.ret ?_ | (refine allF_i fun b hb => ?_; replace hD := And.intro hb hD; clear hb; try simp only [fresh_cons, fresh_nil, and_true, ne_eq, neF] at hD) | simp only [appK, appOsK]); try simp only [go_sem, hD]) | (refine And.intro (by omega) ?_) | (refine ifI (fun hc => ?_) (fun hc => ?_) <;> first | (exfalso; omega) | skip) | (apply hK; clear hK K) | (clear hK K; apply hK; clear hK K) | (clear hK K; clear hK K; apply hK; clear hK K) | (clear hK K; clear hK K; clear hK K; apply hK; clear hK K) | (clear hK K; clear hK K; clear hK K; clear hK K; apply hK; clear hK K) | (clear hK K; clear hK K; clear hK K; clear hK K; clear hK K; apply hK; clear hK K)
        refine Rnd.le (le_find5 (l := [(0, SB neg), (4, .op bn 0), (5, .op bd 0), (6, .op br 0), (8, .op b8 0), (9, .op b9 0)]) (by repeat' (first | exact rfl | exact trivial | constructor)) (a := b8) (b := b9) (c := bn) (d := bd) (e := br) (by simp only [go_sem, hD]; rfl) (by simp only [go_sem, hD]; rfl) (by simp only [go_sem, hD]; rfl) (by simp only [go_sem, hD]; rfl) (by simp only [go_sem, hD]; rfl) (Ds5.nodup (by unfold Ds5; simp only [go_sem, hD]))) ?_
        exact Rnd.sub (x % k) hml ((hI _ _).2 ⟨k, by omega, by omega, fun h => by rw [h, Nat.gcd_zero_right] at hgs; exact hgs, hgs, rfl⟩) (by repeat' (first | exact rfl | exact trivial | constructor))
theorem make_r (num den : Int) (h0 : -9223372036854775808 ≤ num) (h1 : num ≤ 9223372036854775807) (h2 : -9223372036854775808 ≤ den) (h3 : den ≤ 9223372036854775807) : PCall Tryz.prog 85 [I64 num, I64 den] (FR (mkR num den)) := by
  have a1 := size_r num h0 h1
  have a2 := size_r den h2 h3
  refine Call.enter' (N := 21) (rs := [.cell 4 61, .tmp 5]) Tryz.func85 rfl rfl rfl (by decide) rfl ?_; simp only [argT]; have hD : (0 : Nat) = 0 := rfl
  by_cases hz : den = 0
  · repeat' first | (refine SW.seq_k fun K hK => ?_) | ((first | refine SW.region ?_ | refine SW.cond ?_ | refine SW.ret ?_ | (refine allF_i fun b hb => ?_; replace hD := And.intro hb hD; clear hb; try simp only [fresh_cons, fresh_nil, and_true, ne_eq, neF] at hD)); try simp only [go_sem, hD]) | (refine ifI (fun hc => ?_) (fun hc => ?_) <;> first | (exfalso; omega) | skip) | (apply hK; clear hK K)
    apply ret_cell (i := 4) (n := 2); exact rfl; (simp only [go_sem, hD]; try rfl); (first | exact Nat.le_refl _ | decide); simp only [resL_tmp, resL_cellE, resC_ok, resL_nil, tupOf, getN, go_sem, hD]
    rw [mkR, if_pos hz]
  · have ho := build_r (!(decide (num < 0) == decide (den < 0))) num.natAbs den.natAbs (by omega) (by omega) (by omega)
    rw [Wd_small (by omega), Wd_small (by omega)] at ho
    have hm : mkR num den = bldR (!(decide (num < 0) == decide (den < 0))) num.natAbs den.natAbs := by rw [mkR, if_neg hz]
    repeat' first | (refine SW.seq_k fun K hK => ?_) | ((first | refine SW.region ?_ | refine SW.cond ?_ | refine SW.skip ?_ | refine SW.ret ?_ | refine Call.of_pure (a1) ?_ | refine Call.of_pure (a2) ?_ | refine Call.of_pure (ho) ?_ | (refine allF_i fun b hb => ?_; replace hD := And.intro hb hD; clear hb; try simp only [fresh_cons, fresh_nil, and_true, ne_eq, neF] at hD)); try simp only [go_sem, hD]) | (refine ifI (fun hc => ?_) (fun hc => ?_) <;> first | (exfalso; omega) | skip) | (apply hK; clear hK K)
    apply ret_cell (i := 4) (n := 2); exact rfl; (simp only [go_sem, hD]; try rfl); (first | exact Nat.le_refl _ | decide); simp only [resL_tmp, resL_cellE, resC_ok, resL_nil, tupOf, getN, go_sem, hD]
    rw [hm]
end Go.Proofs.YtpidncgibgiidaaGreat
namespace Go.Ab
open Go
abbrev VS (k n : Int) (s : ByteArray) : SV := .agg [I64 k, I64 n, Str s]
def emp (s : ByteArray) : Bool := s.toList == (⟨#[]⟩ : ByteArray).toList
def vok (k n : Int) (s : ByteArray) : Bool := if k = 0 then decide (n = 0) && emp s else if k = 1 then emp s else if k = 2 then decide (n = 0) && decide (s.size ≤ 200) else if k = 3 then decide (1 ≤ n) && emp s else false
def sgn (a b : Int) : Int := if a < b then -1 else if b < a then 1 else 0
end Go.Ab
namespace Go.Proofs.YtpidncgibgiidaaGreat
open Go Go.Ab
variable [Gl] [Tabs]
theorem valid_p (k n : Int) (s : ByteArray) : PCall Tryz.prog 180 [VS k n s] (SB (vok k n s)) := by
  obtain ⟨R, hR⟩ : ∃ R, R = vok k n s := ⟨_, rfl⟩
  rw [← hR]
  unfold vok emp at hR
  have cs : ((s.size : Nat) : Int) ≤ 200 ↔ s.size ≤ 200 := by omega
  refine Call.enter' (N := 41) (rs := [.tmp 2]) Tryz.func180 rfl rfl rfl (by decide) rfl ?_; simp only [argT]; have hD : (0 : Nat) = 0 := rfl
  repeat' first | (refine SW.seq_k fun K hK => ?_) | (refine SW.block ?_) | ((first | refine SW.region ?_ | refine SW.cond ?_ | refine SW.skip ?_ | refine SW.ret ?_ | (refine allF_i fun b hb => ?_; replace hD := And.intro hb hD; clear hb; try simp only [fresh_cons, fresh_nil, and_true, ne_eq, neF] at hD)); try simp only [go_sem, hD]) | (refine ifI (fun hc => ?_) (fun hc => ?_) <;> first | (exfalso; omega) | skip) | (apply hK; clear hK K)
  all_goals
    refine ret_pure ?_; simp only [resL_tmp, resL_nil, tupOf, go_sem, hD]
    rw [hR]
    simp_all
    first | done | (intro h; exfalso; omega)
theorem valid_r (k n : Int) (s : ByteArray) : PCall Tryz.prog 123 [VS k n s] (SB (vok k n s)) := by
  obtain ⟨R, hR⟩ : ∃ R, R = vok k n s := ⟨_, rfl⟩
  rw [← hR]
  unfold vok emp at hR
  have cs : ((s.size : Nat) : Int) ≤ 200 ↔ s.size ≤ 200 := by omega
  refine Call.enter' (N := 44) (rs := [.tmp 2]) Tryz.func123 rfl rfl rfl (by decide) rfl ?_; simp only [argT]; have hD : (0 : Nat) = 0 := rfl
  repeat' first | (refine SW.seq_k fun K hK => ?_) | (refine SW.block ?_) | ((first | refine SW.region ?_ | refine SW.cond ?_ | refine SW.skip ?_ | refine SW.ret ?_ | (refine allF_i fun b hb => ?_; replace hD := And.intro hb hD; clear hb; try simp only [fresh_cons, fresh_nil, and_true, ne_eq, neF] at hD)); try simp only [go_sem, hD]) | (refine ifI (fun hc => ?_) (fun hc => ?_) <;> first | (exfalso; omega) | skip) | (apply hK; clear hK K)
  all_goals
    refine ret_pure ?_; simp only [resL_tmp, resL_nil, tupOf, go_sem, hD]
    rw [hR]
    simp_all
    first | done | (intro h; exfalso; omega)
theorem sign_r (a b : Int) : PCall Tryz.prog 122 [I64 a, I64 b] (I64 (sgn a b)) := by
  unfold sgn
  refine Call.enter' (N := 11) (rs := [.tmp 4]) Tryz.func122 rfl rfl rfl (by decide) rfl ?_; simp only [argT]; have hD : (0 : Nat) = 0 := rfl
  by_cases h1 : a < b
  · rw [if_pos h1]
    repeat' first | (refine SW.seq_k fun K hK => ?_) | ((first | refine SW.region ?_ | refine SW.cond ?_ | refine SW.ret ?_); try simp only [go_sem, hD, h1]) | (apply hK; clear hK K)
    refine ret_pure ?_; simp only [resL_tmp, resL_nil, tupOf, go_sem, hD]
  · rw [if_neg h1]
    by_cases h2 : b < a
    · rw [if_pos h2]
      repeat' first | (refine SW.seq_k fun K hK => ?_) | ((first | refine SW.region ?_ | refine SW.cond ?_ | refine SW.skip ?_ | refine SW.ret ?_); try simp only [go_sem, hD, h1, h2]) | (apply hK; clear hK K)
      refine ret_pure ?_; simp only [resL_tmp, resL_nil, tupOf, go_sem, hD]
    · rw [if_neg h2]
      repeat' first | (refine SW.seq_k fun K hK => ?_) | ((first | refine SW.region ?_ | refine SW.cond ?_ | refine SW.skip ?_ | refine SW.ret ?_); try simp only [go_sem, hD, h1, h2]) | (apply hK; clear hK K)
      refine ret_pure ?_; simp only [resL_tmp, resL_nil, tupOf, go_sem, hD]
end Go.Proofs.YtpidncgibgiidaaGreat
namespace Go.Ab.A34
open Go Go.Ab
def isL (c : UInt8) : Bool := (decide (97 ≤ c.toNat) && decide (c.toNat ≤ 122)) || ((decide (65 ≤ c.toNat) && decide (c.toNat ≤ 90)) || decide (c.toNat = 95))
def isD (c : UInt8) : Bool := decide (48 ≤ c.toNat) && decide (c.toNat ≤ 57)
def isW (c : UInt8) : Bool := isL c || isD c
def nullL : List UInt8 := [110, 117, 108, 108]
def nameB (l : List UInt8) : Bool := match l with
  | [] => false
  | c :: _ => decide (l.length ≤ 24) && !decide (l = nullL) && isL c && l.all isW
theorem all_step {l : List UInt8} {i : Nat} (h : i < l.length) : (l.drop i).all isW = (isW (l.getD i 0) && (l.drop (i + 1)).all isW) := by
  have g : l.getD i 0 = l[i] := by simp [List.getD_eq_getElem?_getD, h]
  rw [List.drop_eq_getElem_cons h, List.all_cons, g]
theorem all_end {l : List UInt8} {i : Nat} (h : l.length ≤ i) : (l.drop i).all isW = true := by
  rw [List.drop_of_length_le h]
  rfl
theorem ba_ext {a b : ByteArray} (h : a.data.toList = b.data.toList) : a = b := by
  cases a; cases b
  simp only at h
  rw [Array.toList_inj.1 h]
end Go.Ab.A34
namespace Go.Proofs.YtpidncgibgiidaaGreat
open Go Go.Ab Go.Ab.A34
variable [Gl] [Tabs]
abbrev B8 (c : UInt8) : SV := .sc (.int .u8 (c.toNat : Int))
theorem letter_c (c : UInt8) : PCall Tryz.prog 157 [B8 c] (SB (isL c)) := by
  obtain ⟨R, hR⟩ : ∃ R, R = isL c := ⟨_, rfl⟩
  rw [← hR]
  unfold isL at hR
  refine Call.enter' (N := 21) (rs := [.tmp 2]) Tryz.func157 rfl rfl rfl (by decide) rfl ?_; simp only [argT]; have hD : (0 : Nat) = 0 := rfl
  repeat' first | (refine SW.seq_k fun K hK => ?_) | ((first | refine SW.region ?_ | refine SW.ret ?_); try simp only [go_sem, hD]) | (refine ifI (fun hc => ?_) (fun hc => ?_) <;> first | (exfalso; omega) | skip) | (apply hK; clear hK K)
  all_goals
    refine ret_pure ?_; simp only [resL_tmp, resL_nil, tupOf, go_sem, hD]
    rw [hR]
    refine congrArg (fun b => SV.sc (.bool b)) ?_
    rw [Bool.eq_iff_iff]
    simp only [Bool.or_eq_true, Bool.and_eq_true, decide_eq_true_eq, Bool.false_eq_true, true_iff, false_iff]
    omega
theorem len_list (s : ByteArray) : s.data.toList.length = s.size := Array.length_toList
theorem bempty (s : ByteArray) : (s.toList == (⟨#[]⟩ : ByteArray).toList) = decide (s.data.toList = []) := by
  rw [Bool.eq_iff_iff, decide_eq_true_eq, barr_eq]
  constructor
  · intro h; rw [h]
  · intro h; exact ba_ext h
theorem bnull (s : ByteArray) : (s.toList == (⟨#[110, 117, 108, 108]⟩ : ByteArray).toList) = decide (s.data.toList = nullL) := by
  rw [Bool.eq_iff_iff, decide_eq_true_eq, barr_eq]
  constructor
  · intro h; rw [h]; rfl
  · intro h; exact ba_ext h
theorem name_cases (l : List UInt8) : (l = [] ∧ nameB l = false) ∨ (l ≠ [] ∧ ((24 < l.length ∧ nameB l = false) ∨ (l.length ≤ 24 ∧ ((l = nullL ∧ nameB l = false) ∨ (¬ l = nullL ∧ ((isL (l.getD 0 0) = false ∧ nameB l = false) ∨ (isL (l.getD 0 0) = true ∧ nameB l = l.all isW))))))) := by
  cases l with
  | nil => exact .inl ⟨rfl, rfl⟩
  | cons c r =>
    refine .inr ⟨by simp, ?_⟩
    unfold nameB
    simp only
    by_cases h : (c :: r).length ≤ 24
    · refine .inr ⟨h, ?_⟩
      rw [decide_eq_true h, Bool.true_and]
      by_cases h2 : c :: r = nullL
      · exact .inl ⟨h2, by rw [decide_eq_true h2]; rfl⟩
      · refine .inr ⟨h2, ?_⟩
        rw [decide_eq_false h2, Bool.not_false, Bool.true_and]
        show (isL c = false ∧ _) ∨ (isL c = true ∧ _)
        cases isL c with
        | false => exact .inl ⟨rfl, rfl⟩
        | true => exact .inr ⟨rfl, by rw [Bool.true_and]⟩
    · exact .inl ⟨by omega, by rw [decide_eq_false h]; rfl⟩
theorem isName_p (s : ByteArray) : PCall Tryz.prog 163 [Str s] (SB (nameB s.data.toList)) := by
  have ls : s.data.toList.length = s.size := Array.length_toList
  have b1 := bempty s
  have b2 := bnull s
  have h0l := letter_c (s.data.toList.getD 0 0)
  rcases name_cases s.data.toList with ⟨h1, h2⟩ | ⟨h1, ⟨h2, h3⟩ | ⟨h2, ⟨h3, h4⟩ | ⟨h3, h4⟩⟩⟩
  · rw [h2]
    rw [decide_eq_true h1] at b1
    refine Call.enter' (N := 58) (rs := [.tmp 2]) Tryz.func163 rfl rfl rfl (by decide) rfl ?_; simp only [argT]; have hD : (0 : Nat) = 0 := rfl
    repeat' first | (refine SW.seq_k fun K hK => ?_) | ((first | refine SW.region ?_ | refine SW.cond ?_ | refine SW.ret ?_); try simp only [go_sem, hD, b1]) | (apply hK; clear hK K)
    refine ret_pure ?_; simp only [resL_tmp, resL_nil, tupOf, go_sem, hD]
  · rw [h3]
    rw [decide_eq_false h1] at b1
    have h24i : (24 : Int) < ((s.size : Nat) : Int) := by omega
    refine Call.enter' (N := 58) (rs := [.tmp 2]) Tryz.func163 rfl rfl rfl (by decide) rfl ?_; simp only [argT]; have hD : (0 : Nat) = 0 := rfl
    repeat' first | (refine SW.seq_k fun K hK => ?_) | ((first | refine SW.region ?_ | refine SW.cond ?_ | refine SW.ret ?_); try simp only [go_sem, hD, b1, h24i]) | (apply hK; clear hK K)
    refine ret_pure ?_; simp only [resL_tmp, resL_nil, tupOf, go_sem, hD]
  · rw [h4]
    rw [decide_eq_false h1] at b1
    rw [decide_eq_true h3] at b2
    have h24i : ¬ (24 : Int) < ((s.size : Nat) : Int) := by omega
    refine Call.enter' (N := 58) (rs := [.tmp 2]) Tryz.func163 rfl rfl rfl (by decide) rfl ?_; simp only [argT]; have hD : (0 : Nat) = 0 := rfl
    repeat' first | (refine SW.seq_k fun K hK => ?_) | ((first | refine SW.region ?_ | refine SW.cond ?_ | refine SW.ret ?_); try simp only [go_sem, hD, b1, h24i, b2]) | (apply hK; clear hK K)
    refine ret_pure ?_; simp only [resL_tmp, resL_nil, tupOf, go_sem, hD]
  · rw [decide_eq_false h1] at b1
    rw [decide_eq_false h3] at b2
    have h24i : ¬ (24 : Int) < ((s.size : Nat) : Int) := by omega
    obtain ⟨R, hR⟩ : ∃ R, R = nameB s.data.toList := ⟨_, rfl⟩
    rw [← hR] at h4 ⊢
    have h5 : (isL (s.data.toList.getD 0 0) = true ∧ R = (s.data.toList.drop 0).all isW) ∨ (0 = 0 ∧ R = false ∧ isL (s.data.toList.getD 0 0) = false) := by
      rcases h4 with ⟨a, b⟩ | ⟨a, b⟩
      · exact .inr ⟨rfl, b, a⟩
      · exact .inl ⟨a, b⟩
    have h0 : 0 < s.size := by
      rcases Nat.eq_zero_or_pos s.size with h | h
      · exact absurd (List.eq_nil_of_length_eq_zero (by rw [ls]; exact h)) h1
      · exact h
    clear h4 hR
    refine Call.enter' (N := 58) (rs := [.tmp 2]) Tryz.func163 rfl rfl rfl (by decide) rfl ?_; simp only [argT]; have hD : (0 : Nat) = 0 := rfl
    repeat' first | (refine SW.seq_k fun K hK => ?_) | (refine SW.block ?_) | ((first | refine SW.region ?_ | refine SW.cond ?_ | refine SW.skip ?_); try simp only [go_sem, hD, b1, h24i, b2]) | (apply hK; clear hK K)
    obtain ⟨I, hI⟩ : ∃ I : Nat → St → Prop, ∀ k S, I k S ↔ (∃ (i : Nat) , k = s.size - i ∧ i ≤ s.size ∧ ((isL (s.data.toList.getD 0 0) = true ∧ R = (s.data.toList.drop i).all isW) ∨ (i = 0 ∧ R = false ∧ isL (s.data.toList.getD 0 0) = false)) ∧ S = ⟨[(0, Str s), (18, I64 s.size), (19, I64 i)], []⟩) := ⟨fun k S => _, fun _ _ => Iff.rfl⟩
    refine SW.loop' I (s.size) ((hI _ _).2 ⟨0, rfl, Nat.zero_le _, h5, rfl⟩) (by repeat' (first | exact rfl | exact trivial | constructor)) ?_
    intro k S hIn
    obtain ⟨i, rfl, hi, hC, rfl⟩ := (hI _ _).1 hIn
    clear hIn
    have ie : ((i : Nat) : Int).toNat = i := Int.toNat_natCast _
    have i0 : (0 : Int) ≤ ((i : Nat) : Int) := by omega
    clear h5
    by_cases hlt : i < s.size
    · have hli : ((i : Nat) : Int) < (((s.size) : Nat) : Int) := by omega
      have w1 : IntKind.i64.wrap ((i : Int) + 1) = ((i + 1 : Nat) : Int) := by rw [i64_wrap (by omega) (by omega)]; omega
      obtain ⟨c, gc⟩ : ∃ c, s.data.toList.getD i 0 = c := ⟨_, rfl⟩
      have st := all_step (l := s.data.toList) (i := i) (by omega)
      rw [gc] at st
      cases q1 : isL c with
      | true =>
        have hC2 : (isL (s.data.toList.getD 0 0) = true ∧ R = (s.data.toList.drop (i + 1)).all isW) ∨ (i + 1 = 0 ∧ R = false ∧ isL (s.data.toList.getD 0 0) = false) := by
          rcases hC with ⟨a, b⟩ | ⟨rfl, b, d⟩
          · exact .inl ⟨a, by rw [b, st]; unfold isW; rw [q1]; rfl⟩
          · rw [gc, q1] at d
            cases d
        clear hC
        have q2 := q1
        unfold isL at q2
        simp only [Bool.or_eq_true, Bool.and_eq_true, decide_eq_true_eq] at q2
        repeat' first | (refine SW.seq_k fun K hK => ?_) | (refine SW.block ?_) | ((first | refine SW.region ?_ | refine SW.cond ?_ | refine SW.skip ?_); try simp only [go_sem, hD, hli, ie, i0, w1, gc]) | (refine ifI (fun hc => ?_) (fun hc => ?_) <;> first | (exfalso; omega) | skip) | (apply hK; clear hK K)
        all_goals
          refine Rnd.sub (s.size - (i + 1)) (by omega) ((hI _ _).2 ⟨i + 1, rfl, by omega, hC2, rfl⟩) (by repeat' (first | exact rfl | exact trivial | constructor))
      | false =>
        have q2 := q1
        unfold isL at q2
        simp only [Bool.or_eq_false_iff, Bool.and_eq_false_iff, decide_eq_false_iff_not] at q2
        by_cases hz : 0 < i ∧ isD c = true
        · obtain ⟨z1, z2⟩ := hz
          have hC2 : (isL (s.data.toList.getD 0 0) = true ∧ R = (s.data.toList.drop (i + 1)).all isW) ∨ (i + 1 = 0 ∧ R = false ∧ isL (s.data.toList.getD 0 0) = false) := by
            rcases hC with ⟨a, b⟩ | ⟨rfl, b, d⟩
            · exact .inl ⟨a, by rw [b, st]; unfold isW; rw [q1, z2]; rfl⟩
            · exact absurd z1 (Nat.lt_irrefl 0)
          clear hC
          unfold isD at z2
          simp only [Bool.and_eq_true, decide_eq_true_eq] at z2
          have z3 : ¬ ((i : Nat) : Int) = 0 := by omega
          repeat' first | (refine SW.seq_k fun K hK => ?_) | (refine SW.block ?_) | ((first | refine SW.region ?_ | refine SW.cond ?_ | refine SW.skip ?_); try simp only [go_sem, hD, hli, ie, i0, w1, gc, z3]) | (refine ifI (fun hc => ?_) (fun hc => ?_) <;> first | (exfalso; omega) | skip) | (apply hK; clear hK K)
          all_goals
            refine Rnd.sub (s.size - (i + 1)) (by omega) ((hI _ _).2 ⟨i + 1, rfl, by omega, hC2, rfl⟩) (by repeat' (first | exact rfl | exact trivial | constructor))
        · have hC2 : R = false := by
            rcases hC with ⟨a, b⟩ | ⟨rfl, b, d⟩
            · rcases Nat.eq_zero_or_pos i with rfl | h
              · rw [gc, q1] at a
                cases a
              · have : isD c = false := by
                  rw [Bool.eq_false_iff]
                  exact fun x => hz ⟨h, x⟩
                rw [b, st]
                unfold isW
                rw [q1, this]
                rfl
            · exact b
          clear hC
          subst hC2
          rcases Nat.eq_zero_or_pos i with rfl | h
          · repeat' first | (with_reducible refine And.intro (by omega) ?_) | (refine SW.seq_k fun K hK => ?_) | (refine SW.block ?_) | ((first | refine SW.region ?_ | refine SW.cond ?_ | refine SW.skip ?_ | refine SW.ret ?_); try simp only [go_sem, hD, hli, ie, i0, w1, gc]) | (refine ifI (fun hc => ?_) (fun hc => ?_) <;> first | (exfalso; omega) | skip) | (apply hK; clear hK K)
            all_goals
              refine ret_pure ?_; simp only [resL_tmp, resL_nil, tupOf, go_sem, hD]
          · have z2 : isD c = false := by
              rw [Bool.eq_false_iff]
              exact fun x => hz ⟨h, x⟩
            unfold isD at z2
            simp only [Bool.and_eq_false_iff, decide_eq_false_iff_not] at z2
            have z3 : ¬ ((i : Nat) : Int) = 0 := by omega
            repeat' first | (refine SW.seq_k fun K hK => ?_) | (refine SW.block ?_) | ((first | refine SW.region ?_ | refine SW.cond ?_ | refine SW.skip ?_ | refine SW.ret ?_); try simp only [go_sem, hD, hli, ie, i0, w1, gc, z3]) | (refine ifI (fun hc => ?_) (fun hc => ?_) <;> first | (exfalso; omega) | skip) | (apply hK; clear hK K)
            all_goals
              refine ret_pure ?_; simp only [resL_tmp, resL_nil, tupOf, go_sem, hD]
    · have hli : ¬ ((i : Nat) : Int) < (((s.size) : Nat) : Int) := by omega
      have hC2 : R = true := by
        rcases hC with ⟨a, b⟩ | ⟨rfl, b, d⟩
        · rw [b, all_end (l := s.data.toList) (i := i) (by omega)]
        · exfalso; omega
      subst hC2
      repeat' first | (refine SW.seq_k fun K hK => ?_) | ((first | refine SW.region ?_ | refine SW.cond ?_ | refine SW.exit ?_ | refine SW.ret ?_); try simp only [go_sem, hD, hli]) | (apply hK; clear hK K) | (clear hK K; apply hK; clear hK K)
      refine ret_pure ?_; simp only [resL_tmp, resL_nil, tupOf, go_sem, hD]
theorem name_r (s : ByteArray) : PCall Tryz.prog 119 [Str s] (SB (nameB s.data.toList)) := by
  have ls : s.data.toList.length = s.size := Array.length_toList
  have b2 := bnull s
  have h0l := letter_c (s.data.toList.getD 0 0)
  rcases name_cases s.data.toList with ⟨h1, h2⟩ | ⟨h1, h2⟩
  · rw [h2]
    have hz : ((s.size : Nat) : Int) = 0 := by rw [← ls, h1]; rfl
    refine Call.enter' (N := 45) (rs := [.tmp 2]) Tryz.func119 rfl rfl rfl (by decide) rfl ?_; simp only [argT]; have hD : (0 : Nat) = 0 := rfl
    repeat' first | (refine SW.seq_k fun K hK => ?_) | ((first | refine SW.region ?_ | refine SW.cond ?_ | refine SW.ret ?_); try simp only [go_sem, hD, hz]) | (apply hK; clear hK K)
    refine ret_pure ?_; simp only [resL_tmp, resL_nil, tupOf, go_sem, hD]
  · have h0 : 0 < s.size := by
      rcases Nat.eq_zero_or_pos s.size with h | h
      · exact absurd (List.eq_nil_of_length_eq_zero (by rw [ls]; exact h)) h1
      · exact h
    have hz : ¬ ((s.size : Nat) : Int) = 0 := by omega
    have hz1 : (0 : Int) < ((s.size : Nat) : Int) := by omega
    rcases h2 with ⟨h2, h3⟩ | ⟨h2, h3⟩
    · rw [h3]
      have h24i : (24 : Int) < ((s.size : Nat) : Int) := by omega
      refine Call.enter' (N := 45) (rs := [.tmp 2]) Tryz.func119 rfl rfl rfl (by decide) rfl ?_; simp only [argT]; have hD : (0 : Nat) = 0 := rfl
      repeat' first | (refine SW.seq_k fun K hK => ?_) | ((first | refine SW.region ?_ | refine SW.cond ?_ | refine SW.ret ?_); try simp only [go_sem, hD, hz, h24i]) | (apply hK; clear hK K)
      refine ret_pure ?_; simp only [resL_tmp, resL_nil, tupOf, go_sem, hD]
    · have h24i : ¬ (24 : Int) < ((s.size : Nat) : Int) := by omega
      rcases h3 with ⟨h3, h4⟩ | ⟨h3, ⟨h4, h5⟩ | ⟨h4, h5⟩⟩
      · rw [h4]
        rw [decide_eq_true h3] at b2
        cases q : isL (s.data.toList.getD 0 0) with
        | true =>
          rw [q] at h0l
          refine Call.enter' (N := 45) (rs := [.tmp 2]) Tryz.func119 rfl rfl rfl (by decide) rfl ?_; simp only [argT]; have hD : (0 : Nat) = 0 := rfl
          repeat' first | (refine SW.seq_k fun K hK => ?_) | ((first | refine SW.region ?_ | refine SW.cond ?_ | refine SW.ret ?_ | refine Call.of_pure (h0l) ?_); try simp only [go_sem, hD, hz, hz1, h24i, b2]) | (apply hK; clear hK K)
          refine ret_pure ?_; simp only [resL_tmp, resL_nil, tupOf, go_sem, hD]
        | false =>
          rw [q] at h0l
          refine Call.enter' (N := 45) (rs := [.tmp 2]) Tryz.func119 rfl rfl rfl (by decide) rfl ?_; simp only [argT]; have hD : (0 : Nat) = 0 := rfl
          repeat' first | (refine SW.seq_k fun K hK => ?_) | ((first | refine SW.region ?_ | refine SW.cond ?_ | refine SW.ret ?_ | refine Call.of_pure (h0l) ?_); try simp only [go_sem, hD, hz, hz1, h24i, b2]) | (apply hK; clear hK K)
          refine ret_pure ?_; simp only [resL_tmp, resL_nil, tupOf, go_sem, hD]
      · rw [h5]
        rw [h4] at h0l
        refine Call.enter' (N := 45) (rs := [.tmp 2]) Tryz.func119 rfl rfl rfl (by decide) rfl ?_; simp only [argT]; have hD : (0 : Nat) = 0 := rfl
        repeat' first | (refine SW.seq_k fun K hK => ?_) | ((first | refine SW.region ?_ | refine SW.cond ?_ | refine SW.ret ?_ | refine Call.of_pure (h0l) ?_); try simp only [go_sem, hD, hz, hz1, h24i, b2]) | (apply hK; clear hK K)
        refine ret_pure ?_; simp only [resL_tmp, resL_nil, tupOf, go_sem, hD]
      · obtain ⟨R, hR⟩ : ∃ R, R = nameB s.data.toList := ⟨_, rfl⟩
        rw [← hR] at h5 ⊢
        rw [h4] at h0l
        rw [decide_eq_false h3] at b2
        refine Call.enter' (N := 45) (rs := [.tmp 2]) Tryz.func119 rfl rfl rfl (by decide) rfl ?_; simp only [argT]; have hD : (0 : Nat) = 0 := rfl
        repeat' first | (refine SW.seq_k fun K hK => ?_) | (refine SW.block ?_) | ((first | refine SW.region ?_ | refine SW.cond ?_ | refine SW.skip ?_ | refine Call.of_pure (h0l) ?_); try simp only [go_sem, hD, hz, hz1, h24i, b2]) | (apply hK; clear hK K)
        obtain ⟨I, hI⟩ : ∃ I : Nat → St → Prop, ∀ k S, I k S ↔ (∃ (i : Nat) , k = s.size - i ∧ i ≤ s.size ∧ R = (s.data.toList.drop i).all isW ∧ S = ⟨[(0, Str s), (3, I64 i)], []⟩) := ⟨fun k S => _, fun _ _ => Iff.rfl⟩
        refine SW.loop' I (s.size) ((hI _ _).2 ⟨0, rfl, Nat.zero_le _, h5, rfl⟩) (by repeat' (first | exact rfl | exact trivial | constructor)) ?_
        intro k S hIn
        obtain ⟨i, rfl, hi, hC, rfl⟩ := (hI _ _).1 hIn
        clear hIn
        have ie : ((i : Nat) : Int).toNat = i := Int.toNat_natCast _
        have i0 : (0 : Int) ≤ ((i : Nat) : Int) := by omega
        clear h5 hR
        by_cases hlt : i < s.size
        · have hli : ((i : Nat) : Int) < (((s.size) : Nat) : Int) := by omega
          have w1 : IntKind.i64.wrap ((i : Int) + 1) = ((i + 1 : Nat) : Int) := by rw [i64_wrap (by omega) (by omega)]; omega
          rw [all_step (by omega)] at hC
          obtain ⟨c, gc⟩ : ∃ c, s.data.toList.getD i 0 = c := ⟨_, rfl⟩
          rw [gc] at hC
          have lc := letter_c c
          cases q1 : isL c with
          | true =>
            rw [q1] at lc
            have hC2 : R = (s.data.toList.drop (i + 1)).all isW := by rw [hC]; unfold isW; rw [q1]; rfl
            repeat' first | (refine SW.seq_k fun K hK => ?_) | (refine SW.block ?_) | ((first | refine SW.region ?_ | refine SW.cond ?_ | refine SW.skip ?_ | refine Call.of_pure (lc) ?_); try simp only [go_sem, hD, hli, ie, i0, w1, gc]) | (apply hK; clear hK K)
            refine Rnd.sub (s.size - (i + 1)) (by omega) ((hI _ _).2 ⟨i + 1, rfl, by omega, hC2, rfl⟩) (by repeat' (first | exact rfl | exact trivial | constructor))
          | false =>
            rw [q1] at lc
            cases q2 : isD c with
            | true =>
              have hC2 : R = (s.data.toList.drop (i + 1)).all isW := by rw [hC]; unfold isW; rw [q1, q2]; rfl
              unfold isD at q2
              simp only [Bool.and_eq_true, decide_eq_true_eq] at q2
              repeat' first | (refine SW.seq_k fun K hK => ?_) | (refine SW.block ?_) | ((first | refine SW.region ?_ | refine SW.cond ?_ | refine SW.skip ?_ | refine Call.of_pure (lc) ?_); try simp only [go_sem, hD, hli, ie, i0, w1, gc]) | (refine ifI (fun hc => ?_) (fun hc => ?_) <;> first | (exfalso; omega) | skip) | (apply hK; clear hK K)
              refine Rnd.sub (s.size - (i + 1)) (by omega) ((hI _ _).2 ⟨i + 1, rfl, by omega, hC2, rfl⟩) (by repeat' (first | exact rfl | exact trivial | constructor))
            | false =>
              have hC2 : R = false := by rw [hC]; unfold isW; rw [q1, q2]; rfl
              subst hC2
              unfold isD at q2
              simp only [Bool.and_eq_false_iff, decide_eq_false_iff_not] at q2
              repeat' first | (refine SW.seq_k fun K hK => ?_) | (refine SW.block ?_) | ((first | refine SW.region ?_ | refine SW.cond ?_ | refine SW.skip ?_ | refine SW.ret ?_ | refine Call.of_pure (lc) ?_); try simp only [go_sem, hD, hli, ie, i0, w1, gc]) | (refine ifI (fun hc => ?_) (fun hc => ?_) <;> first | (exfalso; omega) | skip) | (apply hK; clear hK K)
              all_goals
                refine ret_pure ?_; simp only [resL_tmp, resL_nil, tupOf, go_sem, hD]
        · have hli : ¬ ((i : Nat) : Int) < (((s.size) : Nat) : Int) := by omega
          rw [all_end (l := s.data.toList) (i := i) (by omega)] at hC
          subst hC
          repeat' first | (refine SW.seq_k fun K hK => ?_) | ((first | refine SW.region ?_ | refine SW.cond ?_ | refine SW.exit ?_ | refine SW.ret ?_); try simp only [go_sem, hD, hli]) | (apply hK; clear hK K) | (clear hK K; apply hK; clear hK K)
          refine ret_pure ?_; simp only [resL_tmp, resL_nil, tupOf, go_sem, hD]
end Go.Proofs.YtpidncgibgiidaaGreat
namespace Go.Ab.A34
open Go Go.Ab
def posS (x : ByteArray) : Nat → List ByteArray → Int
  | _, [] => -1
  | i, y :: l => if x = y then (i : Int) else posS x (i + 1) l
theorem posS_step {x : ByteArray} {l : List ByteArray} {i : Nat} (h : i < l.length) : posS x i (l.drop i) = if x = l.getD i ⟨#[]⟩ then (i : Int) else posS x (i + 1) (l.drop (i + 1)) := by
  have g : l.getD i ⟨#[]⟩ = l[i] := by simp [List.getD_eq_getElem?_getD, h]
  rw [List.drop_eq_getElem_cons h, g]
  rfl
def namesF (l : List ByteArray) : Nat → Nat → Bool
  | 0, _ => true
  | g + 1, i => nameB (l.getD i ⟨#[]⟩).data.toList && (!decide (0 ≤ posS (l.getD i ⟨#[]⟩) 0 (l.take i))) && namesF l g (i + 1)
def namesB (l : List ByteArray) : Bool := namesF l l.length 0
def sF (l : List ByteArray) (i : Nat) : List SV := [.sc (.string (l.getD i ⟨#[]⟩))]
abbrev SL (l : List ByteArray) : SV := .fl l.length 1 (sF l)
theorem getD_take {α : Type} (l : List α) (n i : Nat) (d : α) (h : i < n) : (l.take n).getD i d = l.getD i d := by
  rw [List.getD_eq_getElem?_getD, List.getD_eq_getElem?_getD, List.getElem?_take, if_pos h]
end Go.Ab.A34
namespace Go.Proofs.YtpidncgibgiidaaGreat
open Go Go.Ab Go.Ab.A34
variable [Gl] [Tabs]
theorem index_c (x : ByteArray) (l : List ByteArray) (n : Nat) (hl : n ≤ 1000000) (hn : l.length = n) (f : Nat → List SV) (hf : ∀ i, i < n → f i = [Str (l.getD i ⟨#[]⟩)]) : PCall Tryz.prog 192 [.fl n 1 f, Str x] (I64 (posS x 0 l)) := by
  subst hn
  obtain ⟨R, hR⟩ : ∃ R, R = posS x 0 l := ⟨_, rfl⟩
  rw [← hR]
  refine Call.enter' (N := 19) (rs := [.tmp 4]) Tryz.func192 rfl rfl rfl (by decide) rfl ?_; simp only [argT]; have hD : (0 : Nat) = 0 := rfl
  repeat' first | (refine SW.seq_k fun K hK => ?_) | (refine SW.block ?_) | (refine SW.region ?_; try simp only [go_sem, hD]) | (apply hK; clear hK K)
  obtain ⟨I, hI⟩ : ∃ I : Nat → St → Prop, ∀ k S, I k S ↔ (∃ (i : Nat) , k = l.length - i ∧ i ≤ l.length ∧ R = posS x i (l.drop i) ∧ S = ⟨[(0, .fl l.length 1 f), (1, Str x), (7, I64 l.length), (8, I64 i)], []⟩) := ⟨fun k S => _, fun _ _ => Iff.rfl⟩
  refine SW.loop' I (l.length) ((hI _ _).2 ⟨0, rfl, Nat.zero_le _, by rw [List.drop_zero]; exact hR, rfl⟩) (by repeat' (first | exact rfl | exact trivial | constructor)) ?_
  intro k S hIn
  obtain ⟨i, rfl, hi, hC, rfl⟩ := (hI _ _).1 hIn
  clear hIn
  have ie : ((i : Nat) : Int).toNat = i := Int.toNat_natCast _
  have i0 : (0 : Int) ≤ ((i : Nat) : Int) := by omega
  clear hR
  by_cases hlt : i < l.length
  · have hli : ((i : Nat) : Int) < (((l.length) : Nat) : Int) := by omega
    have w1 : IntKind.i64.wrap ((i : Int) + 1) = ((i + 1 : Nat) : Int) := by rw [i64_wrap (by omega) (by omega)]; omega
    rw [posS_step hlt] at hC
    have fi := hf i hlt
    by_cases he : x = l.getD i ⟨#[]⟩
    · rw [if_pos he] at hC
      have ee : (x.toList == (l.getD i ⟨#[]⟩).toList) = true := barr_eq.2 he
      subst hC
      repeat' first | (refine SW.seq_k fun K hK => ?_) | (refine SW.block ?_) | ((first | refine SW.region ?_ | refine SW.cond ?_ | refine SW.skip ?_ | refine SW.ret ?_); try simp only [go_sem, hD, hli, ie, i0, w1, fi, ee]) | (apply hK; clear hK K)
      refine ret_pure ?_; simp only [resL_tmp, resL_nil, tupOf, go_sem, hD]
    · rw [if_neg he] at hC
      have ee : (x.toList == (l.getD i ⟨#[]⟩).toList) = false := by rw [Bool.eq_false_iff]; exact fun h => he (barr_eq.1 h)
      repeat' first | (refine SW.seq_k fun K hK => ?_) | (refine SW.block ?_) | ((first | refine SW.region ?_ | refine SW.cond ?_ | refine SW.skip ?_); try simp only [go_sem, hD, hli, ie, i0, w1, fi, ee]) | (apply hK; clear hK K)
      refine Rnd.sub (l.length - (i + 1)) (by omega) ((hI _ _).2 ⟨i + 1, rfl, by omega, hC, rfl⟩) (by repeat' (first | exact rfl | exact trivial | constructor))
  · have hli : ¬ ((i : Nat) : Int) < (((l.length) : Nat) : Int) := by omega
    rw [List.drop_of_length_le (by omega)] at hC
    have hC2 : R = -1 := hC
    subst hC2
    repeat' first | (refine SW.seq_k fun K hK => ?_) | ((first | refine SW.region ?_ | refine SW.cond ?_ | refine SW.exit ?_ | refine SW.ret ?_); try simp only [go_sem, hD, hli]) | (apply hK; clear hK K) | (clear hK K; apply hK; clear hK K)
    refine ret_pure ?_; simp only [resL_tmp, resL_nil, tupOf, go_sem, hD]
theorem contains_c (x : ByteArray) (l : List ByteArray) (n : Nat) (hl : n ≤ 1000000) (hn : l.length = n) (f : Nat → List SV) (hf : ∀ i, i < n → f i = [Str (l.getD i ⟨#[]⟩)]) : PCall Tryz.prog 164 [.fl n 1 f, Str x] (SB (decide (0 ≤ posS x 0 l))) := by
  have ix := index_c x l n hl hn f hf
  refine Call.enter' (N := 9) (rs := [.tmp 4]) Tryz.func164 rfl rfl rfl (by decide) rfl ?_; simp only [argT]; have hD : (0 : Nat) = 0 := rfl
  repeat' first | (refine SW.seq_k fun K hK => ?_) | ((first | refine SW.region ?_ | refine SW.ret ?_ | refine Call.of_pure (ix) ?_); try simp only [go_sem, hD]) | (apply hK; clear hK K)
  refine ret_pure ?_; simp only [resL_tmp, resL_nil, tupOf, go_sem, hD]
theorem attr_r (x : ByteArray) (l : List ByteArray) (n : Nat) (hl : n ≤ 1000000) (hn : l.length = n) (f : Nat → List SV) (hf : ∀ i, i < n → f i = [Str (l.getD i ⟨#[]⟩)]) : PCall Tryz.prog 158 [.fl n 1 f, Str x] (I64 (posS x 0 l)) := by
  subst hn
  obtain ⟨R, hR⟩ : ∃ R, R = posS x 0 l := ⟨_, rfl⟩
  rw [← hR]
  refine Call.enter' (N := 19) (rs := [.tmp 4]) Tryz.func158 rfl rfl rfl (by decide) rfl ?_; simp only [argT]; have hD : (0 : Nat) = 0 := rfl
  repeat' first | (refine SW.seq_k fun K hK => ?_) | (refine SW.block ?_) | (refine SW.region ?_; try simp only [go_sem, hD]) | (apply hK; clear hK K)
  obtain ⟨I, hI⟩ : ∃ I : Nat → St → Prop, ∀ k S, I k S ↔ (∃ (i : Nat) , k = l.length - i ∧ i ≤ l.length ∧ R = posS x i (l.drop i) ∧ S = ⟨[(0, .fl l.length 1 f), (1, Str x), (5, I64 i)], []⟩) := ⟨fun k S => _, fun _ _ => Iff.rfl⟩
  refine SW.loop' I (l.length) ((hI _ _).2 ⟨0, rfl, Nat.zero_le _, by rw [List.drop_zero]; exact hR, rfl⟩) (by repeat' (first | exact rfl | exact trivial | constructor)) ?_
  intro k S hIn
  obtain ⟨i, rfl, hi, hC, rfl⟩ := (hI _ _).1 hIn
  clear hIn
  have ie : ((i : Nat) : Int).toNat = i := Int.toNat_natCast _
  have i0 : (0 : Int) ≤ ((i : Nat) : Int) := by omega
  clear hR
  by_cases hlt : i < l.length
  · have hli : ((i : Nat) : Int) < (((l.length) : Nat) : Int) := by omega
    have w1 : IntKind.i64.wrap ((i : Int) + 1) = ((i + 1 : Nat) : Int) := by rw [i64_wrap (by omega) (by omega)]; omega
    rw [posS_step hlt] at hC
    have fi := hf i hlt
    by_cases he : x = l.getD i ⟨#[]⟩
    · rw [if_pos he] at hC
      have ee : ((l.getD i ⟨#[]⟩).toList == x.toList) = true := barr_eq.2 he.symm
      subst hC
      repeat' first | (refine SW.seq_k fun K hK => ?_) | (refine SW.block ?_) | ((first | refine SW.region ?_ | refine SW.cond ?_ | refine SW.skip ?_ | refine SW.ret ?_); try simp only [go_sem, hD, hli, ie, i0, w1, fi, ee]) | (apply hK; clear hK K)
      refine ret_pure ?_; simp only [resL_tmp, resL_nil, tupOf, go_sem, hD]
    · rw [if_neg he] at hC
      have ee : ((l.getD i ⟨#[]⟩).toList == x.toList) = false := by rw [Bool.eq_false_iff]; exact fun h => he (barr_eq.1 h).symm
      repeat' first | (refine SW.seq_k fun K hK => ?_) | (refine SW.block ?_) | ((first | refine SW.region ?_ | refine SW.cond ?_ | refine SW.skip ?_); try simp only [go_sem, hD, hli, ie, i0, w1, fi, ee]) | (apply hK; clear hK K)
      refine Rnd.sub (l.length - (i + 1)) (by omega) ((hI _ _).2 ⟨i + 1, rfl, by omega, hC, rfl⟩) (by repeat' (first | exact rfl | exact trivial | constructor))
  · have hli : ¬ ((i : Nat) : Int) < (((l.length) : Nat) : Int) := by omega
    rw [List.drop_of_length_le (by omega)] at hC
    have hC2 : R = -1 := hC
    subst hC2
    repeat' first | (refine SW.seq_k fun K hK => ?_) | ((first | refine SW.region ?_ | refine SW.cond ?_ | refine SW.exit ?_ | refine SW.ret ?_); try simp only [go_sem, hD, hli]) | (apply hK; clear hK K) | (clear hK K; apply hK; clear hK K)
    refine ret_pure ?_; simp only [resL_tmp, resL_nil, tupOf, go_sem, hD]
theorem sF_take {l : List ByteArray} {i j : Nat} (hj : j < i) : sF l j = [Str ((l.take i).getD j ⟨#[]⟩)] := by
  rw [getD_take _ _ _ _ hj]
  rfl
theorem names_r (l : List ByteArray) (hl : l.length ≤ 1000000) : PCall Tryz.prog 120 [SL l] (SB (namesB l)) := by
  obtain ⟨R, hR⟩ : ∃ R, R = namesB l := ⟨_, rfl⟩
  rw [← hR]
  unfold namesB at hR
  refine Call.enter' (N := 27) (rs := [.tmp 2]) Tryz.func120 rfl rfl rfl (by decide) rfl ?_; simp only [argT]; have hD : (0 : Nat) = 0 := rfl
  repeat' first | (refine SW.seq_k fun K hK => ?_) | (refine SW.block ?_) | (refine SW.region ?_; try simp only [go_sem, hD]) | (apply hK; clear hK K)
  obtain ⟨I, hI⟩ : ∃ I : Nat → St → Prop, ∀ k S, I k S ↔ (∃ (i : Nat) , k = l.length - i ∧ i ≤ l.length ∧ R = namesF l (l.length - i) i ∧ S = ⟨[(0, SL l), (3, I64 i)], []⟩) := ⟨fun k S => _, fun _ _ => Iff.rfl⟩
  refine SW.loop' I (l.length) ((hI _ _).2 ⟨0, rfl, Nat.zero_le _, hR, rfl⟩) (by repeat' (first | exact rfl | exact trivial | constructor)) ?_
  intro k S hIn
  obtain ⟨i, rfl, hi, hC, rfl⟩ := (hI _ _).1 hIn
  clear hIn
  have ie : ((i : Nat) : Int).toNat = i := Int.toNat_natCast _
  have i0 : (0 : Int) ≤ ((i : Nat) : Int) := by omega
  clear hR
  by_cases hlt : i < l.length
  · have hli : ((i : Nat) : Int) < (((l.length) : Nat) : Int) := by omega
    have w1 : IntKind.i64.wrap ((i : Int) + 1) = ((i + 1 : Nat) : Int) := by rw [i64_wrap (by omega) (by omega)]; omega
    have e : l.length - i = (l.length - (i + 1)) + 1 := by omega
    rw [e, namesF] at hC
    have iz : (((i : Nat) : Int) - 0).toNat = i := by omega
    have il : ((i : Nat) : Int) ≤ ((l.length : Nat) : Int) := by omega
    have fi : sF l i = [Str (l.getD i ⟨#[]⟩)] := rfl
    have nm := name_r (l.getD i ⟨#[]⟩)
    have at' := attr_r (l.getD i ⟨#[]⟩) (l.take i) i (by omega) (by rw [List.length_take]; omega) (sF l) (fun j hj => sF_take (l := l) hj)
    generalize posS (l.getD i ⟨#[]⟩) 0 (l.take i) = q at *
    cases q1 : nameB (l.getD i ⟨#[]⟩).data.toList with
    | false =>
      rw [q1] at nm hC
      have hC2 : R = false := hC
      subst hC2
      repeat' first | (refine SW.seq_k fun K hK => ?_) | (refine SW.block ?_) | ((first | refine SW.region ?_ | refine SW.regionD (Checked.mixed Tryz.checked) (by kernel_rfl) ?_ | refine SW.cond ?_ | refine SW.skip ?_ | refine SW.ret ?_ | refine ⟨_, nm, ?_⟩); try simp only [go_sem, hD, hli, ie, i0, w1, fi, iz, il]) | (apply hK; clear hK K)
      refine ret_pure ?_; simp only [resL_tmp, resL_nil, tupOf, go_sem, hD]
    | true =>
      rw [q1] at nm hC
      rw [Bool.true_and] at hC
      by_cases hq : 0 ≤ q
      · rw [decide_eq_true hq] at hC
        have hC2 : R = false := hC
        subst hC2
        repeat' first | (refine SW.seq_k fun K hK => ?_) | (refine SW.block ?_) | ((first | refine SW.region ?_ | refine SW.regionD (Checked.mixed Tryz.checked) (by kernel_rfl) ?_ | refine SW.cond ?_ | refine SW.skip ?_ | refine SW.ret ?_ | refine ⟨_, nm, ?_⟩ | refine ⟨_, at', ?_⟩); try simp only [go_sem, hD, hli, ie, i0, w1, fi, iz, il, hq]) | (apply hK; clear hK K)
        refine ret_pure ?_; simp only [resL_tmp, resL_nil, tupOf, go_sem, hD]
      · rw [decide_eq_false hq, Bool.not_false, Bool.true_and] at hC
        repeat' first | (refine SW.seq_k fun K hK => ?_) | (refine SW.block ?_) | ((first | refine SW.region ?_ | refine SW.regionD (Checked.mixed Tryz.checked) (by kernel_rfl) ?_ | refine SW.cond ?_ | refine SW.skip ?_ | refine ⟨_, nm, ?_⟩ | refine ⟨_, at', ?_⟩); try simp only [go_sem, hD, hli, ie, i0, w1, fi, iz, il, hq]) | (apply hK; clear hK K)
        refine Rnd.sub (l.length - (i + 1)) (by omega) ((hI _ _).2 ⟨i + 1, rfl, by omega, hC, rfl⟩) (by repeat' (first | exact rfl | exact trivial | constructor))
  · have hli : ¬ ((i : Nat) : Int) < (((l.length) : Nat) : Int) := by omega
    have e : l.length - i = 0 := by omega
    rw [e] at hC
    have hC2 : R = true := hC
    subst hC2
    repeat' first | (refine SW.seq_k fun K hK => ?_) | ((first | refine SW.region ?_ | refine SW.cond ?_ | refine SW.exit ?_ | refine SW.ret ?_); try simp only [go_sem, hD, hli]) | (apply hK; clear hK K) | (clear hK K; apply hK; clear hK K)
    refine ret_pure ?_; simp only [resL_tmp, resL_nil, tupOf, go_sem, hD]
end Go.Proofs.YtpidncgibgiidaaGreat
namespace Go.Ab
theorem St.le_only [Gl] {t : List (Nat × SV)} {h : Heap} {b : Nat} {k : Blk} (hm : (b, k) ∈ h) : (St.mk t h).le ⟨t, [(b, k)]⟩ := St.le_sublist (fun x hx => by
  rw [List.mem_singleton] at hx
  rw [hx]
  exact hm) (fun _ => by simp)
end Go.Ab
namespace Go.Ab.A34
open Go Go.Ab Go.Proofs
abbrev V3 := Int × Int × ByteArray
def v0 : V3 := (0, 0, ⟨#[]⟩)
def encV (v : V3) : List Value := [.int .i64 v.1, .int .i64 v.2.1, .string v.2.2]
abbrev vC (v : V3) : List SV := [I64 v.1, I64 v.2.1, Str v.2.2]
abbrev VV (v : V3) : SV := .agg (vC v)
def vF (l : List V3) (i : Nat) : List SV := vC (l.getD i v0)
abbrev VL (l : List V3) : SV := .fl l.length 3 (vF l)
abbrev R3 := Int × List V3
def r0 : R3 := (0, [])
def rC (r : R3) : List SV := [I64 r.1, VL r.2]
def rF (l : List R3) (i : Nat) : List SV := rC (l.getD i r0)
abbrev RL (l : List R3) : SV := .fl l.length 2 (rF l)
structure Tb where
  name : ByteArray
  attrs : List ByteArray
  rows : List R3
abbrev TB (t : Tb) : SV := .agg [Str t.name, SL t.attrs, RL t.rows]
def okV (v : V3) : Bool := vok v.1 v.2.1 v.2.2
def rowsV (n : Nat) : Int → List R3 → Int
  | _, [] => 0
  | last, r :: l => if r.1 ≤ last then 1 else if ¬ r.2.length = n then 6 else if r.2.all okV = true then rowsV n r.1 l else 1
def validS (t : Tb) : Int :=
  if nameB t.name.data.toList = true then
    if 16 < t.attrs.length ∨ 1000 < t.rows.length then 3
    else if namesB t.attrs = true then rowsV t.attrs.length 0 t.rows else 1
  else 1
theorem okV_step {l : List V3} {i : Nat} (h : i < l.length) : (l.drop i).all okV = (okV (l.getD i v0) && (l.drop (i + 1)).all okV) := by
  have g : l.getD i v0 = l[i] := by simp [List.getD_eq_getElem?_getD, h]
  rw [List.drop_eq_getElem_cons h, List.all_cons, g]
theorem rowsV_step {n : Nat} {p : Int} {l : List R3} {i : Nat} (h : i < l.length) : rowsV n p (l.drop i) = if (l.getD i r0).1 ≤ p then 1 else if ¬ (l.getD i r0).2.length = n then 6 else if (l.getD i r0).2.all okV = true then rowsV n (l.getD i r0).1 (l.drop (i + 1)) else 1 := by
  have g : l.getD i r0 = l[i] := by simp [List.getD_eq_getElem?_getD, h]
  rw [List.drop_eq_getElem_cons h, g]
  rfl
theorem getD_mem {α : Type} (d : α) {l : List α} {i : Nat} (h : i < l.length) : l.getD i d ∈ l := by
  have g : l.getD i d = l[i] := by simp [List.getD_eq_getElem?_getD, h]
  rw [g]
  exact List.getElem_mem h
def posF {α : Type} (p : α → Bool) : Nat → List α → Int
  | _, [] => -1
  | i, y :: l => if p y = true then (i : Int) else posF p (i + 1) l
theorem posF_any {α : Type} (p : α → Bool) : ∀ (l : List α) (i : Nat), (0 ≤ posF p i l ↔ l.any p = true)
  | [], i => by
    unfold posF
    simp
  | y :: l, i => by
    unfold posF
    by_cases h : p y = true
    · rw [if_pos h]
      simp [h]
    · rw [if_neg h, posF_any p l (i + 1), List.any_cons, Bool.eq_false_iff.2 h, Bool.false_or]
theorem posF_step {α : Type} {p : α → Bool} (d : α) {l : List α} {i : Nat} (h : i < l.length) : posF p i (l.drop i) = if p (l.getD i d) = true then (i : Int) else posF p (i + 1) (l.drop (i + 1)) := by
  have g : l.getD i d = l[i] := by simp [List.getD_eq_getElem?_getD, h]
  rw [List.drop_eq_getElem_cons h, g]
  rfl
end Go.Ab.A34
namespace Go.Proofs.YtpidncgibgiidaaGreat
open Go Go.Ab Go.Ab.A34
variable [Gl] [Tabs]
theorem valids_r (l : List V3) (hl : l.length ≤ 9223372036854775807) : PCall Tryz.prog 83 [VL l] (SB (l.all okV)) := by
  obtain ⟨R, hR⟩ : ∃ R, R = l.all okV := ⟨_, rfl⟩
  rw [← hR]
  refine Call.enter' (N := 16) (rs := [.tmp 2]) Tryz.func83 rfl rfl rfl (by decide) rfl ?_; simp only [argT]; have hD : (0 : Nat) = 0 := rfl
  repeat' first | (refine SW.seq_k fun K hK => ?_) | (refine SW.block ?_) | (refine SW.region ?_; try simp only [go_sem, hD]) | (apply hK; clear hK K)
  obtain ⟨I, hI⟩ : ∃ I : Nat → St → Prop, ∀ k S, I k S ↔ (∃ (i : Nat) , k = l.length - i ∧ i ≤ l.length ∧ R = (l.drop i).all okV ∧ S = ⟨[(0, VL l), (3, I64 i)], []⟩) := ⟨fun k S => _, fun _ _ => Iff.rfl⟩
  refine SW.loop' I (l.length) ((hI _ _).2 ⟨0, rfl, Nat.zero_le _, hR, rfl⟩) (by repeat' (first | exact rfl | exact trivial | constructor)) ?_
  intro k S hIn
  obtain ⟨i, rfl, hi, hC, rfl⟩ := (hI _ _).1 hIn
  clear hIn
  have ie : ((i : Nat) : Int).toNat = i := Int.toNat_natCast _
  have i0 : (0 : Int) ≤ ((i : Nat) : Int) := by omega
  clear hR
  by_cases hlt : i < l.length
  · have hli : ((i : Nat) : Int) < (((l.length) : Nat) : Int) := by omega
    have w1 : IntKind.i64.wrap ((i : Int) + 1) = ((i + 1 : Nat) : Int) := by rw [i64_wrap (by omega) (by omega)]; omega
    rw [okV_step hlt] at hC
    obtain ⟨k, n, s, hv⟩ : ∃ k n s, l.getD i v0 = (k, n, s) := ⟨_, _, _, rfl⟩
    rw [hv] at hC
    have fi : vF l i = [I64 k, I64 n, Str s] := by unfold vF; rw [hv]
    have va := valid_r k n s
    cases q : vok k n s with
    | true =>
      rw [q] at va
      have hC2 : R = (l.drop (i + 1)).all okV := by rw [hC]; unfold okV; simp only; rw [q]; rfl
      repeat' first | (refine SW.seq_k fun K hK => ?_) | (refine SW.block ?_) | ((first | refine SW.region ?_ | refine SW.cond ?_ | refine SW.skip ?_ | refine Call.of_pure (va) ?_); try simp only [go_sem, hD, hli, ie, i0, w1, fi]) | (apply hK; clear hK K)
      refine Rnd.sub (l.length - (i + 1)) (by omega) ((hI _ _).2 ⟨i + 1, rfl, by omega, hC2, rfl⟩) (by repeat' (first | exact rfl | exact trivial | constructor))
    | false =>
      rw [q] at va
      have hC2 : R = false := by rw [hC]; unfold okV; simp only; rw [q]; rfl
      subst hC2
      repeat' first | (refine SW.seq_k fun K hK => ?_) | (refine SW.block ?_) | ((first | refine SW.region ?_ | refine SW.cond ?_ | refine SW.skip ?_ | refine SW.ret ?_ | refine Call.of_pure (va) ?_); try simp only [go_sem, hD, hli, ie, i0, w1, fi]) | (apply hK; clear hK K)
      refine ret_pure ?_; simp only [resL_tmp, resL_nil, tupOf, go_sem, hD]
  · have hli : ¬ ((i : Nat) : Int) < (((l.length) : Nat) : Int) := by omega
    rw [List.drop_of_length_le (by omega)] at hC
    have hC2 : R = true := hC
    subst hC2
    repeat' first | (refine SW.seq_k fun K hK => ?_) | ((first | refine SW.region ?_ | refine SW.cond ?_ | refine SW.exit ?_ | refine SW.ret ?_); try simp only [go_sem, hD, hli]) | (apply hK; clear hK K) | (clear hK K; apply hK; clear hK K)
    refine ret_pure ?_; simp only [resL_tmp, resL_nil, tupOf, go_sem, hD]
theorem notValid_p (k n : Int) (s : ByteArray) : PCall Tryz.prog 194 [.agg [I64 k, I64 n, Str s]] (SB (!(vok k n s))) := by
  have va := valid_p k n s
  refine Call.enter' (N := 6) (rs := [.tmp 2]) Tryz.func194 rfl rfl rfl (by decide) rfl ?_; simp only [argT]; have hD : (0 : Nat) = 0 := rfl
  repeat' first | (refine SW.seq_k fun K hK => ?_) | ((first | refine SW.region ?_ | refine SW.ret ?_ | refine Call.of_pure (va) ?_ | (refine allF_i fun b hb => ?_; replace hD := And.intro hb hD; clear hb; try simp only [fresh_cons, fresh_nil, and_true, ne_eq, neF] at hD)); try simp only [go_sem, hD]) | (apply hK; clear hK K)
  refine ret_pure ?_; simp only [resL_tmp, resL_nil, tupOf, go_sem, hD]
theorem indexF_v (p : V3 → Bool) (g : Nat) (hg : ∀ v, PCall Tryz.prog g [VV v] (SB (p v))) (l : List V3) (hl : l.length ≤ 9223372036854775807) : PCall Tryz.prog 205 [VL l, .fn (.func g) [] []] (I64 (posF p 0 l)) := by
  obtain ⟨R, hR⟩ : ∃ R, R = posF p 0 l := ⟨_, rfl⟩
  rw [← hR]
  refine Call.enter' (N := 19) (rs := [.tmp 4]) Tryz.func205 rfl rfl rfl (by decide) rfl ?_; simp only [argT]; have hD : (0 : Nat) = 0 := rfl
  repeat' first | (refine SW.seq_k fun K hK => ?_) | (refine SW.block ?_) | (refine SW.region ?_; try simp only [go_sem, hD]) | (apply hK; clear hK K)
  obtain ⟨I, hI⟩ : ∃ I : Nat → St → Prop, ∀ k S, I k S ↔ (∃ (i : Nat) , k = l.length - i ∧ i ≤ l.length ∧ R = posF p i (l.drop i) ∧ S = ⟨[(0, VL l), (1, .fn (.func g) [] []), (7, I64 l.length), (8, I64 i)], []⟩) := ⟨fun k S => _, fun _ _ => Iff.rfl⟩
  refine SW.loop' I (l.length) ((hI _ _).2 ⟨0, rfl, Nat.zero_le _, hR, rfl⟩) (by repeat' (first | exact rfl | exact trivial | constructor)) ?_
  intro k S hIn
  obtain ⟨i, rfl, hi, hC, rfl⟩ := (hI _ _).1 hIn
  clear hIn
  have ie : ((i : Nat) : Int).toNat = i := Int.toNat_natCast _
  have i0 : (0 : Int) ≤ ((i : Nat) : Int) := by omega
  clear hR
  by_cases hlt : i < l.length
  · have hli : ((i : Nat) : Int) < (((l.length) : Nat) : Int) := by omega
    have w1 : IntKind.i64.wrap ((i : Int) + 1) = ((i + 1 : Nat) : Int) := by rw [i64_wrap (by omega) (by omega)]; omega
    rw [posF_step v0 hlt] at hC
    obtain ⟨k, n, s, hv⟩ : ∃ k n s, l.getD i v0 = (k, n, s) := ⟨_, _, _, rfl⟩
    rw [hv] at hC
    have fi : vF l i = [I64 k, I64 n, Str s] := by unfold vF; rw [hv]
    have hp := hg (k, n, s)
    cases q : p (k, n, s) with
    | true =>
      rw [q] at hp
      rw [q, if_pos rfl] at hC
      subst hC
      repeat' first | (refine SW.seq_k fun K hK => ?_) | (refine SW.block ?_) | ((first | refine SW.region ?_ | refine SW.cond ?_ | refine SW.skip ?_ | refine SW.ret ?_ | refine Call.of_pure (hp) ?_); try simp only [go_sem, hD, hli, ie, i0, w1, fi]) | (apply hK; clear hK K)
      refine ret_pure ?_; simp only [resL_tmp, resL_nil, tupOf, go_sem, hD]
    | false =>
      rw [q] at hp
      rw [q, if_neg (by simp)] at hC
      repeat' first | (refine SW.seq_k fun K hK => ?_) | (refine SW.block ?_) | ((first | refine SW.region ?_ | refine SW.cond ?_ | refine SW.skip ?_ | refine Call.of_pure (hp) ?_); try simp only [go_sem, hD, hli, ie, i0, w1, fi]) | (apply hK; clear hK K)
      refine Rnd.sub (l.length - (i + 1)) (by omega) ((hI _ _).2 ⟨i + 1, rfl, by omega, hC, rfl⟩) (by repeat' (first | exact rfl | exact trivial | constructor))
  · have hli : ¬ ((i : Nat) : Int) < (((l.length) : Nat) : Int) := by omega
    rw [List.drop_of_length_le (by omega)] at hC
    have hC2 : R = -1 := hC
    subst hC2
    repeat' first | (refine SW.seq_k fun K hK => ?_) | ((first | refine SW.region ?_ | refine SW.cond ?_ | refine SW.exit ?_ | refine SW.ret ?_); try simp only [go_sem, hD, hli]) | (apply hK; clear hK K) | (clear hK K; apply hK; clear hK K)
    refine ret_pure ?_; simp only [resL_tmp, resL_nil, tupOf, go_sem, hD]
theorem validValues_p (l : List V3) (hl : l.length ≤ 9223372036854775807) : PCall Tryz.prog 165 [VL l] (SB (l.all okV)) := by
  have ix := indexF_v (fun v => !(okV v)) 194 (fun v => notValid_p v.1 v.2.1 v.2.2) l hl
  have hm := posF_any (fun v => !(okV v)) l 0
  have cf : PCall Tryz.prog 193 [VL l, .fn (.func 194) [] []] (SB (!(l.all okV))) := by
    refine Call.enter' (N := 9) (rs := [.tmp 4]) Tryz.func193 rfl rfl rfl (by decide) rfl ?_; simp only [argT]; have hD : (0 : Nat) = 0 := rfl
    repeat' first | (refine SW.seq_k fun K hK => ?_) | ((first | refine SW.region ?_ | refine SW.ret ?_ | refine Call.of_pure (ix) ?_); try simp only [go_sem, hD]) | (apply hK; clear hK K)
    refine ret_pure ?_; simp only [resL_tmp, resL_nil, tupOf, go_sem, hD]
    refine congrArg (fun b => SV.sc (.bool b)) ?_
    rw [Bool.eq_iff_iff, decide_eq_true_eq, hm, List.any_eq_true]
    simp
  refine Call.enter' (N := 6) (rs := [.tmp 2]) Tryz.func165 rfl rfl rfl (by decide) rfl ?_; simp only [argT]; have hD : (0 : Nat) = 0 := rfl
  repeat' first | (refine SW.seq_k fun K hK => ?_) | ((first | refine SW.region ?_ | refine SW.ret ?_ | refine Call.of_pure (cf) ?_); try simp only [go_sem, hD]) | (apply hK; clear hK K)
  refine ret_pure ?_; simp only [resL_tmp, resL_nil, tupOf, go_sem, hD]
  rw [Bool.not_not]
theorem valid_tp (t : Tb) : PCall Tryz.prog 127 [TB t] (I64 (validS t)) := by
  obtain ⟨nm, al, l⟩ := t
  have hn := isName_p nm
  obtain ⟨R, hR⟩ : ∃ R, R = validS ⟨nm, al, l⟩ := ⟨_, rfl⟩
  rw [← hR]
  unfold validS at hR
  simp only at hR ⊢
  cases q1 : nameB nm.data.toList with
  | false =>
    rw [q1] at hR hn
    rw [if_neg (by simp)] at hR
    subst hR
    refine Call.enter' (N := 70) (rs := [.tmp 2]) Tryz.func127 rfl rfl rfl (by decide) rfl ?_; simp only [argT]; have hD : (0 : Nat) = 0 := rfl
    repeat' first | (refine SW.seq_k fun K hK => ?_) | ((first | refine SW.region ?_ | refine SW.cond ?_ | refine SW.ret ?_ | refine Call.of_pure (hn) ?_ | (refine allF_i fun b hb => ?_; replace hD := And.intro hb hD; clear hb; try simp only [fresh_cons, fresh_nil, and_true, ne_eq, neF] at hD)); try simp only [go_sem, hD]) | (apply hK; clear hK K)
    refine ret_pure ?_; simp only [resL_tmp, resL_nil, tupOf, go_sem, hD]
  | true =>
    rw [q1] at hR hn
    rw [if_pos rfl] at hR
    by_cases h16 : 16 < al.length
    · rw [if_pos (.inl h16)] at hR
      subst hR
      have h16i : (16 : Int) < ((al.length : Nat) : Int) := by omega
      refine Call.enter' (N := 70) (rs := [.tmp 2]) Tryz.func127 rfl rfl rfl (by decide) rfl ?_; simp only [argT]; have hD : (0 : Nat) = 0 := rfl
      repeat' first | (refine SW.seq_k fun K hK => ?_) | ((first | refine SW.region ?_ | refine SW.cond ?_ | refine SW.skip ?_ | refine SW.ret ?_ | refine Call.of_pure (hn) ?_ | (refine allF_i fun b hb => ?_; replace hD := And.intro hb hD; clear hb; try simp only [fresh_cons, fresh_nil, and_true, ne_eq, neF] at hD)); try simp only [go_sem, hD, h16i]) | (apply hK; clear hK K)
      refine ret_pure ?_; simp only [resL_tmp, resL_nil, tupOf, go_sem, hD]
    · have h16i : ¬ (16 : Int) < ((al.length : Nat) : Int) := by omega
      by_cases h1k : 1000 < l.length
      · rw [if_pos (.inr h1k)] at hR
        subst hR
        have h1ki : (1000 : Int) < ((l.length : Nat) : Int) := by omega
        refine Call.enter' (N := 70) (rs := [.tmp 2]) Tryz.func127 rfl rfl rfl (by decide) rfl ?_; simp only [argT]; have hD : (0 : Nat) = 0 := rfl
        repeat' first | (refine SW.seq_k fun K hK => ?_) | ((first | refine SW.region ?_ | refine SW.cond ?_ | refine SW.skip ?_ | refine SW.ret ?_ | refine Call.of_pure (hn) ?_ | (refine allF_i fun b hb => ?_; replace hD := And.intro hb hD; clear hb; try simp only [fresh_cons, fresh_nil, and_true, ne_eq, neF] at hD)); try simp only [go_sem, hD, h16i, h1ki]) | (apply hK; clear hK K)
        refine ret_pure ?_; simp only [resL_tmp, resL_nil, tupOf, go_sem, hD]
      · rw [if_neg (by omega)] at hR
        have h1ki : ¬ (1000 : Int) < ((l.length : Nat) : Int) := by omega
        refine Call.enter' (N := 70) (rs := [.tmp 2]) Tryz.func127 rfl rfl rfl (by decide) rfl ?_; simp only [argT]; have hD : (0 : Nat) = 0 := rfl
        repeat' first | (refine SW.seq_k fun K hK => ?_) | (refine SW.block ?_) | ((first | refine SW.region ?_ | refine SW.cond ?_ | refine SW.skip ?_ | refine Call.of_pure (hn) ?_ | (refine allF_i fun b hb => ?_; replace hD := And.intro hb hD; clear hb; try simp only [fresh_cons, fresh_nil, and_true, ne_eq, neF] at hD)); try simp only [go_sem, hD, h16i, h1ki]) | (apply hK; clear hK K)
        obtain ⟨I, hI⟩ : ∃ I : Nat → St → Prop, ∀ k S, I k S ↔ (∃ (i : Nat) , k = al.length - i ∧ i ≤ al.length ∧ R = (if namesF al (al.length - i) i = true then rowsV al.length 0 l else 1) ∧ S = ⟨[(1, .op b 0), (23, SL al), (24, I64 al.length), (25, I64 i)], [(b, .svs [Str nm, SL al, RL l])]⟩) := ⟨fun k S => _, fun _ _ => Iff.rfl⟩
        refine SW.loop' I (al.length) ((hI _ _).2 ⟨0, rfl, Nat.zero_le _, hR, rfl⟩) (by repeat' (first | exact rfl | exact trivial | constructor)) ?_
        intro k S hIn
        obtain ⟨i, rfl, hi, hC, rfl⟩ := (hI _ _).1 hIn
        clear hIn
        have ie : ((i : Nat) : Int).toNat = i := Int.toNat_natCast _
        have i0 : (0 : Int) ≤ ((i : Nat) : Int) := by omega
        clear hR
        by_cases hlt : i < al.length
        · have hli : ((i : Nat) : Int) < (((al.length) : Nat) : Int) := by omega
          have w1 : IntKind.i64.wrap ((i : Int) + 1) = ((i + 1 : Nat) : Int) := by rw [i64_wrap (by omega) (by omega)]; omega
          have e : al.length - i = (al.length - (i + 1)) + 1 := by omega
          rw [e, namesF] at hC
          have iz : (((i : Nat) : Int) - 0).toNat = i := by omega
          have il : ((i : Nat) : Int) ≤ ((al.length : Nat) : Int) := by omega
          have fi : sF al i = [Str (al.getD i ⟨#[]⟩)] := rfl
          have nm' := isName_p (al.getD i ⟨#[]⟩)
          have ct := contains_c (al.getD i ⟨#[]⟩) (al.take i) i (by omega) (by rw [List.length_take]; omega) (sF al) (fun j hj => sF_take (l := al) hj)
          generalize posS (al.getD i ⟨#[]⟩) 0 (al.take i) = q at *
          cases q1 : nameB (al.getD i ⟨#[]⟩).data.toList with
          | false =>
            rw [q1] at nm' hC
            have hC2 : R = 1 := hC
            subst hC2
            repeat' first | (refine SW.seq_k fun K hK => ?_) | (refine SW.block ?_) | ((first | refine SW.region ?_ | refine SW.cond ?_ | refine SW.skip ?_ | refine SW.ret ?_ | refine Call.of_pure (nm') ?_); try simp only [go_sem, hD, hli, ie, i0, w1, fi, iz, il]) | (apply hK; clear hK K)
            refine ret_pure ?_; simp only [resL_tmp, resL_nil, tupOf, go_sem, hD]
          | true =>
            rw [q1] at nm' hC
            rw [Bool.true_and] at hC
            by_cases hq : 0 ≤ q
            · rw [decide_eq_true hq] at hC ct
              have hC2 : R = 1 := hC
              subst hC2
              repeat' first | (refine SW.seq_k fun K hK => ?_) | (refine SW.block ?_) | ((first | refine SW.region ?_ | refine SW.cond ?_ | refine SW.skip ?_ | refine SW.ret ?_ | refine Call.of_pure (nm') ?_ | refine Call.of_pure (ct) ?_); try simp only [go_sem, hD, hli, ie, i0, w1, fi, iz, il]) | (apply hK; clear hK K)
              refine ret_pure ?_; simp only [resL_tmp, resL_nil, tupOf, go_sem, hD]
            · rw [decide_eq_false hq] at ct
              rw [decide_eq_false hq, Bool.not_false, Bool.true_and] at hC
              repeat' first | (refine SW.seq_k fun K hK => ?_) | (refine SW.block ?_) | ((first | refine SW.region ?_ | refine SW.cond ?_ | refine SW.skip ?_ | refine Call.of_pure (nm') ?_ | refine Call.of_pure (ct) ?_); try simp only [go_sem, hD, hli, ie, i0, w1, fi, iz, il]) | (apply hK; clear hK K)
              refine Rnd.sub (al.length - (i + 1)) (by omega) ((hI _ _).2 ⟨i + 1, rfl, by omega, hC, rfl⟩) (by repeat' (first | exact rfl | exact trivial | constructor))
        · have hli : ¬ ((i : Nat) : Int) < (((al.length) : Nat) : Int) := by omega
          have e : al.length - i = 0 := by omega
          rw [e] at hC
          have hC2 : R = rowsV al.length 0 l := hC
          clear hC
          repeat' first | (refine SW.seq_k fun K hK => ?_) | (refine SW.block ?_) | ((first | refine SW.region ?_ | refine SW.cond ?_ | refine SW.exit ?_); try simp only [go_sem, hD, hli]) | (apply hK; clear hK K) | (clear hK K; apply hK; clear hK K)
          obtain ⟨I, hI⟩ : ∃ I : Nat → St → Prop, ∀ k S, I k S ↔ (∃ (j : Nat) (p : Int), k = l.length - j ∧ j ≤ l.length ∧ R = rowsV al.length p (l.drop j) ∧ S = ⟨[(1, .op b 0), (5, I64 p), (43, RL l), (44, I64 l.length), (45, I64 j)], [(b, .svs [Str nm, SL al, RL l])]⟩) := ⟨fun k S => _, fun _ _ => Iff.rfl⟩
          refine SW.loop' I (l.length) ((hI _ _).2 ⟨0, 0, rfl, Nat.zero_le _, hC2, rfl⟩) (by repeat' (first | exact rfl | exact trivial | constructor)) ?_
          intro k S hIn
          obtain ⟨j, p, rfl, hi, hC, rfl⟩ := (hI _ _).1 hIn
          clear hIn
          have ie : ((j : Nat) : Int).toNat = j := Int.toNat_natCast _
          have i0 : (0 : Int) ≤ ((j : Nat) : Int) := by omega
          clear hC2
          by_cases hlt : j < l.length
          · have hli : ((j : Nat) : Int) < (((l.length) : Nat) : Int) := by omega
            have w1 : IntKind.i64.wrap ((j : Int) + 1) = ((j + 1 : Nat) : Int) := by rw [i64_wrap (by omega) (by omega)]; omega
            rw [rowsV_step hlt] at hC
            obtain ⟨id, vs, hr⟩ : ∃ id vs, l.getD j r0 = (id, vs) := ⟨_, _, rfl⟩
            have tf : rF l j = [I64 id, VL vs] := by unfold rF; rw [hr]; rfl
            rw [hr] at hC
            simp only at hC
            by_cases c1 : id ≤ p
            · rw [if_pos c1] at hC
              subst hC
              repeat' first | (refine SW.seq_k fun K hK => ?_) | (refine SW.block ?_) | ((first | refine SW.region ?_ | refine SW.cond ?_ | refine SW.skip ?_ | refine SW.ret ?_ | (refine allF_i fun b hb => ?_; replace hD := And.intro hb hD; clear hb; try simp only [fresh_cons, fresh_nil, and_true, ne_eq, neF] at hD)); try simp only [go_sem, hD, hli, ie, i0, w1, tf, c1]) | (apply hK; clear hK K)
              refine ret_pure ?_; simp only [resL_tmp, resL_nil, tupOf, go_sem, hD]
            · rw [if_neg c1] at hC
              by_cases c2 : vs.length = al.length
              · rw [if_neg (fun x => x c2)] at hC
                have c2i : ((vs.length : Nat) : Int) = ((al.length : Nat) : Int) := by rw [c2]
                have vv := validValues_p vs (by omega)
                cases c3 : vs.all okV with
                | true =>
                  rw [c3] at vv
                  rw [c3, if_pos rfl] at hC
                  repeat' first | (refine SW.seq_k fun K hK => ?_) | (refine SW.block ?_) | ((first | refine SW.region ?_ | refine SW.cond ?_ | refine SW.skip ?_ | refine Call.of_pure (vv) ?_ | (refine allF_i fun b hb => ?_; replace hD := And.intro hb hD; clear hb; try simp only [fresh_cons, fresh_nil, and_true, ne_eq, neF] at hD)); try simp only [go_sem, hD, hli, ie, i0, w1, tf, c1, c2i]) | (apply hK; clear hK K)
                  refine Rnd.le (St.le_only ?_) (Rnd.sub (l.length - (j + 1)) (by omega) ((hI _ _).2 ⟨j + 1, _, rfl, by omega, hC, rfl⟩) (by repeat' (first | exact rfl | exact trivial | constructor)))
                  repeat (first | exact List.mem_cons_self | apply List.mem_cons_of_mem)
                | false =>
                  rw [c3] at vv
                  rw [c3, if_neg (by simp)] at hC
                  subst hC
                  repeat' first | (refine SW.seq_k fun K hK => ?_) | (refine SW.block ?_) | ((first | refine SW.region ?_ | refine SW.cond ?_ | refine SW.skip ?_ | refine SW.ret ?_ | refine Call.of_pure (vv) ?_ | (refine allF_i fun b hb => ?_; replace hD := And.intro hb hD; clear hb; try simp only [fresh_cons, fresh_nil, and_true, ne_eq, neF] at hD)); try simp only [go_sem, hD, hli, ie, i0, w1, tf, c1, c2i]) | (apply hK; clear hK K)
                  refine ret_pure ?_; simp only [resL_tmp, resL_nil, tupOf, go_sem, hD]
              · rw [if_pos c2] at hC
                subst hC
                have c2i : ¬ ((vs.length : Nat) : Int) = ((al.length : Nat) : Int) := by omega
                repeat' first | (refine SW.seq_k fun K hK => ?_) | (refine SW.block ?_) | ((first | refine SW.region ?_ | refine SW.cond ?_ | refine SW.skip ?_ | refine SW.ret ?_ | (refine allF_i fun b hb => ?_; replace hD := And.intro hb hD; clear hb; try simp only [fresh_cons, fresh_nil, and_true, ne_eq, neF] at hD)); try simp only [go_sem, hD, hli, ie, i0, w1, tf, c1, c2i]) | (apply hK; clear hK K)
                refine ret_pure ?_; simp only [resL_tmp, resL_nil, tupOf, go_sem, hD]
          · have hli : ¬ ((j : Nat) : Int) < (((l.length) : Nat) : Int) := by omega
            rw [List.drop_of_length_le (by omega)] at hC
            have hC2 : R = 0 := hC
            subst hC2
            repeat' first | (refine SW.seq_k fun K hK => ?_) | ((first | refine SW.region ?_ | refine SW.cond ?_ | refine SW.exit ?_ | refine SW.ret ?_); try simp only [go_sem, hD, hli]) | (apply hK; clear hK K) | (clear hK K; apply hK; clear hK K)
            refine ret_pure ?_; simp only [resL_tmp, resL_nil, tupOf, go_sem, hD]
theorem valid_tr (t : Tb) (hv : ∀ r ∈ t.rows, r.2.length ≤ 9223372036854775807) : PCall Tryz.prog 78 [TB t] (I64 (validS t)) := by
  obtain ⟨nm, al, l⟩ := t
  have hn := name_r nm
  obtain ⟨R, hR⟩ : ∃ R, R = validS ⟨nm, al, l⟩ := ⟨_, rfl⟩
  rw [← hR]
  unfold validS at hR
  simp only at hR ⊢
  cases q1 : nameB nm.data.toList with
  | false =>
    rw [q1] at hR hn
    rw [if_neg (by simp)] at hR
    subst hR
    refine Call.enter' (N := 53) (rs := [.tmp 2]) Tryz.func78 rfl rfl rfl (by decide) rfl ?_; simp only [argT]; have hD : (0 : Nat) = 0 := rfl
    repeat' first | (refine SW.seq_k fun K hK => ?_) | ((first | refine SW.region ?_ | refine SW.cond ?_ | refine SW.ret ?_ | refine Call.of_pure (hn) ?_ | (refine allF_i fun b hb => ?_; replace hD := And.intro hb hD; clear hb; try simp only [fresh_cons, fresh_nil, and_true, ne_eq, neF] at hD)); try simp only [go_sem, hD]) | (apply hK; clear hK K)
    refine ret_pure ?_; simp only [resL_tmp, resL_nil, tupOf, go_sem, hD]
  | true =>
    rw [q1] at hR hn
    rw [if_pos rfl] at hR
    by_cases h16 : 16 < al.length
    · rw [if_pos (.inl h16)] at hR
      subst hR
      have h16i : (16 : Int) < ((al.length : Nat) : Int) := by omega
      refine Call.enter' (N := 53) (rs := [.tmp 2]) Tryz.func78 rfl rfl rfl (by decide) rfl ?_; simp only [argT]; have hD : (0 : Nat) = 0 := rfl
      repeat' first | (refine SW.seq_k fun K hK => ?_) | ((first | refine SW.region ?_ | refine SW.cond ?_ | refine SW.skip ?_ | refine SW.ret ?_ | refine Call.of_pure (hn) ?_ | (refine allF_i fun b hb => ?_; replace hD := And.intro hb hD; clear hb; try simp only [fresh_cons, fresh_nil, and_true, ne_eq, neF] at hD)); try simp only [go_sem, hD, h16i]) | (apply hK; clear hK K)
      refine ret_pure ?_; simp only [resL_tmp, resL_nil, tupOf, go_sem, hD]
    · have h16i : ¬ (16 : Int) < ((al.length : Nat) : Int) := by omega
      by_cases h1k : 1000 < l.length
      · rw [if_pos (.inr h1k)] at hR
        subst hR
        have h1ki : (1000 : Int) < ((l.length : Nat) : Int) := by omega
        refine Call.enter' (N := 53) (rs := [.tmp 2]) Tryz.func78 rfl rfl rfl (by decide) rfl ?_; simp only [argT]; have hD : (0 : Nat) = 0 := rfl
        repeat' first | (refine SW.seq_k fun K hK => ?_) | ((first | refine SW.region ?_ | refine SW.cond ?_ | refine SW.skip ?_ | refine SW.ret ?_ | refine Call.of_pure (hn) ?_ | (refine allF_i fun b hb => ?_; replace hD := And.intro hb hD; clear hb; try simp only [fresh_cons, fresh_nil, and_true, ne_eq, neF] at hD)); try simp only [go_sem, hD, h16i, h1ki]) | (apply hK; clear hK K)
        refine ret_pure ?_; simp only [resL_tmp, resL_nil, tupOf, go_sem, hD]
      · rw [if_neg (by omega)] at hR
        have h1ki : ¬ (1000 : Int) < ((l.length : Nat) : Int) := by omega
        have nr := names_r al (by omega)
        cases q2 : namesB al with
        | false =>
          rw [q2] at nr
          rw [q2, if_neg (by simp)] at hR
          subst hR
          refine Call.enter' (N := 53) (rs := [.tmp 2]) Tryz.func78 rfl rfl rfl (by decide) rfl ?_; simp only [argT]; have hD : (0 : Nat) = 0 := rfl
          repeat' first | (refine SW.seq_k fun K hK => ?_) | ((first | refine SW.region ?_ | refine SW.cond ?_ | refine SW.skip ?_ | refine SW.ret ?_ | refine Call.of_pure (hn) ?_ | refine Call.of_pure (nr) ?_ | (refine allF_i fun b hb => ?_; replace hD := And.intro hb hD; clear hb; try simp only [fresh_cons, fresh_nil, and_true, ne_eq, neF] at hD)); try simp only [go_sem, hD, h16i, h1ki]) | (apply hK; clear hK K)
          refine ret_pure ?_; simp only [resL_tmp, resL_nil, tupOf, go_sem, hD]
        | true =>
          rw [q2] at nr
          rw [q2, if_pos rfl] at hR
          refine Call.enter' (N := 53) (rs := [.tmp 2]) Tryz.func78 rfl rfl rfl (by decide) rfl ?_; simp only [argT]; have hD : (0 : Nat) = 0 := rfl
          repeat' first | (refine SW.seq_k fun K hK => ?_) | (refine SW.block ?_) | ((first | refine SW.region ?_ | refine SW.cond ?_ | refine SW.skip ?_ | refine Call.of_pure (hn) ?_ | refine Call.of_pure (nr) ?_ | (refine allF_i fun b hb => ?_; replace hD := And.intro hb hD; clear hb; try simp only [fresh_cons, fresh_nil, and_true, ne_eq, neF] at hD)); try simp only [go_sem, hD, h16i, h1ki]) | (apply hK; clear hK K)
          obtain ⟨I, hI⟩ : ∃ I : Nat → St → Prop, ∀ k S, I k S ↔ (∃ (j : Nat) (p : Int), k = l.length - j ∧ j ≤ l.length ∧ R = rowsV al.length p (l.drop j) ∧ S = ⟨[(1, .op b 0), (3, I64 p), (4, I64 j)], [(b, .svs [Str nm, SL al, RL l])]⟩) := ⟨fun k S => _, fun _ _ => Iff.rfl⟩
          refine SW.loop' I (l.length) ((hI _ _).2 ⟨0, 0, rfl, Nat.zero_le _, hR, rfl⟩) (by repeat' (first | exact rfl | exact trivial | constructor)) ?_
          intro k S hIn
          obtain ⟨j, p, rfl, hi, hC, rfl⟩ := (hI _ _).1 hIn
          clear hIn
          have ie : ((j : Nat) : Int).toNat = j := Int.toNat_natCast _
          have i0 : (0 : Int) ≤ ((j : Nat) : Int) := by omega
          clear hR
          by_cases hlt : j < l.length
          · have hli : ((j : Nat) : Int) < (((l.length) : Nat) : Int) := by omega
            have w1 : IntKind.i64.wrap ((j : Int) + 1) = ((j + 1 : Nat) : Int) := by rw [i64_wrap (by omega) (by omega)]; omega
            rw [rowsV_step hlt] at hC
            have hvj := hv _ (getD_mem r0 hlt)
            obtain ⟨id, vs, hr⟩ : ∃ id vs, l.getD j r0 = (id, vs) := ⟨_, _, rfl⟩
            have tf : rF l j = [I64 id, VL vs] := by unfold rF; rw [hr]; rfl
            rw [hr] at hC hvj
            simp only at hC hvj
            by_cases c1 : id ≤ p
            · rw [if_pos c1] at hC
              subst hC
              repeat' first | (refine SW.seq_k fun K hK => ?_) | (refine SW.block ?_) | ((first | refine SW.region ?_ | refine SW.cond ?_ | refine SW.skip ?_ | refine SW.ret ?_ | (refine allF_i fun b hb => ?_; replace hD := And.intro hb hD; clear hb; try simp only [fresh_cons, fresh_nil, and_true, ne_eq, neF] at hD)); try simp only [go_sem, hD, hli, ie, i0, w1, tf, c1]) | (apply hK; clear hK K)
              refine ret_pure ?_; simp only [resL_tmp, resL_nil, tupOf, go_sem, hD]
            · rw [if_neg c1] at hC
              by_cases c2 : vs.length = al.length
              · rw [if_neg (fun x => x c2)] at hC
                have c2i : ((vs.length : Nat) : Int) = ((al.length : Nat) : Int) := by rw [c2]
                have vv := valids_r vs hvj
                cases c3 : vs.all okV with
                | true =>
                  rw [c3] at vv
                  rw [c3, if_pos rfl] at hC
                  repeat' first | (refine SW.seq_k fun K hK => ?_) | (refine SW.block ?_) | ((first | refine SW.region ?_ | refine SW.cond ?_ | refine SW.skip ?_ | refine Call.of_pure (vv) ?_ | (refine allF_i fun b hb => ?_; replace hD := And.intro hb hD; clear hb; try simp only [fresh_cons, fresh_nil, and_true, ne_eq, neF] at hD)); try simp only [go_sem, hD, hli, ie, i0, w1, tf, c1, c2i]) | (apply hK; clear hK K)
                  refine Rnd.le (St.le_only ?_) (Rnd.sub (l.length - (j + 1)) (by omega) ((hI _ _).2 ⟨j + 1, _, rfl, by omega, hC, rfl⟩) (by repeat' (first | exact rfl | exact trivial | constructor)))
                  repeat (first | exact List.mem_cons_self | apply List.mem_cons_of_mem)
                | false =>
                  rw [c3] at vv
                  rw [c3, if_neg (by simp)] at hC
                  subst hC
                  repeat' first | (refine SW.seq_k fun K hK => ?_) | (refine SW.block ?_) | ((first | refine SW.region ?_ | refine SW.cond ?_ | refine SW.skip ?_ | refine SW.ret ?_ | refine Call.of_pure (vv) ?_ | (refine allF_i fun b hb => ?_; replace hD := And.intro hb hD; clear hb; try simp only [fresh_cons, fresh_nil, and_true, ne_eq, neF] at hD)); try simp only [go_sem, hD, hli, ie, i0, w1, tf, c1, c2i]) | (apply hK; clear hK K)
                  refine ret_pure ?_; simp only [resL_tmp, resL_nil, tupOf, go_sem, hD]
              · rw [if_pos c2] at hC
                subst hC
                have c2i : ¬ ((vs.length : Nat) : Int) = ((al.length : Nat) : Int) := by omega
                repeat' first | (refine SW.seq_k fun K hK => ?_) | (refine SW.block ?_) | ((first | refine SW.region ?_ | refine SW.cond ?_ | refine SW.skip ?_ | refine SW.ret ?_ | (refine allF_i fun b hb => ?_; replace hD := And.intro hb hD; clear hb; try simp only [fresh_cons, fresh_nil, and_true, ne_eq, neF] at hD)); try simp only [go_sem, hD, hli, ie, i0, w1, tf, c1, c2i]) | (apply hK; clear hK K)
                refine ret_pure ?_; simp only [resL_tmp, resL_nil, tupOf, go_sem, hD]
          · have hli : ¬ ((j : Nat) : Int) < (((l.length) : Nat) : Int) := by omega
            rw [List.drop_of_length_le (by omega)] at hC
            have hC2 : R = 0 := hC
            subst hC2
            repeat' first | (refine SW.seq_k fun K hK => ?_) | ((first | refine SW.region ?_ | refine SW.cond ?_ | refine SW.exit ?_ | refine SW.ret ?_); try simp only [go_sem, hD, hli]) | (apply hK; clear hK K) | (clear hK K; apply hK; clear hK K)
            refine ret_pure ?_; simp only [resL_tmp, resL_nil, tupOf, go_sem, hD]
end Go.Proofs.YtpidncgibgiidaaGreat
namespace Go.Ab.A34
open Go Go.Ab Go.Proofs
def fC {α : Type} (enc : α → List SV) (l : List α) : List SV := l.flatMap enc
theorem fC_snoc {α : Type} {enc : α → List SV} (l : List α) (x : α) : fC enc l ++ enc x = fC enc (l ++ [x]) := by unfold fC; rw [List.flatMap_append]; simp
theorem fC_len {α : Type} {enc : α → List SV} {k : Nat} (hk : ∀ x, (enc x).length = k) (l : List α) : l.length * k = (fC enc l).length := by
  unfold fC
  induction l with
  | nil => simp
  | cons a r ih => rw [List.flatMap_cons, List.length_append, ← ih, hk, List.length_cons, Nat.add_mul, Nat.one_mul, Nat.add_comm]
theorem fC_at {α : Type} {enc : α → List SV} {k : Nat} (hk : ∀ x, (enc x).length = k) (d : α) : ∀ (l : List α) (j : Nat), j < l.length → enc (l.getD j d) = ((fC enc l).drop (j * k)).take k
  | [], j, h => absurd h (by simp)
  | a :: l, 0, _ => by
    unfold fC
    rw [Nat.zero_mul, List.drop_zero, List.flatMap_cons, List.take_append_of_le_length (by rw [hk]; exact Nat.le_refl _), List.take_of_length_le (by rw [hk]; exact Nat.le_refl _)]
    rfl
  | a :: l, j + 1, h => by
    have := fC_at hk d l j (by rw [List.length_cons] at h; omega)
    unfold fC at *
    rw [List.flatMap_cons, show (j + 1) * k = (enc a).length + j * k by rw [hk, Nat.add_mul, Nat.one_mul, Nat.add_comm], ← List.drop_drop, List.drop_left]
    exact this
def vCs (l : List V3) : List SV := l.flatMap fun v => (encV v).map SV.sc
theorem vCs_snoc (l : List V3) (v : V3) : vCs l ++ vC v = vCs (l ++ [v]) := by
  unfold vCs
  rw [List.flatMap_append]
  rfl
theorem vCs_len (l : List V3) : l.length * 3 = (vCs l).length := fC_len (enc := fun v => (encV v).map SV.sc) (k := 3) (fun _ => rfl) l
theorem vCs_at : ∀ (l : List V3) (j : Nat), j < l.length → vF l j = ((vCs l).drop (j * 3)).take 3
  | [], j, h => absurd h (by simp)
  | a :: l, 0, _ => rfl
  | a :: l, j + 1, h => by
    have := vCs_at l j (by rw [List.length_cons] at h; omega)
    have e : (vCs (a :: l)).drop ((j + 1) * 3) = (vCs l).drop (j * 3) := by
      rw [show (j + 1) * 3 = j * 3 + 3 by omega, Nat.add_comm (j * 3) 3, ← List.drop_drop]
      rfl
    rw [e, ← this]
    rfl
theorem rowsV_ok {n : Nat} : ∀ {l : List R3} {p : Int}, rowsV n p l = 0 → ∀ r ∈ l, r.2.length = n ∧ r.2.all okV = true
  | [], p, _, r, hr => by cases hr
  | x :: l, p, h, r, hr => by
    unfold rowsV at h
    split at h
    · cases h
    · split at h
      · cases h
      · rename_i h2
        split at h
        · rename_i h3
          rcases List.mem_cons.1 hr with rfl | hr
          · exact ⟨by omega, h3⟩
          · exact rowsV_ok h r hr
        · cases h
theorem okV_size {v : V3} (h : okV v = true) : v.2.2.size ≤ 200 := by
  unfold okV vok at h
  have he : ∀ s : ByteArray, emp s = true → s.size ≤ 200 := fun s hs => by
    unfold emp at hs
    rw [barr_eq.1 hs]
    exact Nat.zero_le _
  repeat' split at h
  all_goals first | (cases h; done) | skip
  all_goals (try simp only [Bool.and_eq_true, decide_eq_true_eq] at h)
  · exact he _ h.2
  · exact he _ h
  · exact h.2
  · exact he _ h.2
theorem valid_rows {t : Tb} (h : validS t = 0) : t.rows.length ≤ 1000 ∧ t.attrs.length ≤ 16 ∧ ∀ r ∈ t.rows, r.2.length = t.attrs.length ∧ ∀ v ∈ r.2, okV v = true := by
  unfold validS at h
  split at h
  · split at h
    · cases h
    · split at h
      · exact ⟨by omega, by omega, fun r hr => ⟨(rowsV_ok h r hr).1, fun v hv => List.all_eq_true.1 (rowsV_ok h r hr).2 v hv⟩⟩
      · cases h
  · cases h
end Go.Ab.A34
namespace Go.Ab.A15
structure Dp where
  f : ByteArray
  l : List Int
  t : ByteArray
  r : List Int
def d0 : Dp := ⟨⟨#[]⟩, [], ⟨#[]⟩, []⟩
def atI (x : Int) : Nat → List Int → Int
  | _, [] => -1
  | i, y :: l => if y = x then (i : Int) else atI x (i + 1) l
theorem atI_step {x : Int} {l : List Int} {i : Nat} (h : i < l.length) : atI x i (l.drop i) = if l.getD i 0 = x then (i : Int) else atI x (i + 1) (l.drop (i + 1)) := by
  have g : l.getD i 0 = l[i] := by simp [List.getD_eq_getElem?_getD, h]
  rw [List.drop_eq_getElem_cons h, g]
  rfl
theorem atI_none {x : Int} : ∀ {l : List Int} {i : Nat}, atI x i l < 0 ↔ x ∉ l
  | [], i => by simp [atI]
  | y :: l, i => by
    unfold atI
    by_cases h : y = x
    · rw [if_pos h]
      simp [h]
    · rw [if_neg h, atI_none, List.mem_cons]
      constructor
      · rintro h2 (h3 | h3)
        · exact h h3.symm
        · exact h2 h3
      · exact fun h2 h3 => h2 (.inr h3)
theorem atI_is {x : Int} : ∀ {l : List Int} {i : Nat}, 0 ≤ atI x i l → ∃ j, atI x i l = ((i + j : Nat) : Int) ∧ j < l.length ∧ l.getD j 0 = x ∧ ∀ k, k < j → l.getD k 0 ≠ x
  | [], i, h => by simp [atI] at h
  | y :: l, i, h => by
    unfold atI at h ⊢
    by_cases h1 : y = x
    · rw [if_pos h1]
      exact ⟨0, rfl, by simp, by simp [h1], fun k hk => absurd hk (Nat.not_lt_zero _)⟩
    · rw [if_neg h1] at h ⊢
      obtain ⟨j, e1, e2, e3, e4⟩ := atI_is h
      refine ⟨j + 1, by rw [e1]; congr 1; omega, by simpa using e2, by simpa using e3, fun k hk => ?_⟩
      cases k with
      | zero => simpa using h1
      | succ k => simpa using e4 k (by omega)
theorem nodup_get {l : List Int} (h : l.Nodup) {i j : Nat} (hi : i < l.length) (hj : j < l.length) (e : l.getD i 0 = l.getD j 0) : i = j := by
  have g : ∀ k (hk : k < l.length), l.getD k 0 = l[k] := fun k hk => by simp [List.getD_eq_getElem?_getD, hk]
  rw [g i hi, g j hj] at e
  have hp := List.pairwise_iff_getElem.1 h
  rcases Nat.lt_trichotomy i j with h1 | h1 | h1
  · exact absurd e (hp i j hi hj h1)
  · exact h1
  · exact absurd e.symm (hp j i hj hi h1)
theorem atI_nodup {l : List Int} (h : l.Nodup) {p : Nat} (hp : p < l.length) : atI (l.getD p 0) 0 l = (p : Int) := by
  have hm : l.getD p 0 ∈ l := by
    have g : l.getD p 0 = l[p] := by simp [List.getD_eq_getElem?_getD, hp]
    rw [g]
    exact List.getElem_mem hp
  have h0 : 0 ≤ atI (l.getD p 0) 0 l := by
    rcases Int.lt_or_le (atI (l.getD p 0) 0 l) 0 with h1 | h1
    · exact absurd hm (atI_none.1 h1)
    · exact h1
  obtain ⟨j, e1, e2, e3, _⟩ := atI_is h0
  rw [e1, Nat.zero_add, nodup_get h e2 hp e3]
def folI (d : Dp) : List Int → Option (List (Int × Int))
  | [] => some []
  | x :: r => if atI x 0 d.l < 0 then none else match folI d r with
    | none => none
    | some q => some ((atI x 0 d.l, d.r.getD (atI x 0 d.l).toNat 0) :: q)
structure Sn where
  t : ByteArray
  a : List Int
  bf : Int
  ix : Nat
  ps : List Int
  st : Nat
def s0 : Sn := ⟨⟨#[]⟩, [], 0, 0, [], 0⟩
def nextS (s : Sn) (i k : Nat) (d : Dp) : Option Sn := if s.t = d.f then (match folI d s.a with
  | none => none
  | some q => some ⟨d.t, q.map (·.2), i, k, q.map (·.1), s.st + 1⟩) else none
def findS (t : ByteArray) (a : List Int) : Nat → List Sn → Int
  | _, [] => -1
  | i, y :: l => if y.t = t ∧ y.a = a then (i : Int) else findS t a (i + 1) l
theorem findS_none {t : ByteArray} {a : List Int} : ∀ {l : List Sn} {i : Nat}, findS t a i l < 0 ↔ ∀ s ∈ l, ¬ (s.t = t ∧ s.a = a)
  | [], i => by simp [findS]
  | y :: l, i => by
    unfold findS
    by_cases h : y.t = t ∧ y.a = a
    · rw [if_pos h]
      constructor
      · intro h2; omega
      · exact fun h2 => absurd h (h2 y List.mem_cons_self)
    · rw [if_neg h, findS_none]
      constructor
      · intro h2 s hs
        rcases List.mem_cons.1 hs with rfl | hs
        · exact h
        · exact h2 s hs
      · exact fun h2 s hs => h2 s (List.mem_cons_of_mem _ hs)
theorem findS_is {t : ByteArray} {a : List Int} : ∀ {l : List Sn} {i : Nat}, 0 ≤ findS t a i l → ∃ j, findS t a i l = ((i + j : Nat) : Int) ∧ j < l.length ∧ (l.getD j s0).t = t ∧ (l.getD j s0).a = a
  | [], i, h => by simp [findS] at h
  | y :: l, i, h => by
    unfold findS at h ⊢
    by_cases h1 : y.t = t ∧ y.a = a
    · rw [if_pos h1]
      exact ⟨0, rfl, by simp, by simp [h1.1], by simp [h1.2]⟩
    · rw [if_neg h1] at h ⊢
      obtain ⟨j, e1, e2, e3, e4⟩ := findS_is h
      exact ⟨j + 1, by rw [e1]; congr 1; omega, by simpa using e2, by simpa using e3, by simpa using e4⟩
def addS (i k : Nat) (d : Dp) (out : List Sn) : List Sn := match nextS (out.getD i s0) i k d with
  | none => out
  | some s => if 0 ≤ findS s.t s.a 0 out then out else out ++ [s]
def rndS (i : Nat) : Nat → List Dp → List Sn → List Sn
  | _, [], out => out
  | k, d :: r, out => rndS i (k + 1) r (addS i k d out)
def bfs (l : List Dp) : Nat → Nat → List Sn → List Sn
  | 0, _, out => out
  | n + 1, i, out => if i < out.length then bfs l n (i + 1) (rndS i 0 l out) else out
def root (g : Dp) : Sn := ⟨g.f, g.l, -1, 0, [], 0⟩
def states (l : List Dp) (g : Dp) : List Sn := bfs l 20000 0 [root g]
theorem rndS_step {i k : Nat} {l : List Dp} {out : List Sn} (h : k < l.length) : rndS i k (l.drop k) out = rndS i (k + 1) (l.drop (k + 1)) (addS i k (l.getD k d0) out) := by
  have g : l.getD k d0 = l[k] := by simp [List.getD_eq_getElem?_getD, h]
  rw [List.drop_eq_getElem_cons h, g]
  rfl
structure Ivs (l : List Dp) (g : Dp) (out : List Sn) : Prop where
  pos : 0 < out.length
  rt : out.getD 0 s0 = root g
  nx : ∀ j, 0 < j → j < out.length → ∃ b k, b < j ∧ k < l.length ∧ (out.getD j s0).bf = (b : Int) ∧ (out.getD j s0).ix = k ∧ nextS (out.getD b s0) b k (l.getD k d0) = some (out.getD j s0)
  nd : (out.map fun s => (s.t, s.a)).Nodup
theorem Ivs.root (l : List Dp) (g : Dp) : Ivs l g [root g] := ⟨by simp, rfl, fun j h1 h2 => by simp at h2; omega, by simp⟩
theorem getD_app {α : Type} {l r : List α} {i : Nat} {d : α} (h : i < l.length) : (l ++ r).getD i d = l.getD i d := by
  simp [List.getD_eq_getElem?_getD, List.getElem?_append_left h]
theorem getD_end {α : Type} {l : List α} {x d : α} : (l ++ [x]).getD l.length d = x := by simp [List.getD_eq_getElem?_getD]
theorem addS_cases (i k : Nat) (d : Dp) (out : List Sn) : (addS i k d out = out ∧ ∀ s, nextS (out.getD i s0) i k d = some s → 0 ≤ findS s.t s.a 0 out) ∨ ∃ s, nextS (out.getD i s0) i k d = some s ∧ findS s.t s.a 0 out < 0 ∧ addS i k d out = out ++ [s] := by
  unfold addS
  cases h : nextS (out.getD i s0) i k d with
  | none => exact .inl ⟨rfl, fun s hs => by cases hs⟩
  | some s =>
    simp only
    by_cases h2 : 0 ≤ findS s.t s.a 0 out
    · rw [if_pos h2]
      exact .inl ⟨rfl, fun s' hs => by cases hs; exact h2⟩
    · rw [if_neg h2]
      exact .inr ⟨s, rfl, by omega, rfl⟩
theorem nextS_bf {s s' : Sn} {i k : Nat} {d : Dp} (h : nextS s i k d = some s') : s'.bf = (i : Int) ∧ s'.ix = k ∧ s'.t = d.t ∧ s.t = d.f ∧ s'.st = s.st + 1 ∧ ∃ q, folI d s.a = some q ∧ s'.a = q.map (·.2) ∧ s'.ps = q.map (·.1) := by
  unfold nextS at h
  by_cases h1 : s.t = d.f
  · rw [if_pos h1] at h
    cases h2 : folI d s.a with
    | none => rw [h2] at h; cases h
    | some q =>
      rw [h2] at h
      cases h
      exact ⟨rfl, rfl, rfl, h1, rfl, q, rfl, rfl, rfl⟩
  · rw [if_neg h1] at h; cases h
theorem Ivs.add {l : List Dp} {g : Dp} {out : List Sn} (h : Ivs l g out) {i k : Nat} (hi : i < out.length) (hk : k < l.length) : Ivs l g (addS i k (l.getD k d0) out) ∧ ∃ r, addS i k (l.getD k d0) out = out ++ r := by
  rcases addS_cases i k (l.getD k d0) out with ⟨e, _⟩ | ⟨s, e1, e2, e⟩
  · rw [e]; exact ⟨h, [], by simp⟩
  · rw [e]
    refine ⟨⟨by simp, by rw [getD_app h.pos]; exact h.rt, fun j h1 h2 => ?_, ?_⟩, [s], rfl⟩
    · rw [List.length_append, List.length_singleton] at h2
      rcases Nat.lt_or_ge j out.length with h3 | h3
      · obtain ⟨b, k', g1, g2, g3, g4, g5⟩ := h.nx j h1 h3
        rw [getD_app h3]
        exact ⟨b, k', g1, g2, g3, g4, by rw [getD_app (show b < out.length by omega)]; exact g5⟩
      · obtain rfl : j = out.length := by omega
        rw [getD_end]
        obtain ⟨b1, b2, _⟩ := nextS_bf e1
        exact ⟨i, k, hi, hk, b1, b2, by rw [getD_app hi]; exact e1⟩
    · rw [List.map_append, List.nodup_append]
      refine ⟨h.nd, by simp, fun x hx y hy => ?_⟩
      obtain ⟨s', hs', rfl⟩ := List.mem_map.1 hx
      simp only [List.map_cons, List.map_nil, List.mem_singleton] at hy
      subst hy
      intro e
      exact findS_none.1 e2 s' hs' (by simpa using e)
def Done (l : List Dp) (out : List Sn) (i k : Nat) : Prop := ∀ d s, l[k]? = some d → nextS (out.getD i s0) i k d = some s → 0 ≤ findS s.t s.a 0 out
theorem findS_app {t : ByteArray} {a : List Int} {l r : List Sn} (h : 0 ≤ findS t a 0 l) : 0 ≤ findS t a 0 (l ++ r) := by
  rcases Int.lt_or_le (findS t a 0 (l ++ r)) 0 with h1 | h1
  · have : findS t a 0 l < 0 := findS_none.2 fun s hs => findS_none.1 h1 s (List.mem_append_left _ hs)
    omega
  · exact h1
theorem Done.app {l : List Dp} {out r : List Sn} {i k : Nat} (h : Done l out i k) (hi : i < out.length) : Done l (out ++ r) i k := fun d s hd hs => by
  rw [getD_app hi] at hs
  exact findS_app (h d s hd hs)
theorem Ivs.rnd {l : List Dp} {g : Dp} {i : Nat} : ∀ (n k : Nat) (out : List Sn), n = l.length - k → k ≤ l.length → Ivs l g out → i < out.length → (∀ k', k' < k → Done l out i k') →
    Ivs l g (rndS i k (l.drop k) out) ∧ (∃ r, rndS i k (l.drop k) out = out ++ r) ∧ ∀ k', k' < l.length → Done l (rndS i k (l.drop k) out) i k' := by
  intro n
  induction n with
  | zero =>
    intro k out hn hk h hi hd
    obtain rfl : k = l.length := by omega
    rw [List.drop_length]
    exact ⟨h, ⟨[], by simp [rndS]⟩, hd⟩
  | succ n ih =>
    intro k out hn hk h hi hd
    have hk2 : k < l.length := by omega
    rw [rndS_step hk2]
    obtain ⟨h1, r, h2⟩ := h.add hi hk2
    have hd2 : ∀ k', k' < k + 1 → Done l (addS i k (l.getD k d0) out) i k' := fun k' hk' => by
      rcases Nat.lt_or_ge k' k with h3 | h3
      · rw [h2]; exact (hd k' h3).app hi
      · obtain rfl : k' = k := by omega
        intro d s hd hs
        have gd : l.getD k' d0 = d := by rw [List.getD_eq_getElem?_getD, hd]; rfl
        rcases addS_cases i k' (l.getD k' d0) out with ⟨e, e2⟩ | ⟨s', e1, e2, e⟩
        · rw [e] at hs ⊢
          rw [← gd] at hs
          exact e2 s hs
        · rw [e] at hs ⊢
          rw [getD_app hi, ← gd, e1] at hs
          cases hs
          rcases Int.lt_or_le (findS s.t s.a 0 (out ++ [s])) 0 with h4 | h4
          · exact absurd ⟨rfl, rfl⟩ (findS_none.1 h4 s (by simp))
          · exact h4
    obtain ⟨g1, ⟨r2, g2⟩, g3⟩ := ih (k + 1) _ (by omega) (by omega) h1 (by rw [h2]; simp; omega) hd2
    exact ⟨g1, ⟨r ++ r2, by rw [g2, h2, List.append_assoc]⟩, g3⟩
def Bds (l : List Dp) (g : Dp) : Prop := ∀ out, Ivs l g out → out.length < 20000
theorem Ivs.bfs {l : List Dp} {g : Dp} (hB : Bds l g) : ∀ (n i : Nat) (out : List Sn), n + i = 20000 → i ≤ out.length → Ivs l g out → (∀ i', i' < i → ∀ k', k' < l.length → Done l out i' k') →
    Ivs l g (bfs l n i out) ∧ ∀ i', i' < (bfs l n i out).length → ∀ k', k' < l.length → Done l (bfs l n i out) i' k' := by
  intro n
  induction n with
  | zero =>
    intro i out hn hi h hd
    have := hB out h
    omega
  | succ n ih =>
    intro i out hn hi h hd
    unfold A15.bfs
    by_cases hlt : i < out.length
    · rw [if_pos hlt]
      obtain ⟨g1, ⟨r, g2⟩, g3⟩ := Ivs.rnd (i := i) l.length 0 out (by omega) (by omega) h hlt (fun k hk => absurd hk (Nat.not_lt_zero _))
      rw [List.drop_zero] at g1 g2 g3
      refine ih (i + 1) _ (by omega) (by rw [g2, List.length_append]; omega) g1 fun i' hi' k' hk' => ?_
      rcases Nat.lt_or_ge i' i with h1 | h1
      · rw [g2]; exact (hd i' h1 k' hk').app (by omega)
      · obtain rfl : i' = i := by omega
        exact g3 k' hk'
    · rw [if_neg hlt]
      obtain rfl : i = out.length := by omega
      exact ⟨h, hd⟩
end Go.Ab.A15
