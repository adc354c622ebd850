/- Contracts: fractions. -/
import Derived.Test.YtddkacbcecedaaaGreatDoorB1
import Derived.Test.YtddkacbcecedaaaGreatDoorZ5
set_option linter.unusedSimpArgs false
set_option linter.unusedVariables false
set_option linter.unusedSectionVars false
namespace Go.Ab
open Go
/-- A fraction and an error. -/
abbrev FR (x : Int × Int × Int) : SV := .tup [.agg [I64 x.1, I64 x.2.1], I64 x.2.2]
/-- The fraction with a sign, a numerator and a denominator, if they fit. -/
def ofR (neg : Bool) (n d : Nat) : Int × Int × Int := if n ≤ 9223372036854775807 ∧ d ≤ 9223372036854775807 then (if neg = true then -(n : Int) else n, d, 0) else (0, 0, 7)
/-- The fraction with a sign and a quotient, in lowest terms. -/
def bldR (neg : Bool) (n d : Nat) : Int × Int × Int := ofR neg (n / Nat.gcd n d) (d / Nat.gcd n d)
/-- Make. -/
def mkR (num den : Int) : Int × Int × Int := if den = 0 then (0, 0, 8) else bldR (!(decide (num < 0) == decide (den < 0))) num.natAbs den.natAbs
/-- A valid fraction. -/
def okR (num den : Int) : Bool := decide (0 < den) && (decide (-9223372036854775808 < num) && decide (Nat.gcd num.natAbs den.natAbs = 1))
end Go.Ab
namespace Go.Proofs.YtddkacbcecedaaaGreatDoor
open Go Go.Ab
variable [Gl]

theorem abs_p (n : Int) (h0 : -9223372036854775808 ≤ n) (h1 : n ≤ 9223372036854775807) : PCall Tryz.prog 53 [I64 n] (U64 n.natAbs) := by
  refine Call.enter' (N := 10) (rs := [.tmp 2]) Tryz.func53 rfl rfl rfl (by decide) rfl ?_; simp only [argT]; have hD : (0 : Nat) = 0 := rfl
  repeat' first | (with_reducible refine And.intro (by omega) ?_) | (refine SW.seq_k fun K hK => ?_) | (refine SW.block ?_) | ((first | refine SW.region ?_ | refine SW.regionD (Checked.mixed Tryz.checked) (by kernel_rfl) ?_ | refine SW.cond ?_ | refine SW.skip ?_ | refine SW.exit ?_ | refine SW.ret ?_ | (refine allF_i fun b hb => ?_; replace hD := And.intro hb hD; clear hb; try simp only [fresh_cons, fresh_nil, and_true, ne_eq, neF] at hD) | simp only [appK, appOsK]); try simp only [go_sem, hD]) | (refine And.intro (by omega) ?_) | (refine ifI (fun hc => ?_) (fun hc => ?_) <;> first | (exfalso; omega) | skip) | ((first | apply hK | ((iterate 1 (clear hK K)); apply hK) | ((iterate 2 (clear hK K)); apply hK) | ((iterate 3 (clear hK K)); apply hK) | ((iterate 4 (clear hK K)); apply hK) | ((iterate 5 (clear hK K)); apply hK)); clear hK K)
  · refine ret_pure ?_; simp only [resL_tmp, resL_nil, tupOf, go_sem, hD]
    rw [absw_neg h0 (by omega)]
  · refine ret_pure ?_; simp only [resL_tmp, resL_nil, tupOf, go_sem, hD]
    rw [absw_pos (by omega) h1]

theorem gcd_p (a b : Nat) (ha : a < 18446744073709551616) (hb : b < 18446744073709551616) : PCall Tryz.prog 54 [U64 a, U64 b] (U64 (Nat.gcd a b)) := by
  refine Call.enter' (N := 12) (rs := [.tmp 4]) Tryz.func54 rfl rfl rfl (by decide) rfl ?_; simp only [argT]; have hD : (0 : Nat) = 0 := rfl
  repeat' first | (with_reducible refine And.intro (by omega) ?_) | (refine SW.seq_k fun K hK => ?_) | (refine SW.block ?_) | ((first | refine SW.region ?_ | refine SW.regionD (Checked.mixed Tryz.checked) (by kernel_rfl) ?_ | refine SW.cond ?_ | refine SW.skip ?_ | refine SW.exit ?_ | refine SW.ret ?_ | (refine allF_i fun b hb => ?_; replace hD := And.intro hb hD; clear hb; try simp only [fresh_cons, fresh_nil, and_true, ne_eq, neF] at hD) | simp only [appK, appOsK]); try simp only [go_sem, hD]) | (refine And.intro (by omega) ?_) | (refine ifI (fun hc => ?_) (fun hc => ?_) <;> first | (exfalso; omega) | skip) | ((first | apply hK | ((iterate 1 (clear hK K)); apply hK) | ((iterate 2 (clear hK K)); apply hK) | ((iterate 3 (clear hK K)); apply hK) | ((iterate 4 (clear hK K)); apply hK) | ((iterate 5 (clear hK K)); apply hK)); clear hK K)
  obtain ⟨I, hI⟩ : ∃ I : Nat → St → Prop, ∀ n S, I n S ↔ (∃ (x : Nat), x < 18446744073709551616 ∧ n < 18446744073709551616 ∧ Nat.gcd x n = Nat.gcd a b ∧ S = ⟨[(0, U64 x), (1, U64 n)], []⟩) := ⟨fun n S => _, fun _ _ => Iff.rfl⟩
  refine SW.loop' I b ((hI _ _).2 ⟨a, ha, hb, rfl, rfl⟩) (by repeat' (first | exact rfl | exact trivial | exact int_eq (by omega) | exact int_eq (by (rw [i64_wrap] <;> omega)) | constructor)) ?_
  intro n S hIn
  obtain ⟨x, hx, hn, hg, rfl⟩ := (hI _ _).1 hIn
  clear hIn
  repeat' first | (with_reducible refine And.intro (by omega) ?_) | (refine SW.seq_k fun K hK => ?_) | (refine SW.block ?_) | ((first | refine SW.region ?_ | refine SW.regionD (Checked.mixed Tryz.checked) (by kernel_rfl) ?_ | refine SW.cond ?_ | refine SW.skip ?_ | refine SW.exit ?_ | refine SW.ret ?_ | (refine allF_i fun b hb => ?_; replace hD := And.intro hb hD; clear hb; try simp only [fresh_cons, fresh_nil, and_true, ne_eq, neF] at hD) | simp only [appK, appOsK]); try simp only [go_sem, hD]) | (refine And.intro (by omega) ?_) | ((first | apply hK | ((iterate 1 (clear hK K)); apply hK) | ((iterate 2 (clear hK K)); apply hK) | ((iterate 3 (clear hK K)); apply hK) | ((iterate 4 (clear hK K)); apply hK) | ((iterate 5 (clear hK K)); apply hK)); clear hK K)
  refine ifI (fun hc => ?_) (fun hc => ?_)
  · have e : Int.tmod (x : Int) (n : Int) = ((x % n : Nat) : Int) := (Int.ofNat_tmod x n).symm
    repeat' first | (with_reducible refine And.intro (by omega) ?_) | (refine SW.seq_k fun K hK => ?_) | (refine SW.block ?_) | ((first | refine SW.region ?_ | refine SW.regionD (Checked.mixed Tryz.checked) (by kernel_rfl) ?_ | refine SW.cond ?_ | refine SW.skip ?_ | refine SW.exit ?_ | refine SW.ret ?_ | (refine allF_i fun b hb => ?_; replace hD := And.intro hb hD; clear hb; try simp only [fresh_cons, fresh_nil, and_true, ne_eq, neF] at hD) | simp only [appK, appOsK]); try simp only [go_sem, hD, e]) | (refine And.intro (by omega) ?_) | (refine ifI (fun hc => ?_) (fun hc => ?_) <;> first | (exfalso; omega) | skip) | ((first | apply hK | ((iterate 1 (clear hK K)); apply hK) | ((iterate 2 (clear hK K)); apply hK) | ((iterate 3 (clear hK K)); apply hK) | ((iterate 4 (clear hK K)); apply hK) | ((iterate 5 (clear hK K)); apply hK)); clear hK K)
    refine Rnd.sub (x % n) (Nat.mod_lt _ (by omega)) ((hI _ _).2 ⟨n, hn, Nat.lt_of_lt_of_le (Nat.mod_lt _ (by omega)) (by omega), ?_, rfl⟩) (by repeat' (first | exact rfl | exact trivial | exact int_eq (by omega) | exact int_eq (by (rw [i64_wrap] <;> omega)) | constructor))
    rw [← hg, Nat.gcd_comm, ← Nat.gcd_rec, Nat.gcd_comm]
  · repeat' first | (with_reducible refine And.intro (by omega) ?_) | (refine SW.seq_k fun K hK => ?_) | (refine SW.block ?_) | ((first | refine SW.region ?_ | refine SW.regionD (Checked.mixed Tryz.checked) (by kernel_rfl) ?_ | refine SW.cond ?_ | refine SW.skip ?_ | refine SW.exit ?_ | refine SW.ret ?_ | (refine allF_i fun b hb => ?_; replace hD := And.intro hb hD; clear hb; try simp only [fresh_cons, fresh_nil, and_true, ne_eq, neF] at hD) | simp only [appK, appOsK]); try simp only [go_sem, hD]) | (refine And.intro (by omega) ?_) | (refine ifI (fun hc => ?_) (fun hc => ?_) <;> first | (exfalso; omega) | skip) | ((first | apply hK | ((iterate 1 (clear hK K)); apply hK) | ((iterate 2 (clear hK K)); apply hK) | ((iterate 3 (clear hK K)); apply hK) | ((iterate 4 (clear hK K)); apply hK) | ((iterate 5 (clear hK K)); apply hK)); clear hK K)
    refine ret_pure ?_; simp only [resL_tmp, resL_nil, tupOf, go_sem, hD]
    obtain rfl : n = 0 := by omega
    rw [← hg, Nat.gcd_zero_right]

set_option maxRecDepth 20000 in
theorem rof_p (neg : Bool) (n d : Nat) (hn : n < 18446744073709551616) (hd : d < 18446744073709551616) : PCall Tryz.prog 55 [SB neg, U64 n, U64 d]
    (if n ≤ 9223372036854775807 ∧ d ≤ 9223372036854775807 then .tup [.agg [I64 (if neg then -(n : Int) else n), I64 d], I64 0] else .tup [.agg [I64 0, I64 0], I64 7]) := by
  refine Call.enter' (N := 27) (rs := [.cell 6 38, .tmp 7]) Tryz.func55 rfl rfl rfl (by decide) rfl ?_; simp only [argT]; have hD : (0 : Nat) = 0 := rfl
  repeat' first | (with_reducible refine And.intro (by omega) ?_) | (refine SW.seq_k fun K hK => ?_) | (refine SW.block ?_) | ((first | refine SW.region ?_ | refine SW.regionD (Checked.mixed Tryz.checked) (by kernel_rfl) ?_ | refine SW.cond ?_ | refine SW.skip ?_ | refine SW.exit ?_ | refine SW.ret ?_ | (refine allF_i fun b hb => ?_; replace hD := And.intro hb hD; clear hb; try simp only [fresh_cons, fresh_nil, and_true, ne_eq, neF] at hD) | simp only [appK, appOsK]); try simp only [go_sem, hD]) | (refine And.intro (by omega) ?_) | (refine ifI (fun hc => ?_) (fun hc => ?_) <;> first | (exfalso; omega) | skip) | ((first | apply hK | ((iterate 1 (clear hK K)); apply hK) | ((iterate 2 (clear hK K)); apply hK) | ((iterate 3 (clear hK K)); apply hK) | ((iterate 4 (clear hK K)); apply hK) | ((iterate 5 (clear hK K)); apply hK)); clear hK K)
  · apply ret_cell (i := 6) (n := 2); exact rfl; (simp only [go_sem, hD]; try rfl); (first | exact Nat.le_refl _ | decide); simp only [resL_tmp, resL_cellE, resC_ok, resL_nil, tupOf, getN, go_sem, hD]
    rw [if_neg (by omega)]
  · apply ret_cell (i := 6) (n := 2); exact rfl; (simp only [go_sem, hD]; try rfl); (first | exact Nat.le_refl _ | decide); simp only [resL_tmp, resL_cellE, resC_ok, resL_nil, tupOf, getN, go_sem, hD]
    rw [if_neg (by omega)]
  · apply ret_cell (i := 6) (n := 2); exact rfl; (simp only [go_sem, hD]; try rfl); (first | exact Nat.le_refl _ | decide); simp only [resL_tmp, resL_cellE, resC_ok, resL_nil, tupOf, getN, go_sem, hD]
    rw [if_pos (by omega), if_pos (by assumption)]
    have e : IntKind.i64.wrap (n : Int) = n := i64_wrap (by omega) (by omega)
    rw [e, i64_wrap (n := (d : Int)) (by omega) (by omega), i64_wrap (by omega) (by omega), Int.zero_sub]
  · apply ret_cell (i := 6) (n := 2); exact rfl; (simp only [go_sem, hD]; try rfl); (first | exact Nat.le_refl _ | decide); simp only [resL_tmp, resL_cellE, resC_ok, resL_nil, tupOf, getN, go_sem, hD]
    rw [if_pos (by omega), if_neg (by assumption), i64_wrap (by omega) (by omega), i64_wrap (by omega) (by omega)]
theorem rof_f (neg : Bool) (n d : Nat) (hn : n < 18446744073709551616) (hd : d < 18446744073709551616) : PCall Tryz.prog 55 [SB neg, U64 n, U64 d] (FR (ofR neg n d)) := by
  have h := rof_p neg n d hn hd
  unfold ofR
  split at h
  · rw [if_pos (by assumption)]; exact h
  · rw [if_neg (by assumption)]; exact h

theorem quo_u64 (x g : Nat) (hx : x < 18446744073709551616) : IntKind.u64.wrap (Int.tdiv (x : Int) (g : Int)) = ((x / g : Nat) : Int) := by
  have := Nat.div_le_self x g
  rw [← Int.ofNat_tdiv]
  generalize x / g = y at this ⊢
  exact u64n (by omega) (by omega)

set_option maxRecDepth 20000 in
theorem make_p (num den : Int) (h0 : -9223372036854775808 ≤ num) (h1 : num ≤ 9223372036854775807) (h2 : -9223372036854775808 ≤ den) (h3 : den ≤ 9223372036854775807) : PCall Tryz.prog 28 [I64 num, I64 den] (FR (mkR num den)) := by
  have hg := gcd_p num.natAbs den.natAbs (by omega) (by omega)
  have a1 := abs_p num h0 h1
  have a2 := abs_p den h2 h3
  have ho := rof_f (!(decide (num < 0) == decide (den < 0))) (num.natAbs / Nat.gcd num.natAbs den.natAbs) (den.natAbs / Nat.gcd num.natAbs den.natAbs) (Nat.lt_of_le_of_lt (Nat.div_le_self _ _) (by omega)) (Nat.lt_of_le_of_lt (Nat.div_le_self _ _) (by omega))
  refine Call.enter' (N := 33) (rs := [.cell 4 38, .tmp 5]) Tryz.func28 rfl rfl rfl (by decide) rfl ?_; simp only [argT]; have hD : (0 : Nat) = 0 := rfl
  by_cases hz : den = 0
  · repeat' first | (with_reducible refine And.intro (by omega) ?_) | (refine SW.seq_k fun K hK => ?_) | (refine SW.block ?_) | ((first | refine SW.region ?_ | refine SW.regionD (Checked.mixed Tryz.checked) (by kernel_rfl) ?_ | refine SW.cond ?_ | refine SW.skip ?_ | refine SW.exit ?_ | refine SW.ret ?_ | (refine allF_i fun b hb => ?_; replace hD := And.intro hb hD; clear hb; try simp only [fresh_cons, fresh_nil, and_true, ne_eq, neF] at hD) | simp only [appK, appOsK]); try simp only [go_sem, hD]) | (refine And.intro (by omega) ?_) | (refine ifI (fun hc => ?_) (fun hc => ?_) <;> first | (exfalso; omega) | skip) | ((first | apply hK | ((iterate 1 (clear hK K)); apply hK) | ((iterate 2 (clear hK K)); apply hK) | ((iterate 3 (clear hK K)); apply hK) | ((iterate 4 (clear hK K)); apply hK) | ((iterate 5 (clear hK K)); apply hK)); clear hK K)
    apply ret_cell (i := 4) (n := 2); exact rfl; (simp only [go_sem, hD]; try rfl); (first | exact Nat.le_refl _ | decide); simp only [resL_tmp, resL_cellE, resC_ok, resL_nil, tupOf, getN, go_sem, hD]
    rw [mkR, if_pos hz]
  · have hgp : 0 < Nat.gcd num.natAbs den.natAbs := Nat.gcd_pos_of_pos_right _ (by omega)
    have hm : mkR num den = ofR (!(decide (num < 0) == decide (den < 0))) (num.natAbs / Nat.gcd num.natAbs den.natAbs) (den.natAbs / Nat.gcd num.natAbs den.natAbs) := by rw [mkR, if_neg hz]; rfl
    rw [hm]
    clear hm
    generalize hgg : Nat.gcd num.natAbs den.natAbs = g at hg ho hgp
    have e1 := quo_u64 num.natAbs g (by omega)
    have e2 := quo_u64 den.natAbs g (by omega)
    have hgn : ¬ ((g : Nat) : Int) = 0 := by omega
    repeat' first | (with_reducible refine And.intro (by omega) ?_) | (refine SW.seq_k fun K hK => ?_) | (refine SW.block ?_) | ((first | refine SW.region ?_ | refine SW.regionD (Checked.mixed Tryz.checked) (by kernel_rfl) ?_ | refine SW.cond ?_ | refine SW.skip ?_ | refine SW.exit ?_ | refine SW.ret ?_ | refine Call.of_pure (a1) ?_ | refine ⟨_, a1, ?_⟩ | refine Call.of_pure (a2) ?_ | refine ⟨_, a2, ?_⟩ | refine Call.of_pure (hg) ?_ | refine ⟨_, hg, ?_⟩ | refine Call.of_pure (ho) ?_ | refine ⟨_, ho, ?_⟩ | (refine allF_i fun b hb => ?_; replace hD := And.intro hb hD; clear hb; try simp only [fresh_cons, fresh_nil, and_true, ne_eq, neF] at hD) | simp only [appK, appOsK]); try simp only [go_sem, hD, e1, e2]) | (refine And.intro (by omega) ?_) | (refine ifI (fun hc => ?_) (fun hc => ?_) <;> first | (exfalso; omega) | skip) | ((first | apply hK | ((iterate 1 (clear hK K)); apply hK) | ((iterate 2 (clear hK K)); apply hK) | ((iterate 3 (clear hK K)); apply hK) | ((iterate 4 (clear hK K)); apply hK) | ((iterate 5 (clear hK K)); apply hK)); clear hK K)
    apply ret_cell (i := 4) (n := 2); exact rfl; (simp only [go_sem, hD]; try rfl); (first | exact Nat.le_refl _ | decide); simp only [resL_tmp, resL_cellE, resC_ok, resL_nil, tupOf, getN, go_sem, hD]

end Go.Proofs.YtddkacbcecedaaaGreatDoor
