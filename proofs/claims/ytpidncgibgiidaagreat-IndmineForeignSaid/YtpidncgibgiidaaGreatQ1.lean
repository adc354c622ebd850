/- Several texts in one: NR, R1, R2, KA, KB, G1, G2, G3, A0, KC, KD. -/
import Derived.Test.YtpidncgibgiidaaGreatB1
import Derived.Test.YtpidncgibgiidaaGreatZ5
import Derived.Test.YtpidncgibgiidaaGreatZ7
import Derived.Lib.Bytealg
import Derived.Test.YtpidncgibgiidaaGreatZ3
import Derived.Test.YtpidncgibgiidaaGreatZ8
import Derived.Test.YtpidncgibgiidaaGreatZ13
import Derived.Test.YtpidncgibgiidaaGreatZ11
import Derived.Test.YtpidncgibgiidaaGreatZ9
import Derived.Laws.Bits64
import Derived.Test.YtpidncgibgiidaaGreatZ10
set_option linter.unusedSimpArgs false
set_option linter.unusedVariables false
set_option linter.unusedSectionVars false
set_option maxRecDepth 20000
set_option maxHeartbeats 2000000
namespace Go.Ab
open Go
abbrev FR (x : Int × Int × Int) : SV := .tup [.agg [I64 x.1, I64 x.2.1], I64 x.2.2]
def ofR (neg : Bool) (n d : Nat) : Int × Int × Int := if n ≤ 9223372036854775807 ∧ d ≤ 9223372036854775807 then (if neg = true then -(n : Int) else n, d, 0) else (0, 0, 7)
def bldR (neg : Bool) (n d : Nat) : Int × Int × Int := ofR neg (n / Nat.gcd n d) (d / Nat.gcd n d)
def mkR (num den : Int) : Int × Int × Int := if den = 0 then (0, 0, 8) else bldR (!(decide (num < 0) == decide (den < 0))) num.natAbs den.natAbs
end Go.Ab
namespace Go.Proofs.YtpidncgibgiidaaGreat
open Go Go.Ab
variable [Gl]
theorem abs_p (n : Int) (h0 : -9223372036854775808 ≤ n) (h1 : n ≤ 9223372036854775807) : PCall Tryz.prog 109 [I64 n] (U64 n.natAbs) := by
  refine Call.enter' (N := 10) (rs := [.tmp 2]) Tryz.func109 rfl rfl rfl (by decide) rfl ?_; simp only [argT]; have hD : (0 : Nat) = 0 := rfl
  repeat' first | (refine SW.seq_k fun K hK => ?_) | ((first | refine SW.region ?_ | refine SW.cond ?_ | refine SW.skip ?_ | refine SW.ret ?_); try simp only [go_sem, hD]) | (refine ifI (fun hc => ?_) (fun hc => ?_) <;> first | (exfalso; omega) | skip) | (apply hK; clear hK K)
  · refine ret_pure ?_; simp only [resL_tmp, resL_nil, tupOf, go_sem, hD]
    rw [absw_neg h0 (by omega)]
  · refine ret_pure ?_; simp only [resL_tmp, resL_nil, tupOf, go_sem, hD]
    rw [absw_pos (by omega) h1]
theorem gcd_p (a b : Nat) (ha : a < 18446744073709551616) (hb : b < 18446744073709551616) : PCall Tryz.prog 110 [U64 a, U64 b] (U64 (Nat.gcd a b)) := by
  refine Call.enter' (N := 12) (rs := [.tmp 4]) Tryz.func110 rfl rfl rfl (by decide) rfl ?_; simp only [argT]; have hD : (0 : Nat) = 0 := rfl
  repeat' first | (refine SW.seq_k fun K hK => ?_) | (refine SW.block ?_) | (refine SW.region ?_; try simp only [go_sem, hD]) | (apply hK; clear hK K)
  obtain ⟨I, hI⟩ : ∃ I : Nat → St → Prop, ∀ n S, I n S ↔ (∃ (x : Nat), x < 18446744073709551616 ∧ n < 18446744073709551616 ∧ Nat.gcd x n = Nat.gcd a b ∧ S = ⟨[(0, U64 x), (1, U64 n)], []⟩) := ⟨fun n S => _, fun _ _ => Iff.rfl⟩
  refine SW.loop' I b ((hI _ _).2 ⟨a, ha, hb, rfl, rfl⟩) (by repeat' (first | exact rfl | exact trivial | constructor)) ?_
  intro n S hIn
  obtain ⟨x, hx, hn, hg, rfl⟩ := (hI _ _).1 hIn
  clear hIn
  repeat' first | (refine SW.seq_k fun K hK => ?_) | ((first | refine SW.region ?_ | refine SW.cond ?_); try simp only [go_sem, hD]) | (apply hK; clear hK K)
  refine ifI (fun hc => ?_) (fun hc => ?_)
  · have e : Int.tmod (x : Int) (n : Int) = ((x % n : Nat) : Int) := (Int.ofNat_tmod x n).symm
    repeat' first | (with_reducible refine And.intro (by omega) ?_) | (refine SW.block ?_) | ((first | refine SW.regionD (Checked.mixed Tryz.checked) (by kernel_rfl) ?_ | refine SW.skip ?_); try simp only [go_sem, hD, e]) | (apply hK; clear hK K)
    refine Rnd.sub (x % n) (Nat.mod_lt _ (by omega)) ((hI _ _).2 ⟨n, hn, Nat.lt_of_lt_of_le (Nat.mod_lt _ (by omega)) (by omega), ?_, rfl⟩) (by repeat' (first | exact rfl | exact trivial | constructor))
    rw [← hg, Nat.gcd_comm, ← Nat.gcd_rec, Nat.gcd_comm]
  · repeat' first | (refine SW.seq_k fun K hK => ?_) | ((first | refine SW.region ?_ | refine SW.exit ?_ | refine SW.ret ?_); try simp only [go_sem, hD]) | (apply hK; clear hK K) | (clear hK K; apply hK; clear hK K)
    refine ret_pure ?_; simp only [resL_tmp, resL_nil, tupOf, go_sem, hD]
    obtain rfl : n = 0 := by omega
    rw [← hg, Nat.gcd_zero_right]
theorem rof_p (neg : Bool) (n d : Nat) (hn : n < 18446744073709551616) (hd : d < 18446744073709551616) : PCall Tryz.prog 111 [SB neg, U64 n, U64 d]
    (if n ≤ 9223372036854775807 ∧ d ≤ 9223372036854775807 then .tup [.agg [I64 (if neg then -(n : Int) else n), I64 d], I64 0] else .tup [.agg [I64 0, I64 0], I64 7]) := by
  refine Call.enter' (N := 27) (rs := [.cell 6 61, .tmp 7]) Tryz.func111 rfl rfl rfl (by decide) rfl ?_; simp only [argT]; have hD : (0 : Nat) = 0 := rfl
  repeat' first | (refine SW.seq_k fun K hK => ?_) | ((first | refine SW.region ?_ | refine SW.cond ?_ | refine SW.skip ?_ | refine SW.ret ?_ | (refine allF_i fun b hb => ?_; replace hD := And.intro hb hD; clear hb; try simp only [fresh_cons, fresh_nil, and_true, ne_eq, neF] at hD)); try simp only [go_sem, hD]) | (refine ifI (fun hc => ?_) (fun hc => ?_) <;> first | (exfalso; omega) | skip) | (apply hK; clear hK K)
  · apply ret_cell (i := 6) (n := 2); exact rfl; (simp only [go_sem, hD]; try rfl); (first | exact Nat.le_refl _ | decide); simp only [resL_tmp, resL_cellE, resC_ok, resL_nil, tupOf, getN, go_sem, hD]
    rw [if_neg (by omega)]
  · apply ret_cell (i := 6) (n := 2); exact rfl; (simp only [go_sem, hD]; try rfl); (first | exact Nat.le_refl _ | decide); simp only [resL_tmp, resL_cellE, resC_ok, resL_nil, tupOf, getN, go_sem, hD]
    rw [if_neg (by omega)]
  · apply ret_cell (i := 6) (n := 2); exact rfl; (simp only [go_sem, hD]; try rfl); (first | exact Nat.le_refl _ | decide); simp only [resL_tmp, resL_cellE, resC_ok, resL_nil, tupOf, getN, go_sem, hD]
    rw [if_pos (by omega), if_pos (by assumption)]
    have e : IntKind.i64.wrap (n : Int) = n := i64_wrap (by omega) (by omega)
    rw [e, i64_wrap (n := (d : Int)) (by omega) (by omega), i64_wrap (by omega) (by omega), Int.zero_sub]
  · apply ret_cell (i := 6) (n := 2); exact rfl; (simp only [go_sem, hD]; try rfl); (first | exact Nat.le_refl _ | decide); simp only [resL_tmp, resL_cellE, resC_ok, resL_nil, tupOf, getN, go_sem, hD]
    rw [if_pos (by omega), if_neg (by assumption), i64_wrap (by omega) (by omega), i64_wrap (by omega) (by omega)]
theorem rof_f (neg : Bool) (n d : Nat) (hn : n < 18446744073709551616) (hd : d < 18446744073709551616) : PCall Tryz.prog 111 [SB neg, U64 n, U64 d] (FR (ofR neg n d)) := by
  have h := rof_p neg n d hn hd
  unfold ofR
  split at h
  · rw [if_pos (by assumption)]; exact h
  · rw [if_neg (by assumption)]; exact h
theorem quo_u64 (x g : Nat) (hx : x < 18446744073709551616) : IntKind.u64.wrap (Int.tdiv (x : Int) (g : Int)) = ((x / g : Nat) : Int) := by
  have := Nat.div_le_self x g
  rw [← Int.ofNat_tdiv]
  generalize x / g = y at this ⊢
  exact u64n (by omega) (by omega)
theorem make_p (num den : Int) (h0 : -9223372036854775808 ≤ num) (h1 : num ≤ 9223372036854775807) (h2 : -9223372036854775808 ≤ den) (h3 : den ≤ 9223372036854775807) : PCall Tryz.prog 70 [I64 num, I64 den] (FR (mkR num den)) := by
  have hg := gcd_p num.natAbs den.natAbs (by omega) (by omega)
  have a1 := abs_p num h0 h1
  have a2 := abs_p den h2 h3
  have ho := rof_f (!(decide (num < 0) == decide (den < 0))) (num.natAbs / Nat.gcd num.natAbs den.natAbs) (den.natAbs / Nat.gcd num.natAbs den.natAbs) (Nat.lt_of_le_of_lt (Nat.div_le_self _ _) (by omega)) (Nat.lt_of_le_of_lt (Nat.div_le_self _ _) (by omega))
  refine Call.enter' (N := 33) (rs := [.cell 4 61, .tmp 5]) Tryz.func70 rfl rfl rfl (by decide) rfl ?_; simp only [argT]; have hD : (0 : Nat) = 0 := rfl
  by_cases hz : den = 0
  · repeat' first | (refine SW.seq_k fun K hK => ?_) | ((first | refine SW.region ?_ | refine SW.cond ?_ | refine SW.ret ?_ | (refine allF_i fun b hb => ?_; replace hD := And.intro hb hD; clear hb; try simp only [fresh_cons, fresh_nil, and_true, ne_eq, neF] at hD)); try simp only [go_sem, hD]) | (refine ifI (fun hc => ?_) (fun hc => ?_) <;> first | (exfalso; omega) | skip) | (apply hK; clear hK K)
    apply ret_cell (i := 4) (n := 2); exact rfl; (simp only [go_sem, hD]; try rfl); (first | exact Nat.le_refl _ | decide); simp only [resL_tmp, resL_cellE, resC_ok, resL_nil, tupOf, getN, go_sem, hD]
    rw [mkR, if_pos hz]
  · have hgp : 0 < Nat.gcd num.natAbs den.natAbs := Nat.gcd_pos_of_pos_right _ (by omega)
    have hm : mkR num den = ofR (!(decide (num < 0) == decide (den < 0))) (num.natAbs / Nat.gcd num.natAbs den.natAbs) (den.natAbs / Nat.gcd num.natAbs den.natAbs) := by rw [mkR, if_neg hz]; rfl
    rw [hm]
    clear hm
    generalize hgg : Nat.gcd num.natAbs den.natAbs = g at hg ho hgp
    have e1 := quo_u64 num.natAbs g (by omega)
    have e2 := quo_u64 den.natAbs g (by omega)
    have hgn : ¬ ((g : Nat) : Int) = 0 := by omega
    repeat' first | (with_reducible refine And.intro (by omega) ?_) | (refine SW.seq_k fun K hK => ?_) | ((first | refine SW.region ?_ | refine SW.regionD (Checked.mixed Tryz.checked) (by kernel_rfl) ?_ | refine SW.cond ?_ | refine SW.skip ?_ | refine SW.ret ?_ | refine Call.of_pure (a1) ?_ | refine Call.of_pure (a2) ?_ | refine Call.of_pure (hg) ?_ | refine ⟨_, ho, ?_⟩ | (refine allF_i fun b hb => ?_; replace hD := And.intro hb hD; clear hb; try simp only [fresh_cons, fresh_nil, and_true, ne_eq, neF] at hD)); try simp only [go_sem, hD, e1, e2]) | (refine ifI (fun hc => ?_) (fun hc => ?_) <;> first | (exfalso; omega) | skip) | (apply hK; clear hK K)
    apply ret_cell (i := 4) (n := 2); exact rfl; (simp only [go_sem, hD]; try rfl); (first | exact Nat.le_refl _ | decide); simp only [resL_tmp, resL_cellE, resC_ok, resL_nil, tupOf, getN, go_sem, hD]
end Go.Proofs.YtpidncgibgiidaaGreat
namespace Go.Ab
open Go
abbrev VS (k n : Int) (s : ByteArray) : SV := .agg [I64 k, I64 n, Str s]
def emp (s : ByteArray) : Bool := s.toList == (⟨#[]⟩ : ByteArray).toList
def vok (k n : Int) (s : ByteArray) : Bool := if k = 0 then decide (n = 0) && emp s else if k = 1 then emp s else if k = 2 then decide (n = 0) && decide (s.size ≤ 200) else if k = 3 then decide (1 ≤ n) && emp s else false
def sgn (a b : Int) : Int := if a < b then -1 else if b < a then 1 else 0
end Go.Ab
namespace Go.Proofs.YtpidncgibgiidaaGreat
open Go Go.Ab
variable [Gl] [Tabs]
theorem valid_p (k n : Int) (s : ByteArray) : PCall Tryz.prog 180 [VS k n s] (SB (vok k n s)) := by
  obtain ⟨R, hR⟩ : ∃ R, R = vok k n s := ⟨_, rfl⟩
  rw [← hR]
  unfold vok emp at hR
  have cs : ((s.size : Nat) : Int) ≤ 200 ↔ s.size ≤ 200 := by omega
  refine Call.enter' (N := 41) (rs := [.tmp 2]) Tryz.func180 rfl rfl rfl (by decide) rfl ?_; simp only [argT]; have hD : (0 : Nat) = 0 := rfl
  repeat' first | (refine SW.seq_k fun K hK => ?_) | (refine SW.block ?_) | ((first | refine SW.region ?_ | refine SW.cond ?_ | refine SW.skip ?_ | refine SW.ret ?_ | (refine allF_i fun b hb => ?_; replace hD := And.intro hb hD; clear hb; try simp only [fresh_cons, fresh_nil, and_true, ne_eq, neF] at hD)); try simp only [go_sem, hD]) | (refine ifI (fun hc => ?_) (fun hc => ?_) <;> first | (exfalso; omega) | skip) | (apply hK; clear hK K)
  all_goals
    refine ret_pure ?_; simp only [resL_tmp, resL_nil, tupOf, go_sem, hD]
    rw [hR]
    simp_all
    first | done | (intro h; exfalso; omega)
theorem valid_r (k n : Int) (s : ByteArray) : PCall Tryz.prog 123 [VS k n s] (SB (vok k n s)) := by
  obtain ⟨R, hR⟩ : ∃ R, R = vok k n s := ⟨_, rfl⟩
  rw [← hR]
  unfold vok emp at hR
  have cs : ((s.size : Nat) : Int) ≤ 200 ↔ s.size ≤ 200 := by omega
  refine Call.enter' (N := 44) (rs := [.tmp 2]) Tryz.func123 rfl rfl rfl (by decide) rfl ?_; simp only [argT]; have hD : (0 : Nat) = 0 := rfl
  repeat' first | (refine SW.seq_k fun K hK => ?_) | (refine SW.block ?_) | ((first | refine SW.region ?_ | refine SW.cond ?_ | refine SW.skip ?_ | refine SW.ret ?_ | (refine allF_i fun b hb => ?_; replace hD := And.intro hb hD; clear hb; try simp only [fresh_cons, fresh_nil, and_true, ne_eq, neF] at hD)); try simp only [go_sem, hD]) | (refine ifI (fun hc => ?_) (fun hc => ?_) <;> first | (exfalso; omega) | skip) | (apply hK; clear hK K)
  all_goals
    refine ret_pure ?_; simp only [resL_tmp, resL_nil, tupOf, go_sem, hD]
    rw [hR]
    simp_all
    first | done | (intro h; exfalso; omega)
theorem sign_r (a b : Int) : PCall Tryz.prog 122 [I64 a, I64 b] (I64 (sgn a b)) := by
  unfold sgn
  refine Call.enter' (N := 11) (rs := [.tmp 4]) Tryz.func122 rfl rfl rfl (by decide) rfl ?_; simp only [argT]; have hD : (0 : Nat) = 0 := rfl
  by_cases h1 : a < b
  · rw [if_pos h1]
    repeat' first | (refine SW.seq_k fun K hK => ?_) | ((first | refine SW.region ?_ | refine SW.cond ?_ | refine SW.ret ?_); try simp only [go_sem, hD, h1]) | (apply hK; clear hK K)
    refine ret_pure ?_; simp only [resL_tmp, resL_nil, tupOf, go_sem, hD]
  · rw [if_neg h1]
    by_cases h2 : b < a
    · rw [if_pos h2]
      repeat' first | (refine SW.seq_k fun K hK => ?_) | ((first | refine SW.region ?_ | refine SW.cond ?_ | refine SW.skip ?_ | refine SW.ret ?_); try simp only [go_sem, hD, h1, h2]) | (apply hK; clear hK K)
      refine ret_pure ?_; simp only [resL_tmp, resL_nil, tupOf, go_sem, hD]
    · rw [if_neg h2]
      repeat' first | (refine SW.seq_k fun K hK => ?_) | ((first | refine SW.region ?_ | refine SW.cond ?_ | refine SW.skip ?_ | refine SW.ret ?_); try simp only [go_sem, hD, h1, h2]) | (apply hK; clear hK K)
      refine ret_pure ?_; simp only [resL_tmp, resL_nil, tupOf, go_sem, hD]
end Go.Proofs.YtpidncgibgiidaaGreat
namespace Go.Ab
open Go
def cmpV (k n : Int) (s : ByteArray) (k' n' : Int) (s' : ByteArray) : Int :=
  if sgn k k' = 0 then (if sgn n n' = 0 then Lib.compareBytes s.data.toList s'.data.toList else sgn n n') else sgn k k'
theorem cb_step {a b : List UInt8} {i : Nat} (ha : i < a.length) (hb : i < b.length) :
    Lib.compareBytes (a.drop i) (b.drop i) = if a.getD i 0 = b.getD i 0 then Lib.compareBytes (a.drop (i + 1)) (b.drop (i + 1)) else sgn (a.getD i 0).toNat (b.getD i 0).toNat := by
  have g1 : a.getD i 0 = a[i] := by simp [List.getD_eq_getElem?_getD, ha]
  have g2 : b.getD i 0 = b[i] := by simp [List.getD_eq_getElem?_getD, hb]
  rw [List.drop_eq_getElem_cons ha, List.drop_eq_getElem_cons hb, g1, g2, Lib.compareBytes]
  generalize a[i] = x
  generalize b[i] = y
  by_cases h : x = y
  · subst h
    rw [if_pos rfl, if_neg (by simp), if_neg (by simp)]
  · rw [if_neg h]
    unfold sgn
    have hne : x.toNat ≠ y.toNat := fun e => h (UInt8.toNat_inj.1 e)
    by_cases h1 : x < y
    · have : x.toNat < y.toNat := h1
      rw [if_pos h1, if_pos (by omega)]
    · have h1' : ¬ x.toNat < y.toNat := h1
      have h2 : y < x := by show y.toNat < x.toNat; omega
      rw [if_neg h1, if_pos h2, if_neg (by omega), if_pos (by omega)]
theorem cb_end {a b : List UInt8} {i : Nat} (ha : i ≤ a.length) (hb : i ≤ b.length) (h : ¬ (i < a.length ∧ i < b.length)) : Lib.compareBytes (a.drop i) (b.drop i) = sgn a.length b.length := by
  unfold sgn
  by_cases h1 : i < a.length
  · rw [List.drop_eq_getElem_cons h1, List.drop_of_length_le (l := b) (by omega), Lib.compareBytes, if_neg (by omega), if_pos (by omega)]
  · rw [List.drop_of_length_le (l := a) (by omega)]
    by_cases h2 : i < b.length
    · rw [List.drop_eq_getElem_cons h2, Lib.compareBytes, if_pos (by omega)]
    · rw [List.drop_of_length_le (l := b) (by omega), Lib.compareBytes, if_neg (by omega), if_neg (by omega)]
end Go.Ab
namespace Go.Proofs.YtpidncgibgiidaaGreat
open Go Go.Ab
variable [Gl] [Tabs]
theorem strings_r (a b : ByteArray) (ha : a.size ≤ 9223372036854775807) (hb : b.size ≤ 9223372036854775807) : PCall Tryz.prog 159 [Str a, Str b] (I64 (Lib.compareBytes a.data.toList b.data.toList)) := by
  have la : a.data.toList.length = a.size := Array.length_toList
  have lb : b.data.toList.length = b.size := Array.length_toList
  obtain ⟨R, hR⟩ : ∃ R, R = Lib.compareBytes a.data.toList b.data.toList := ⟨_, rfl⟩
  rw [← hR]
  refine Call.enter' (N := 39) (rs := [.tmp 4]) Tryz.func159 rfl rfl rfl (by decide) rfl ?_; simp only [argT]; have hD : (0 : Nat) = 0 := rfl
  repeat' first | (refine SW.seq_k fun K hK => ?_) | (refine SW.region ?_; try simp only [go_sem, hD]) | (apply hK; clear hK K)
  refine SW.block ?_
  obtain ⟨I, hI⟩ : ∃ I : Nat → St → Prop, ∀ k S, I k S ↔ (∃ i : Nat, k = a.size - i ∧ i ≤ a.size ∧ i ≤ b.size ∧ R = Lib.compareBytes (a.data.toList.drop i) (b.data.toList.drop i) ∧ S = ⟨[(0, Str a), (1, Str b), (5, I64 i)], []⟩) := ⟨fun k S => _, fun _ _ => Iff.rfl⟩
  refine SW.loop' I a.size ((hI _ _).2 ⟨0, rfl, Nat.zero_le _, Nat.zero_le _, hR, rfl⟩) (by repeat' (first | exact rfl | exact trivial | constructor)) ?_
  intro k S hIn
  obtain ⟨i, rfl, hi, hi2, hC, rfl⟩ := (hI _ _).1 hIn
  clear hIn hR
  have ie : ((i : Nat) : Int).toNat = i := Int.toNat_natCast _
  have i0 : (0 : Int) ≤ ((i : Nat) : Int) := by omega
  by_cases h1 : i < a.size
  · have h1i : ((i : Nat) : Int) < ((a.size : Nat) : Int) := by omega
    by_cases h2 : i < b.size
    · have h2i : ((i : Nat) : Int) < ((b.size : Nat) : Int) := by omega
      rw [cb_step (by omega) (by omega)] at hC
      have w1 : IntKind.i64.wrap ((i : Int) + 1) = ((i + 1 : Nat) : Int) := by rw [i64_wrap (by omega) (by omega)]; omega
      by_cases he : a.data.toList.getD i 0 = b.data.toList.getD i 0
      · rw [if_pos he] at hC
        have hei : decide (((a.data.toList.getD i 0).toNat : Int) = ((b.data.toList.getD i 0).toNat : Int)) = true := decide_eq_true (by rw [he])
        repeat' first | (refine SW.seq_k fun K hK => ?_) | (refine SW.block ?_) | ((first | refine SW.region ?_ | refine SW.regionZ (id := 4) (Checked.mixed Tryz.checked) ((.one 0 [0, 2, 6] (.one 1 [1, 2, 6] (.one 2 [2, 6] (.one 3 [3, 5, 6] (.one 4 [4, 5, 6] (.one 5 [5, 6] (.one 6 [6] .done))))))) : OZ) (by kernel_rfl) ?_ | refine SW.cond ?_ | refine SW.skip ?_); try simp only [go_sem, hD, h1i, h2i, ie, i0, w1, hei]) | (apply hK; clear hK K)
        refine Rnd.sub (a.size - (i + 1)) (by omega) ((hI _ _).2 ⟨i + 1, rfl, by omega, by omega, hC, rfl⟩) (by repeat' (first | exact rfl | exact trivial | constructor))
      · rw [if_neg he] at hC
        have hei : decide (((a.data.toList.getD i 0).toNat : Int) = ((b.data.toList.getD i 0).toNat : Int)) = false := decide_eq_false (fun h => he (UInt8.toNat_inj.1 (by omega)))
        have b1 := (a.data.toList.getD i 0).toNat_lt
        have b2 := (b.data.toList.getD i 0).toNat_lt
        have w2 : IntKind.i64.wrap ((a.data.toList.getD i 0).toNat : Int) = ((a.data.toList.getD i 0).toNat : Int) := i64_wrap (by omega) (by omega)
        have w3 : IntKind.i64.wrap ((b.data.toList.getD i 0).toNat : Int) = ((b.data.toList.getD i 0).toNat : Int) := i64_wrap (by omega) (by omega)
        have sg := sign_r ((a.data.toList.getD i 0).toNat : Int) ((b.data.toList.getD i 0).toNat : Int)
        rw [← hC] at sg
        repeat' first | (refine SW.seq_k fun K hK => ?_) | (refine SW.block ?_) | ((first | refine SW.region ?_ | refine SW.regionZ (id := 4) (Checked.mixed Tryz.checked) ((.one 0 [0, 2, 6] (.one 1 [1, 2, 6] (.one 2 [2, 6] (.one 3 [3, 5, 6] (.one 4 [4, 5, 6] (.one 5 [5, 6] (.one 6 [6] .done))))))) : OZ) (by kernel_rfl) ?_ | refine SW.regionZ (id := 5) (Checked.mixed Tryz.checked) ((.one 0 [0, 2, 3, 8, 9] (.one 1 [1, 2, 3, 8, 9] (.one 2 [2, 3, 8, 9] (.one 3 [3, 8, 9] (.one 4 [4, 6, 7, 8, 9] (.one 5 [5, 6, 7, 8, 9] (.one 6 [6, 7, 8, 9] (.one 7 [7, 8, 9] (.one 8 [8, 9] (.one 9 [9] .done)))))))))) : OZ) (by kernel_rfl) ?_ | refine SW.cond ?_ | refine SW.skip ?_ | refine SW.ret ?_ | refine ⟨_, sg, ?_⟩); try simp only [go_sem, hD, h1i, h2i, ie, i0, w2, w3, hei]) | (apply hK; clear hK K)
        refine ret_pure ?_; simp only [resL_tmp, resL_nil, tupOf, go_sem, hD]
    · have h2i : ¬ ((i : Nat) : Int) < ((b.size : Nat) : Int) := by omega
      rw [cb_end (by omega) (by omega) (by omega), la, lb] at hC
      have sg := sign_r ((a.size : Nat) : Int) ((b.size : Nat) : Int)
      rw [← hC] at sg
      have w2 : IntKind.i64.wrap ((a.size : Nat) : Int) = ((a.size : Nat) : Int) := i64_wrap (by omega) (by omega)
      have w3 : IntKind.i64.wrap ((b.size : Nat) : Int) = ((b.size : Nat) : Int) := i64_wrap (by omega) (by omega)
      repeat' first | (refine SW.seq_k fun K hK => ?_) | ((first | refine SW.region ?_ | refine SW.cond ?_ | refine SW.exit ?_ | refine SW.ret ?_ | refine Call.of_pure (sg) ?_); try simp only [go_sem, hD, h1i, h2i, w2, w3]) | (apply hK; clear hK K) | (clear hK K; apply hK; clear hK K)
      refine ret_pure ?_; simp only [resL_tmp, resL_nil, tupOf, go_sem, hD]
  · have h1i : ¬ ((i : Nat) : Int) < ((a.size : Nat) : Int) := by omega
    rw [cb_end (by omega) (by omega) (by omega), la, lb] at hC
    have sg := sign_r ((a.size : Nat) : Int) ((b.size : Nat) : Int)
    rw [← hC] at sg
    repeat' first | (refine SW.seq_k fun K hK => ?_) | ((first | refine SW.region ?_ | refine SW.cond ?_ | refine SW.exit ?_ | refine SW.ret ?_ | refine Call.of_pure (sg) ?_); try simp only [go_sem, hD, h1i]) | (apply hK; clear hK K) | (clear hK K; apply hK; clear hK K)
    refine ret_pure ?_; simp only [resL_tmp, resL_nil, tupOf, go_sem, hD]
theorem compare_r (k n : Int) (s : ByteArray) (k' n' : Int) (s' : ByteArray) (hs : s.size ≤ 9223372036854775807) (hs' : s'.size ≤ 9223372036854775807) : PCall Tryz.prog 121 [VS k n s, VS k' n' s'] (I64 (cmpV k n s k' n' s')) := by
  have s1 := sign_r k k'
  have s2 := sign_r n n'
  have s3 := strings_r s s' hs hs'
  obtain ⟨R, hR⟩ : ∃ R, R = cmpV k n s k' n' s' := ⟨_, rfl⟩
  rw [← hR]
  unfold cmpV at hR
  refine Call.enter' (N := 28) (rs := [.tmp 4]) Tryz.func121 rfl rfl rfl (by decide) rfl ?_; simp only [argT]; have hD : (0 : Nat) = 0 := rfl
  by_cases h1 : sgn k k' = 0
  · rw [if_pos h1] at hR
    rw [h1] at s1
    by_cases h2 : sgn n n' = 0
    · rw [if_pos h2] at hR
      rw [h2] at s2
      repeat' first | (refine SW.seq_k fun K hK => ?_) | ((first | refine SW.region ?_ | refine SW.cond ?_ | refine SW.skip ?_ | refine SW.ret ?_ | refine Call.of_pure (s1) ?_ | refine Call.of_pure (s2) ?_ | refine Call.of_pure (s3) ?_ | (refine allF_i fun b hb => ?_; replace hD := And.intro hb hD; clear hb; try simp only [fresh_cons, fresh_nil, and_true, ne_eq, neF] at hD)); try simp only [go_sem, hD]) | (apply hK; clear hK K)
      refine ret_pure ?_; simp only [resL_tmp, resL_nil, tupOf, go_sem, hD]
      rw [hR]
    · rw [if_neg h2] at hR
      repeat' first | (refine SW.seq_k fun K hK => ?_) | ((first | refine SW.region ?_ | refine SW.cond ?_ | refine SW.skip ?_ | refine SW.ret ?_ | refine Call.of_pure (s1) ?_ | refine Call.of_pure (s2) ?_ | (refine allF_i fun b hb => ?_; replace hD := And.intro hb hD; clear hb; try simp only [fresh_cons, fresh_nil, and_true, ne_eq, neF] at hD)); try simp only [go_sem, hD, h2]) | (apply hK; clear hK K)
      refine ret_pure ?_; simp only [resL_tmp, resL_nil, tupOf, go_sem, hD]
      rw [hR]
  · rw [if_neg h1] at hR
    repeat' first | (refine SW.seq_k fun K hK => ?_) | ((first | refine SW.region ?_ | refine SW.cond ?_ | refine SW.ret ?_ | refine Call.of_pure (s1) ?_ | (refine allF_i fun b hb => ?_; replace hD := And.intro hb hD; clear hb; try simp only [fresh_cons, fresh_nil, and_true, ne_eq, neF] at hD)); try simp only [go_sem, hD, h1]) | (apply hK; clear hK K)
    refine ret_pure ?_; simp only [resL_tmp, resL_nil, tupOf, go_sem, hD]
    rw [hR]
end Go.Proofs.YtpidncgibgiidaaGreat
namespace Go.Ab.A01
open Go
def mkB (l : List UInt8) : ByteArray := ⟨l.toArray⟩
theorem mkB_size (l : List UInt8) : (mkB l).size = l.length := by
  show l.toArray.size = _
  simp
end Go.Ab.A01
namespace Go.Ab
open Go
theorem sgn_zero {a b : Int} : sgn a b = 0 ↔ a = b := by
  unfold sgn
  constructor
  · intro h
    split at h
    · cases h
    · split at h
      · cases h
      · omega
  · rintro rfl
    rw [if_neg (by omega), if_neg (by omega)]
theorem cb_cases : ∀ (a b : List UInt8), Lib.compareBytes a b = -1 ∨ (Lib.compareBytes a b = 0 ∧ a = b) ∨ Lib.compareBytes a b = 1
  | [], [] => .inr (.inl ⟨rfl, rfl⟩)
  | [], _ :: _ => .inl rfl
  | _ :: _, [] => .inr (.inr rfl)
  | x :: a, y :: b => by
    unfold Lib.compareBytes
    split
    · exact .inl rfl
    · split
      · exact .inr (.inr rfl)
      · rcases cb_cases a b with h | ⟨h, e⟩ | h
        · exact .inl h
        · refine .inr (.inl ⟨h, ?_⟩)
          have : x = y := UInt8.toNat_inj.1 (by simp only [UInt8.lt_iff_toNat_lt] at *; omega)
          rw [e, this]
        · exact .inr (.inr h)
def lex (s t : Int) : Int := if s = 0 then t else s
def Tr (m n k : Int) : Prop := (m ≤ 0 → n ≤ 0 → k ≤ 0 ∧ (k = 0 → m = 0 ∧ n = 0)) ∧ (m = 0 → n = 0 → k = 0)
theorem Tr.lex {m n k m' n' k' : Int} (h : Tr m n k) (h' : Tr m' n' k') : Tr (lex m m') (lex n n') (lex k k') := by
  unfold Tr Ab.lex at *
  obtain ⟨h1, h2⟩ := h
  obtain ⟨h3, h4⟩ := h'
  refine ⟨fun a b => ?_, fun a b => ?_⟩
  · have hm : m ≤ 0 := by split at a <;> omega
    have hn : n ≤ 0 := by split at b <;> omega
    obtain ⟨k1, k2⟩ := h1 hm hn
    by_cases hk : k = 0
    · obtain ⟨rfl, rfl⟩ := k2 hk
      rw [if_pos rfl] at a b
      obtain ⟨k3, k4⟩ := h3 a b
      rw [if_pos hk, if_pos rfl, if_pos rfl]
      exact ⟨k3, k4⟩
    · rw [if_neg hk]
      exact ⟨k1, fun x => absurd x hk⟩
  · have hm : m = 0 ∧ m' = 0 := by split at a <;> omega
    have hn : n = 0 ∧ n' = 0 := by split at b <;> omega
    rw [if_pos (h2 hm.1 hn.1)]
    exact h4 hm.2 hn.2
end Go.Ab
namespace Go.Ab
open Go
theorem vok_kind {k n : Int} {s : ByteArray} (h : vok k n s = true) : k = 0 ∨ k = 1 ∨ (k = 2 ∧ s.size ≤ 200) ∨ k = 3 := by
  unfold vok at h
  split at h
  · exact .inl (by assumption)
  · split at h
    · exact .inr (.inl (by assumption))
    · split at h
      · refine .inr (.inr (.inl ⟨by assumption, ?_⟩))
        simp only [Bool.and_eq_true, decide_eq_true_eq] at h
        exact h.2
      · split at h
        · exact .inr (.inr (.inr (by assumption)))
        · cases h
end Go.Ab
namespace Go.Ab
open Go Go.Ab.A01
def beL : Nat → Nat → List UInt8
  | 0, _ => []
  | m + 1, u => UInt8.ofNat (u / 256 ^ m % 256) :: beL m (u % 256 ^ m)
def num8 (n : Int) : List UInt8 := beL 8 (n + 9223372036854775808).toNat
def escL (l : List UInt8) : List UInt8 := l.flatMap fun c => if c = 0 then [0, 255] else [c]
def keyL (k n : Int) (t : ByteArray) : List UInt8 := UInt8.ofNat k.toNat :: (if k = 1 ∨ k = 3 then num8 n else if k = 2 then escL t.data.toList ++ [0, 1] else [])
theorem beL_len : ∀ (m u : Nat), (beL m u).length = m
  | 0, _ => rfl
  | m + 1, u => by rw [beL, List.length_cons, beL_len m]
theorem escL_cons (c : UInt8) (l : List UInt8) : escL (c :: l) = (if c = 0 then [0, 255] else [c]) ++ escL l := by
  unfold escL
  rw [List.flatMap_cons]
theorem kind_byte {k : Int} (h0 : 0 ≤ k) (h : k ≤ 3) : (UInt8.ofNat k.toNat).toNat = k.toNat := by
  rw [UInt8.toNat_ofNat']
  omega
def decT : List UInt8 → Option (List UInt8)
  | c :: d :: r => if c ≠ 0 then (decT (d :: r)).map (c :: ·) else if d = 1 then some [] else if d = 255 then (decT r).map (0 :: ·) else .none
  | _ => .none
theorem decT_esc : ∀ (t r : List UInt8), decT (escL t ++ 0 :: 1 :: r) = some t
  | [], r => rfl
  | c :: t, r => by
    rw [escL_cons]
    by_cases hc : c = 0
    · rw [if_pos hc]
      show decT (0 :: 255 :: (escL t ++ 0 :: 1 :: r)) = _
      rw [decT, if_neg (by simp), if_neg (by decide), if_pos rfl, decT_esc t r, hc]
      rfl
    · rw [if_neg hc]
      show decT (c :: (escL t ++ 0 :: 1 :: r)) = _
      have ih := decT_esc t r
      cases he : escL t ++ 0 :: 1 :: r with
      | nil => exact absurd he (by simp)
      | cons d w =>
        rw [he] at ih
        rw [decT, if_pos hc, ih]
        rfl
def ofBe : List UInt8 → Nat → Nat
  | [], u => u
  | c :: l, u => ofBe l (u * 256 + c.toNat)
theorem ofBe_be : ∀ (m u v : Nat), u < 256 ^ m → ofBe (beL m u) v = v * 256 ^ m + u
  | 0, u, v, hu => by
    have : u = 0 := by simpa using hu
    subst this
    simp [ofBe, beL]
  | m + 1, u, v, hu => by
    have hp : 0 < 256 ^ m := Nat.pow_pos (by decide)
    have hq : u / 256 ^ m < 256 := (Nat.div_lt_iff_lt_mul hp).2 (by rw [Nat.pow_succ] at hu; rw [Nat.mul_comm]; exact hu)
    have t1 : (UInt8.ofNat (u / 256 ^ m % 256)).toNat = u / 256 ^ m := by rw [UInt8.toNat_ofNat', Nat.mod_eq_of_lt hq]; exact Nat.mod_eq_of_lt hq
    rw [beL, ofBe, t1, ofBe_be m _ _ (Nat.mod_lt _ hp)]
    have e1 := Nat.div_add_mod u (256 ^ m)
    rw [Nat.pow_succ, Nat.add_mul, Nat.mul_comm (256 ^ m) 256, ← Nat.mul_assoc, Nat.add_assoc, Nat.mul_comm (u / 256 ^ m), e1]
def fromL (l : List UInt8) : Option ((Int × Int × List UInt8) × Nat) := match l with
  | [] => .none
  | c :: r => if c.toNat = 1 ∨ c.toNat = 3 then (if r.length < 8 then .none else some (((c.toNat : Int), (ofBe (r.take 8) 0 : Int) - 9223372036854775808, []), 9))
    else if c.toNat = 2 then (match decT r with
      | some t => some ((2, 0, t), (escL t).length + 3)
      | .none => .none) else some (((c.toNat : Int), 0, []), 1)
def fromV (l : List UInt8) : (Int × Int × ByteArray) × Int × Int := match fromL l with
  | some ((k, n, t), m) => if vok k n ⟨t.toArray⟩ = true then ((k, n, ⟨t.toArray⟩), (m : Int), 0) else ((0, 0, ⟨#[]⟩), 0, 2)
  | .none => ((0, 0, ⟨#[]⟩), 0, 2)
theorem num8_len (n : Int) : (num8 n).length = 8 := beL_len 8 _
theorem list_ba (t : ByteArray) : (⟨t.data.toList.toArray⟩ : ByteArray) = t := by cases t; simp
theorem from_key {k n : Int} {t : ByteArray} (hv : vok k n t = true) (hn : -9223372036854775808 ≤ n ∧ n ≤ 9223372036854775807) (r : List UInt8) : fromV (keyL k n t ++ r) = ((k, n, t), ((keyL k n t).length : Int), 0) := by
  have hk := vok_kind hv
  have kb := kind_byte (k := k) (by omega) (by omega)
  have hv0 := hv
  have p : (256 : Nat) ^ 8 = 18446744073709551616 := by decide
  have h8 : ofBe (num8 n) 0 = (n + 9223372036854775808).toNat := by
    unfold num8
    rw [ofBe_be 8 _ 0 (by omega)]
    omega
  have t8 : ((num8 n ++ r).take 8) = num8 n := by
    rw [List.take_append_of_le_length (by rw [num8_len]; exact Nat.le_refl _), List.take_of_length_le (by rw [num8_len]; exact Nat.le_refl _)]
  have l8 : ¬ (num8 n ++ r).length < 8 := by rw [List.length_append, num8_len]; omega
  have em : (⟨([] : List UInt8).toArray⟩ : ByteArray) = ⟨#[]⟩ := rfl
  have num : t = ⟨#[]⟩ → (k = 1 ∨ k = 3) → fromV (keyL k n t ++ r) = ((k, n, t), ((keyL k n t).length : Int), 0) := by
    intro ht hk13
    subst ht
    have hc : (UInt8.ofNat k.toNat).toNat = 1 ∨ (UInt8.ofNat k.toNat).toNat = 3 := by omega
    unfold keyL
    rw [if_pos hk13, List.length_cons, num8_len]
    unfold fromV fromL
    simp only [List.cons_append]
    rw [if_pos hc, if_neg l8, t8, h8, kb]
    simp only
    have e1 : ((k.toNat : Nat) : Int) = k := by omega
    have e2 : (((n + 9223372036854775808).toNat : Nat) : Int) - 9223372036854775808 = n := by omega
    rw [e1, e2, em, if_pos hv0]
  unfold vok at hv
  rcases hk with rfl | rfl | ⟨rfl, _⟩ | rfl
  · rw [if_pos rfl, Bool.and_eq_true, decide_eq_true_eq] at hv
    have e1 : t = ⟨#[]⟩ := barr_eq.1 hv.2
    subst e1
    obtain rfl : n = 0 := hv.1
    have kl : keyL 0 0 ⟨#[]⟩ = [0] := rfl
    rw [kl]
    unfold fromV fromL
    simp only [List.cons_append, List.nil_append]
    rw [if_neg (by decide), if_neg (by decide)]
    simp only
    rw [em, show (((0 : UInt8).toNat : Nat) : Int) = 0 from rfl, if_pos hv0]
    rfl
  · rw [if_neg (by decide), if_pos rfl] at hv
    exact num (barr_eq.1 hv) (.inl rfl)
  · rw [if_neg (by decide), if_neg (by decide), if_pos rfl, Bool.and_eq_true, decide_eq_true_eq] at hv
    have hz := hv.1
    subst hz
    have kl : keyL 2 0 t = 2 :: (escL t.data.toList ++ [0, 1]) := rfl
    rw [kl]
    unfold fromV fromL
    simp only [List.cons_append]
    rw [if_neg (by decide), if_pos (by decide)]
    have hd := decT_esc t.data.toList r
    have ha : escL t.data.toList ++ [0, 1] ++ r = escL t.data.toList ++ 0 :: 1 :: r := by rw [List.append_assoc]; rfl
    rw [ha, hd]
    simp only
    rw [list_ba, if_pos hv0]
    simp only [List.length_cons, List.length_append, List.length_nil]
  · rw [if_neg (by decide), if_neg (by decide), if_neg (by decide), if_pos rfl, Bool.and_eq_true, decide_eq_true_eq] at hv
    exact num (barr_eq.1 hv.2) (.inr rfl)
end Go.Ab
namespace Go.Ab.A34
open Go Go.Ab
def isL (c : UInt8) : Bool := (decide (97 ≤ c.toNat) && decide (c.toNat ≤ 122)) || ((decide (65 ≤ c.toNat) && decide (c.toNat ≤ 90)) || decide (c.toNat = 95))
def isD (c : UInt8) : Bool := decide (48 ≤ c.toNat) && decide (c.toNat ≤ 57)
def isW (c : UInt8) : Bool := isL c || isD c
def nullL : List UInt8 := [110, 117, 108, 108]
def nameB (l : List UInt8) : Bool := match l with
  | [] => false
  | c :: _ => decide (l.length ≤ 24) && !decide (l = nullL) && isL c && l.all isW
theorem all_step {l : List UInt8} {i : Nat} (h : i < l.length) : (l.drop i).all isW = (isW (l.getD i 0) && (l.drop (i + 1)).all isW) := by
  have g : l.getD i 0 = l[i] := by simp [List.getD_eq_getElem?_getD, h]
  rw [List.drop_eq_getElem_cons h, List.all_cons, g]
theorem all_end {l : List UInt8} {i : Nat} (h : l.length ≤ i) : (l.drop i).all isW = true := by
  rw [List.drop_of_length_le h]
  rfl
theorem ba_ext {a b : ByteArray} (h : a.data.toList = b.data.toList) : a = b := by
  cases a; cases b
  simp only at h
  rw [Array.toList_inj.1 h]
end Go.Ab.A34
namespace Go.Proofs.YtpidncgibgiidaaGreat
open Go Go.Ab Go.Ab.A34
variable [Gl] [Tabs]
abbrev B8 (c : UInt8) : SV := .sc (.int .u8 (c.toNat : Int))
theorem letter_c (c : UInt8) : PCall Tryz.prog 157 [B8 c] (SB (isL c)) := by
  obtain ⟨R, hR⟩ : ∃ R, R = isL c := ⟨_, rfl⟩
  rw [← hR]
  unfold isL at hR
  refine Call.enter' (N := 21) (rs := [.tmp 2]) Tryz.func157 rfl rfl rfl (by decide) rfl ?_; simp only [argT]; have hD : (0 : Nat) = 0 := rfl
  repeat' first | (refine SW.seq_k fun K hK => ?_) | ((first | refine SW.region ?_ | refine SW.ret ?_); try simp only [go_sem, hD]) | (refine ifI (fun hc => ?_) (fun hc => ?_) <;> first | (exfalso; omega) | skip) | (apply hK; clear hK K)
  all_goals
    refine ret_pure ?_; simp only [resL_tmp, resL_nil, tupOf, go_sem, hD]
    rw [hR]
    refine congrArg (fun b => SV.sc (.bool b)) ?_
    rw [Bool.eq_iff_iff]
    simp only [Bool.or_eq_true, Bool.and_eq_true, decide_eq_true_eq, Bool.false_eq_true, true_iff, false_iff]
    omega
theorem len_list (s : ByteArray) : s.data.toList.length = s.size := Array.length_toList
theorem bempty (s : ByteArray) : (s.toList == (⟨#[]⟩ : ByteArray).toList) = decide (s.data.toList = []) := by
  rw [Bool.eq_iff_iff, decide_eq_true_eq, barr_eq]
  constructor
  · intro h; rw [h]
  · intro h; exact ba_ext h
theorem bnull (s : ByteArray) : (s.toList == (⟨#[110, 117, 108, 108]⟩ : ByteArray).toList) = decide (s.data.toList = nullL) := by
  rw [Bool.eq_iff_iff, decide_eq_true_eq, barr_eq]
  constructor
  · intro h; rw [h]; rfl
  · intro h; exact ba_ext h
theorem name_cases (l : List UInt8) : (l = [] ∧ nameB l = false) ∨ (l ≠ [] ∧ ((24 < l.length ∧ nameB l = false) ∨ (l.length ≤ 24 ∧ ((l = nullL ∧ nameB l = false) ∨ (¬ l = nullL ∧ ((isL (l.getD 0 0) = false ∧ nameB l = false) ∨ (isL (l.getD 0 0) = true ∧ nameB l = l.all isW))))))) := by
  cases l with
  | nil => exact .inl ⟨rfl, rfl⟩
  | cons c r =>
    refine .inr ⟨by simp, ?_⟩
    unfold nameB
    simp only
    by_cases h : (c :: r).length ≤ 24
    · refine .inr ⟨h, ?_⟩
      rw [decide_eq_true h, Bool.true_and]
      by_cases h2 : c :: r = nullL
      · exact .inl ⟨h2, by rw [decide_eq_true h2]; rfl⟩
      · refine .inr ⟨h2, ?_⟩
        rw [decide_eq_false h2, Bool.not_false, Bool.true_and]
        show (isL c = false ∧ _) ∨ (isL c = true ∧ _)
        cases isL c with
        | false => exact .inl ⟨rfl, rfl⟩
        | true => exact .inr ⟨rfl, by rw [Bool.true_and]⟩
    · exact .inl ⟨by omega, by rw [decide_eq_false h]; rfl⟩
theorem isName_p (s : ByteArray) : PCall Tryz.prog 163 [Str s] (SB (nameB s.data.toList)) := by
  have ls : s.data.toList.length = s.size := Array.length_toList
  have b1 := bempty s
  have b2 := bnull s
  have h0l := letter_c (s.data.toList.getD 0 0)
  rcases name_cases s.data.toList with ⟨h1, h2⟩ | ⟨h1, ⟨h2, h3⟩ | ⟨h2, ⟨h3, h4⟩ | ⟨h3, h4⟩⟩⟩
  · rw [h2]
    rw [decide_eq_true h1] at b1
    refine Call.enter' (N := 58) (rs := [.tmp 2]) Tryz.func163 rfl rfl rfl (by decide) rfl ?_; simp only [argT]; have hD : (0 : Nat) = 0 := rfl
    repeat' first | (refine SW.seq_k fun K hK => ?_) | ((first | refine SW.region ?_ | refine SW.cond ?_ | refine SW.ret ?_); try simp only [go_sem, hD, b1]) | (apply hK; clear hK K)
    refine ret_pure ?_; simp only [resL_tmp, resL_nil, tupOf, go_sem, hD]
  · rw [h3]
    rw [decide_eq_false h1] at b1
    have h24i : (24 : Int) < ((s.size : Nat) : Int) := by omega
    refine Call.enter' (N := 58) (rs := [.tmp 2]) Tryz.func163 rfl rfl rfl (by decide) rfl ?_; simp only [argT]; have hD : (0 : Nat) = 0 := rfl
    repeat' first | (refine SW.seq_k fun K hK => ?_) | ((first | refine SW.region ?_ | refine SW.cond ?_ | refine SW.ret ?_); try simp only [go_sem, hD, b1, h24i]) | (apply hK; clear hK K)
    refine ret_pure ?_; simp only [resL_tmp, resL_nil, tupOf, go_sem, hD]
  · rw [h4]
    rw [decide_eq_false h1] at b1
    rw [decide_eq_true h3] at b2
    have h24i : ¬ (24 : Int) < ((s.size : Nat) : Int) := by omega
    refine Call.enter' (N := 58) (rs := [.tmp 2]) Tryz.func163 rfl rfl rfl (by decide) rfl ?_; simp only [argT]; have hD : (0 : Nat) = 0 := rfl
    repeat' first | (refine SW.seq_k fun K hK => ?_) | ((first | refine SW.region ?_ | refine SW.cond ?_ | refine SW.ret ?_); try simp only [go_sem, hD, b1, h24i, b2]) | (apply hK; clear hK K)
    refine ret_pure ?_; simp only [resL_tmp, resL_nil, tupOf, go_sem, hD]
  · rw [decide_eq_false h1] at b1
    rw [decide_eq_false h3] at b2
    have h24i : ¬ (24 : Int) < ((s.size : Nat) : Int) := by omega
    obtain ⟨R, hR⟩ : ∃ R, R = nameB s.data.toList := ⟨_, rfl⟩
    rw [← hR] at h4 ⊢
    have h5 : (isL (s.data.toList.getD 0 0) = true ∧ R = (s.data.toList.drop 0).all isW) ∨ (0 = 0 ∧ R = false ∧ isL (s.data.toList.getD 0 0) = false) := by
      rcases h4 with ⟨a, b⟩ | ⟨a, b⟩
      · exact .inr ⟨rfl, b, a⟩
      · exact .inl ⟨a, b⟩
    have h0 : 0 < s.size := by
      rcases Nat.eq_zero_or_pos s.size with h | h
      · exact absurd (List.eq_nil_of_length_eq_zero (by rw [ls]; exact h)) h1
      · exact h
    clear h4 hR
    refine Call.enter' (N := 58) (rs := [.tmp 2]) Tryz.func163 rfl rfl rfl (by decide) rfl ?_; simp only [argT]; have hD : (0 : Nat) = 0 := rfl
    repeat' first | (refine SW.seq_k fun K hK => ?_) | (refine SW.block ?_) | ((first | refine SW.region ?_ | refine SW.cond ?_ | refine SW.skip ?_); try simp only [go_sem, hD, b1, h24i, b2]) | (apply hK; clear hK K)
    obtain ⟨I, hI⟩ : ∃ I : Nat → St → Prop, ∀ k S, I k S ↔ (∃ (i : Nat) , k = s.size - i ∧ i ≤ s.size ∧ ((isL (s.data.toList.getD 0 0) = true ∧ R = (s.data.toList.drop i).all isW) ∨ (i = 0 ∧ R = false ∧ isL (s.data.toList.getD 0 0) = false)) ∧ S = ⟨[(0, Str s), (18, I64 s.size), (19, I64 i)], []⟩) := ⟨fun k S => _, fun _ _ => Iff.rfl⟩
    refine SW.loop' I (s.size) ((hI _ _).2 ⟨0, rfl, Nat.zero_le _, h5, rfl⟩) (by repeat' (first | exact rfl | exact trivial | constructor)) ?_
    intro k S hIn
    obtain ⟨i, rfl, hi, hC, rfl⟩ := (hI _ _).1 hIn
    clear hIn
    have ie : ((i : Nat) : Int).toNat = i := Int.toNat_natCast _
    have i0 : (0 : Int) ≤ ((i : Nat) : Int) := by omega
    clear h5
    by_cases hlt : i < s.size
    · have hli : ((i : Nat) : Int) < (((s.size) : Nat) : Int) := by omega
      have w1 : IntKind.i64.wrap ((i : Int) + 1) = ((i + 1 : Nat) : Int) := by rw [i64_wrap (by omega) (by omega)]; omega
      obtain ⟨c, gc⟩ : ∃ c, s.data.toList.getD i 0 = c := ⟨_, rfl⟩
      have st := all_step (l := s.data.toList) (i := i) (by omega)
      rw [gc] at st
      cases q1 : isL c with
      | true =>
        have hC2 : (isL (s.data.toList.getD 0 0) = true ∧ R = (s.data.toList.drop (i + 1)).all isW) ∨ (i + 1 = 0 ∧ R = false ∧ isL (s.data.toList.getD 0 0) = false) := by
          rcases hC with ⟨a, b⟩ | ⟨rfl, b, d⟩
          · exact .inl ⟨a, by rw [b, st]; unfold isW; rw [q1]; rfl⟩
          · rw [gc, q1] at d
            cases d
        clear hC
        have q2 := q1
        unfold isL at q2
        simp only [Bool.or_eq_true, Bool.and_eq_true, decide_eq_true_eq] at q2
        repeat' first | (refine SW.seq_k fun K hK => ?_) | (refine SW.block ?_) | ((first | refine SW.region ?_ | refine SW.cond ?_ | refine SW.skip ?_); try simp only [go_sem, hD, hli, ie, i0, w1, gc]) | (refine ifI (fun hc => ?_) (fun hc => ?_) <;> first | (exfalso; omega) | skip) | (apply hK; clear hK K)
        all_goals
          refine Rnd.sub (s.size - (i + 1)) (by omega) ((hI _ _).2 ⟨i + 1, rfl, by omega, hC2, rfl⟩) (by repeat' (first | exact rfl | exact trivial | constructor))
      | false =>
        have q2 := q1
        unfold isL at q2
        simp only [Bool.or_eq_false_iff, Bool.and_eq_false_iff, decide_eq_false_iff_not] at q2
        by_cases hz : 0 < i ∧ isD c = true
        · obtain ⟨z1, z2⟩ := hz
          have hC2 : (isL (s.data.toList.getD 0 0) = true ∧ R = (s.data.toList.drop (i + 1)).all isW) ∨ (i + 1 = 0 ∧ R = false ∧ isL (s.data.toList.getD 0 0) = false) := by
            rcases hC with ⟨a, b⟩ | ⟨rfl, b, d⟩
            · exact .inl ⟨a, by rw [b, st]; unfold isW; rw [q1, z2]; rfl⟩
            · exact absurd z1 (Nat.lt_irrefl 0)
          clear hC
          unfold isD at z2
          simp only [Bool.and_eq_true, decide_eq_true_eq] at z2
          have z3 : ¬ ((i : Nat) : Int) = 0 := by omega
          repeat' first | (refine SW.seq_k fun K hK => ?_) | (refine SW.block ?_) | ((first | refine SW.region ?_ | refine SW.cond ?_ | refine SW.skip ?_); try simp only [go_sem, hD, hli, ie, i0, w1, gc, z3]) | (refine ifI (fun hc => ?_) (fun hc => ?_) <;> first | (exfalso; omega) | skip) | (apply hK; clear hK K)
          all_goals
            refine Rnd.sub (s.size - (i + 1)) (by omega) ((hI _ _).2 ⟨i + 1, rfl, by omega, hC2, rfl⟩) (by repeat' (first | exact rfl | exact trivial | constructor))
        · have hC2 : R = false := by
            rcases hC with ⟨a, b⟩ | ⟨rfl, b, d⟩
            · rcases Nat.eq_zero_or_pos i with rfl | h
              · rw [gc, q1] at a
                cases a
              · have : isD c = false := by
                  rw [Bool.eq_false_iff]
                  exact fun x => hz ⟨h, x⟩
                rw [b, st]
                unfold isW
                rw [q1, this]
                rfl
            · exact b
          clear hC
          subst hC2
          rcases Nat.eq_zero_or_pos i with rfl | h
          · repeat' first | (with_reducible refine And.intro (by omega) ?_) | (refine SW.seq_k fun K hK => ?_) | (refine SW.block ?_) | ((first | refine SW.region ?_ | refine SW.cond ?_ | refine SW.skip ?_ | refine SW.ret ?_); try simp only [go_sem, hD, hli, ie, i0, w1, gc]) | (refine ifI (fun hc => ?_) (fun hc => ?_) <;> first | (exfalso; omega) | skip) | (apply hK; clear hK K)
            all_goals
              refine ret_pure ?_; simp only [resL_tmp, resL_nil, tupOf, go_sem, hD]
          · have z2 : isD c = false := by
              rw [Bool.eq_false_iff]
              exact fun x => hz ⟨h, x⟩
            unfold isD at z2
            simp only [Bool.and_eq_false_iff, decide_eq_false_iff_not] at z2
            have z3 : ¬ ((i : Nat) : Int) = 0 := by omega
            repeat' first | (refine SW.seq_k fun K hK => ?_) | (refine SW.block ?_) | ((first | refine SW.region ?_ | refine SW.cond ?_ | refine SW.skip ?_ | refine SW.ret ?_); try simp only [go_sem, hD, hli, ie, i0, w1, gc, z3]) | (refine ifI (fun hc => ?_) (fun hc => ?_) <;> first | (exfalso; omega) | skip) | (apply hK; clear hK K)
            all_goals
              refine ret_pure ?_; simp only [resL_tmp, resL_nil, tupOf, go_sem, hD]
    · have hli : ¬ ((i : Nat) : Int) < (((s.size) : Nat) : Int) := by omega
      have hC2 : R = true := by
        rcases hC with ⟨a, b⟩ | ⟨rfl, b, d⟩
        · rw [b, all_end (l := s.data.toList) (i := i) (by omega)]
        · exfalso; omega
      subst hC2
      repeat' first | (refine SW.seq_k fun K hK => ?_) | ((first | refine SW.region ?_ | refine SW.cond ?_ | refine SW.exit ?_ | refine SW.ret ?_); try simp only [go_sem, hD, hli]) | (apply hK; clear hK K) | (clear hK K; apply hK; clear hK K)
      refine ret_pure ?_; simp only [resL_tmp, resL_nil, tupOf, go_sem, hD]
theorem name_r (s : ByteArray) : PCall Tryz.prog 119 [Str s] (SB (nameB s.data.toList)) := by
  have ls : s.data.toList.length = s.size := Array.length_toList
  have b2 := bnull s
  have h0l := letter_c (s.data.toList.getD 0 0)
  rcases name_cases s.data.toList with ⟨h1, h2⟩ | ⟨h1, h2⟩
  · rw [h2]
    have hz : ((s.size : Nat) : Int) = 0 := by rw [← ls, h1]; rfl
    refine Call.enter' (N := 45) (rs := [.tmp 2]) Tryz.func119 rfl rfl rfl (by decide) rfl ?_; simp only [argT]; have hD : (0 : Nat) = 0 := rfl
    repeat' first | (refine SW.seq_k fun K hK => ?_) | ((first | refine SW.region ?_ | refine SW.cond ?_ | refine SW.ret ?_); try simp only [go_sem, hD, hz]) | (apply hK; clear hK K)
    refine ret_pure ?_; simp only [resL_tmp, resL_nil, tupOf, go_sem, hD]
  · have h0 : 0 < s.size := by
      rcases Nat.eq_zero_or_pos s.size with h | h
      · exact absurd (List.eq_nil_of_length_eq_zero (by rw [ls]; exact h)) h1
      · exact h
    have hz : ¬ ((s.size : Nat) : Int) = 0 := by omega
    have hz1 : (0 : Int) < ((s.size : Nat) : Int) := by omega
    rcases h2 with ⟨h2, h3⟩ | ⟨h2, h3⟩
    · rw [h3]
      have h24i : (24 : Int) < ((s.size : Nat) : Int) := by omega
      refine Call.enter' (N := 45) (rs := [.tmp 2]) Tryz.func119 rfl rfl rfl (by decide) rfl ?_; simp only [argT]; have hD : (0 : Nat) = 0 := rfl
      repeat' first | (refine SW.seq_k fun K hK => ?_) | ((first | refine SW.region ?_ | refine SW.cond ?_ | refine SW.ret ?_); try simp only [go_sem, hD, hz, h24i]) | (apply hK; clear hK K)
      refine ret_pure ?_; simp only [resL_tmp, resL_nil, tupOf, go_sem, hD]
    · have h24i : ¬ (24 : Int) < ((s.size : Nat) : Int) := by omega
      rcases h3 with ⟨h3, h4⟩ | ⟨h3, ⟨h4, h5⟩ | ⟨h4, h5⟩⟩
      · rw [h4]
        rw [decide_eq_true h3] at b2
        cases q : isL (s.data.toList.getD 0 0) with
        | true =>
          rw [q] at h0l
          refine Call.enter' (N := 45) (rs := [.tmp 2]) Tryz.func119 rfl rfl rfl (by decide) rfl ?_; simp only [argT]; have hD : (0 : Nat) = 0 := rfl
          repeat' first | (refine SW.seq_k fun K hK => ?_) | ((first | refine SW.region ?_ | refine SW.cond ?_ | refine SW.ret ?_ | refine Call.of_pure (h0l) ?_); try simp only [go_sem, hD, hz, hz1, h24i, b2]) | (apply hK; clear hK K)
          refine ret_pure ?_; simp only [resL_tmp, resL_nil, tupOf, go_sem, hD]
        | false =>
          rw [q] at h0l
          refine Call.enter' (N := 45) (rs := [.tmp 2]) Tryz.func119 rfl rfl rfl (by decide) rfl ?_; simp only [argT]; have hD : (0 : Nat) = 0 := rfl
          repeat' first | (refine SW.seq_k fun K hK => ?_) | ((first | refine SW.region ?_ | refine SW.cond ?_ | refine SW.ret ?_ | refine Call.of_pure (h0l) ?_); try simp only [go_sem, hD, hz, hz1, h24i, b2]) | (apply hK; clear hK K)
          refine ret_pure ?_; simp only [resL_tmp, resL_nil, tupOf, go_sem, hD]
      · rw [h5]
        rw [h4] at h0l
        refine Call.enter' (N := 45) (rs := [.tmp 2]) Tryz.func119 rfl rfl rfl (by decide) rfl ?_; simp only [argT]; have hD : (0 : Nat) = 0 := rfl
        repeat' first | (refine SW.seq_k fun K hK => ?_) | ((first | refine SW.region ?_ | refine SW.cond ?_ | refine SW.ret ?_ | refine Call.of_pure (h0l) ?_); try simp only [go_sem, hD, hz, hz1, h24i, b2]) | (apply hK; clear hK K)
        refine ret_pure ?_; simp only [resL_tmp, resL_nil, tupOf, go_sem, hD]
      · obtain ⟨R, hR⟩ : ∃ R, R = nameB s.data.toList := ⟨_, rfl⟩
        rw [← hR] at h5 ⊢
        rw [h4] at h0l
        rw [decide_eq_false h3] at b2
        refine Call.enter' (N := 45) (rs := [.tmp 2]) Tryz.func119 rfl rfl rfl (by decide) rfl ?_; simp only [argT]; have hD : (0 : Nat) = 0 := rfl
        repeat' first | (refine SW.seq_k fun K hK => ?_) | (refine SW.block ?_) | ((first | refine SW.region ?_ | refine SW.cond ?_ | refine SW.skip ?_ | refine Call.of_pure (h0l) ?_); try simp only [go_sem, hD, hz, hz1, h24i, b2]) | (apply hK; clear hK K)
        obtain ⟨I, hI⟩ : ∃ I : Nat → St → Prop, ∀ k S, I k S ↔ (∃ (i : Nat) , k = s.size - i ∧ i ≤ s.size ∧ R = (s.data.toList.drop i).all isW ∧ S = ⟨[(0, Str s), (3, I64 i)], []⟩) := ⟨fun k S => _, fun _ _ => Iff.rfl⟩
        refine SW.loop' I (s.size) ((hI _ _).2 ⟨0, rfl, Nat.zero_le _, h5, rfl⟩) (by repeat' (first | exact rfl | exact trivial | constructor)) ?_
        intro k S hIn
        obtain ⟨i, rfl, hi, hC, rfl⟩ := (hI _ _).1 hIn
        clear hIn
        have ie : ((i : Nat) : Int).toNat = i := Int.toNat_natCast _
        have i0 : (0 : Int) ≤ ((i : Nat) : Int) := by omega
        clear h5 hR
        by_cases hlt : i < s.size
        · have hli : ((i : Nat) : Int) < (((s.size) : Nat) : Int) := by omega
          have w1 : IntKind.i64.wrap ((i : Int) + 1) = ((i + 1 : Nat) : Int) := by rw [i64_wrap (by omega) (by omega)]; omega
          rw [all_step (by omega)] at hC
          obtain ⟨c, gc⟩ : ∃ c, s.data.toList.getD i 0 = c := ⟨_, rfl⟩
          rw [gc] at hC
          have lc := letter_c c
          cases q1 : isL c with
          | true =>
            rw [q1] at lc
            have hC2 : R = (s.data.toList.drop (i + 1)).all isW := by rw [hC]; unfold isW; rw [q1]; rfl
            repeat' first | (refine SW.seq_k fun K hK => ?_) | (refine SW.block ?_) | ((first | refine SW.region ?_ | refine SW.cond ?_ | refine SW.skip ?_ | refine Call.of_pure (lc) ?_); try simp only [go_sem, hD, hli, ie, i0, w1, gc]) | (apply hK; clear hK K)
            refine Rnd.sub (s.size - (i + 1)) (by omega) ((hI _ _).2 ⟨i + 1, rfl, by omega, hC2, rfl⟩) (by repeat' (first | exact rfl | exact trivial | constructor))
          | false =>
            rw [q1] at lc
            cases q2 : isD c with
            | true =>
              have hC2 : R = (s.data.toList.drop (i + 1)).all isW := by rw [hC]; unfold isW; rw [q1, q2]; rfl
              unfold isD at q2
              simp only [Bool.and_eq_true, decide_eq_true_eq] at q2
              repeat' first | (refine SW.seq_k fun K hK => ?_) | (refine SW.block ?_) | ((first | refine SW.region ?_ | refine SW.cond ?_ | refine SW.skip ?_ | refine Call.of_pure (lc) ?_); try simp only [go_sem, hD, hli, ie, i0, w1, gc]) | (refine ifI (fun hc => ?_) (fun hc => ?_) <;> first | (exfalso; omega) | skip) | (apply hK; clear hK K)
              refine Rnd.sub (s.size - (i + 1)) (by omega) ((hI _ _).2 ⟨i + 1, rfl, by omega, hC2, rfl⟩) (by repeat' (first | exact rfl | exact trivial | constructor))
            | false =>
              have hC2 : R = false := by rw [hC]; unfold isW; rw [q1, q2]; rfl
              subst hC2
              unfold isD at q2
              simp only [Bool.and_eq_false_iff, decide_eq_false_iff_not] at q2
              repeat' first | (refine SW.seq_k fun K hK => ?_) | (refine SW.block ?_) | ((first | refine SW.region ?_ | refine SW.cond ?_ | refine SW.skip ?_ | refine SW.ret ?_ | refine Call.of_pure (lc) ?_); try simp only [go_sem, hD, hli, ie, i0, w1, gc]) | (refine ifI (fun hc => ?_) (fun hc => ?_) <;> first | (exfalso; omega) | skip) | (apply hK; clear hK K)
              all_goals
                refine ret_pure ?_; simp only [resL_tmp, resL_nil, tupOf, go_sem, hD]
        · have hli : ¬ ((i : Nat) : Int) < (((s.size) : Nat) : Int) := by omega
          rw [all_end (l := s.data.toList) (i := i) (by omega)] at hC
          subst hC
          repeat' first | (refine SW.seq_k fun K hK => ?_) | ((first | refine SW.region ?_ | refine SW.cond ?_ | refine SW.exit ?_ | refine SW.ret ?_); try simp only [go_sem, hD, hli]) | (apply hK; clear hK K) | (clear hK K; apply hK; clear hK K)
          refine ret_pure ?_; simp only [resL_tmp, resL_nil, tupOf, go_sem, hD]
end Go.Proofs.YtpidncgibgiidaaGreat
namespace Go.Ab.A34
open Go Go.Ab
def posS (x : ByteArray) : Nat → List ByteArray → Int
  | _, [] => -1
  | i, y :: l => if x = y then (i : Int) else posS x (i + 1) l
theorem posS_step {x : ByteArray} {l : List ByteArray} {i : Nat} (h : i < l.length) : posS x i (l.drop i) = if x = l.getD i ⟨#[]⟩ then (i : Int) else posS x (i + 1) (l.drop (i + 1)) := by
  have g : l.getD i ⟨#[]⟩ = l[i] := by simp [List.getD_eq_getElem?_getD, h]
  rw [List.drop_eq_getElem_cons h, g]
  rfl
def namesF (l : List ByteArray) : Nat → Nat → Bool
  | 0, _ => true
  | g + 1, i => nameB (l.getD i ⟨#[]⟩).data.toList && (!decide (0 ≤ posS (l.getD i ⟨#[]⟩) 0 (l.take i))) && namesF l g (i + 1)
def namesB (l : List ByteArray) : Bool := namesF l l.length 0
def sF (l : List ByteArray) (i : Nat) : List SV := [.sc (.string (l.getD i ⟨#[]⟩))]
abbrev SL (l : List ByteArray) : SV := .fl l.length 1 (sF l)
theorem getD_take {α : Type} (l : List α) (n i : Nat) (d : α) (h : i < n) : (l.take n).getD i d = l.getD i d := by
  rw [List.getD_eq_getElem?_getD, List.getD_eq_getElem?_getD, List.getElem?_take, if_pos h]
end Go.Ab.A34
namespace Go.Proofs.YtpidncgibgiidaaGreat
open Go Go.Ab Go.Ab.A34
variable [Gl] [Tabs]
theorem index_c (x : ByteArray) (l : List ByteArray) (n : Nat) (hl : n ≤ 1000000) (hn : l.length = n) (f : Nat → List SV) (hf : ∀ i, i < n → f i = [Str (l.getD i ⟨#[]⟩)]) : PCall Tryz.prog 192 [.fl n 1 f, Str x] (I64 (posS x 0 l)) := by
  subst hn
  obtain ⟨R, hR⟩ : ∃ R, R = posS x 0 l := ⟨_, rfl⟩
  rw [← hR]
  refine Call.enter' (N := 19) (rs := [.tmp 4]) Tryz.func192 rfl rfl rfl (by decide) rfl ?_; simp only [argT]; have hD : (0 : Nat) = 0 := rfl
  repeat' first | (refine SW.seq_k fun K hK => ?_) | (refine SW.block ?_) | (refine SW.region ?_; try simp only [go_sem, hD]) | (apply hK; clear hK K)
  obtain ⟨I, hI⟩ : ∃ I : Nat → St → Prop, ∀ k S, I k S ↔ (∃ (i : Nat) , k = l.length - i ∧ i ≤ l.length ∧ R = posS x i (l.drop i) ∧ S = ⟨[(0, .fl l.length 1 f), (1, Str x), (7, I64 l.length), (8, I64 i)], []⟩) := ⟨fun k S => _, fun _ _ => Iff.rfl⟩
  refine SW.loop' I (l.length) ((hI _ _).2 ⟨0, rfl, Nat.zero_le _, by rw [List.drop_zero]; exact hR, rfl⟩) (by repeat' (first | exact rfl | exact trivial | constructor)) ?_
  intro k S hIn
  obtain ⟨i, rfl, hi, hC, rfl⟩ := (hI _ _).1 hIn
  clear hIn
  have ie : ((i : Nat) : Int).toNat = i := Int.toNat_natCast _
  have i0 : (0 : Int) ≤ ((i : Nat) : Int) := by omega
  clear hR
  by_cases hlt : i < l.length
  · have hli : ((i : Nat) : Int) < (((l.length) : Nat) : Int) := by omega
    have w1 : IntKind.i64.wrap ((i : Int) + 1) = ((i + 1 : Nat) : Int) := by rw [i64_wrap (by omega) (by omega)]; omega
    rw [posS_step hlt] at hC
    have fi := hf i hlt
    by_cases he : x = l.getD i ⟨#[]⟩
    · rw [if_pos he] at hC
      have ee : (x.toList == (l.getD i ⟨#[]⟩).toList) = true := barr_eq.2 he
      subst hC
      repeat' first | (refine SW.seq_k fun K hK => ?_) | (refine SW.block ?_) | ((first | refine SW.region ?_ | refine SW.cond ?_ | refine SW.skip ?_ | refine SW.ret ?_); try simp only [go_sem, hD, hli, ie, i0, w1, fi, ee]) | (apply hK; clear hK K)
      refine ret_pure ?_; simp only [resL_tmp, resL_nil, tupOf, go_sem, hD]
    · rw [if_neg he] at hC
      have ee : (x.toList == (l.getD i ⟨#[]⟩).toList) = false := by rw [Bool.eq_false_iff]; exact fun h => he (barr_eq.1 h)
      repeat' first | (refine SW.seq_k fun K hK => ?_) | (refine SW.block ?_) | ((first | refine SW.region ?_ | refine SW.cond ?_ | refine SW.skip ?_); try simp only [go_sem, hD, hli, ie, i0, w1, fi, ee]) | (apply hK; clear hK K)
      refine Rnd.sub (l.length - (i + 1)) (by omega) ((hI _ _).2 ⟨i + 1, rfl, by omega, hC, rfl⟩) (by repeat' (first | exact rfl | exact trivial | constructor))
  · have hli : ¬ ((i : Nat) : Int) < (((l.length) : Nat) : Int) := by omega
    rw [List.drop_of_length_le (by omega)] at hC
    have hC2 : R = -1 := hC
    subst hC2
    repeat' first | (refine SW.seq_k fun K hK => ?_) | ((first | refine SW.region ?_ | refine SW.cond ?_ | refine SW.exit ?_ | refine SW.ret ?_); try simp only [go_sem, hD, hli]) | (apply hK; clear hK K) | (clear hK K; apply hK; clear hK K)
    refine ret_pure ?_; simp only [resL_tmp, resL_nil, tupOf, go_sem, hD]
theorem contains_c (x : ByteArray) (l : List ByteArray) (n : Nat) (hl : n ≤ 1000000) (hn : l.length = n) (f : Nat → List SV) (hf : ∀ i, i < n → f i = [Str (l.getD i ⟨#[]⟩)]) : PCall Tryz.prog 164 [.fl n 1 f, Str x] (SB (decide (0 ≤ posS x 0 l))) := by
  have ix := index_c x l n hl hn f hf
  refine Call.enter' (N := 9) (rs := [.tmp 4]) Tryz.func164 rfl rfl rfl (by decide) rfl ?_; simp only [argT]; have hD : (0 : Nat) = 0 := rfl
  repeat' first | (refine SW.seq_k fun K hK => ?_) | ((first | refine SW.region ?_ | refine SW.ret ?_ | refine Call.of_pure (ix) ?_); try simp only [go_sem, hD]) | (apply hK; clear hK K)
  refine ret_pure ?_; simp only [resL_tmp, resL_nil, tupOf, go_sem, hD]
theorem attr_r (x : ByteArray) (l : List ByteArray) (n : Nat) (hl : n ≤ 1000000) (hn : l.length = n) (f : Nat → List SV) (hf : ∀ i, i < n → f i = [Str (l.getD i ⟨#[]⟩)]) : PCall Tryz.prog 158 [.fl n 1 f, Str x] (I64 (posS x 0 l)) := by
  subst hn
  obtain ⟨R, hR⟩ : ∃ R, R = posS x 0 l := ⟨_, rfl⟩
  rw [← hR]
  refine Call.enter' (N := 19) (rs := [.tmp 4]) Tryz.func158 rfl rfl rfl (by decide) rfl ?_; simp only [argT]; have hD : (0 : Nat) = 0 := rfl
  repeat' first | (refine SW.seq_k fun K hK => ?_) | (refine SW.block ?_) | (refine SW.region ?_; try simp only [go_sem, hD]) | (apply hK; clear hK K)
  obtain ⟨I, hI⟩ : ∃ I : Nat → St → Prop, ∀ k S, I k S ↔ (∃ (i : Nat) , k = l.length - i ∧ i ≤ l.length ∧ R = posS x i (l.drop i) ∧ S = ⟨[(0, .fl l.length 1 f), (1, Str x), (5, I64 i)], []⟩) := ⟨fun k S => _, fun _ _ => Iff.rfl⟩
  refine SW.loop' I (l.length) ((hI _ _).2 ⟨0, rfl, Nat.zero_le _, by rw [List.drop_zero]; exact hR, rfl⟩) (by repeat' (first | exact rfl | exact trivial | constructor)) ?_
  intro k S hIn
  obtain ⟨i, rfl, hi, hC, rfl⟩ := (hI _ _).1 hIn
  clear hIn
  have ie : ((i : Nat) : Int).toNat = i := Int.toNat_natCast _
  have i0 : (0 : Int) ≤ ((i : Nat) : Int) := by omega
  clear hR
  by_cases hlt : i < l.length
  · have hli : ((i : Nat) : Int) < (((l.length) : Nat) : Int) := by omega
    have w1 : IntKind.i64.wrap ((i : Int) + 1) = ((i + 1 : Nat) : Int) := by rw [i64_wrap (by omega) (by omega)]; omega
    rw [posS_step hlt] at hC
    have fi := hf i hlt
    by_cases he : x = l.getD i ⟨#[]⟩
    · rw [if_pos he] at hC
      have ee : ((l.getD i ⟨#[]⟩).toList == x.toList) = true := barr_eq.2 he.symm
      subst hC
      repeat' first | (refine SW.seq_k fun K hK => ?_) | (refine SW.block ?_) | ((first | refine SW.region ?_ | refine SW.cond ?_ | refine SW.skip ?_ | refine SW.ret ?_); try simp only [go_sem, hD, hli, ie, i0, w1, fi, ee]) | (apply hK; clear hK K)
      refine ret_pure ?_; simp only [resL_tmp, resL_nil, tupOf, go_sem, hD]
    · rw [if_neg he] at hC
      have ee : ((l.getD i ⟨#[]⟩).toList == x.toList) = false := by rw [Bool.eq_false_iff]; exact fun h => he (barr_eq.1 h).symm
      repeat' first | (refine SW.seq_k fun K hK => ?_) | (refine SW.block ?_) | ((first | refine SW.region ?_ | refine SW.cond ?_ | refine SW.skip ?_); try simp only [go_sem, hD, hli, ie, i0, w1, fi, ee]) | (apply hK; clear hK K)
      refine Rnd.sub (l.length - (i + 1)) (by omega) ((hI _ _).2 ⟨i + 1, rfl, by omega, hC, rfl⟩) (by repeat' (first | exact rfl | exact trivial | constructor))
  · have hli : ¬ ((i : Nat) : Int) < (((l.length) : Nat) : Int) := by omega
    rw [List.drop_of_length_le (by omega)] at hC
    have hC2 : R = -1 := hC
    subst hC2
    repeat' first | (refine SW.seq_k fun K hK => ?_) | ((first | refine SW.region ?_ | refine SW.cond ?_ | refine SW.exit ?_ | refine SW.ret ?_); try simp only [go_sem, hD, hli]) | (apply hK; clear hK K) | (clear hK K; apply hK; clear hK K)
    refine ret_pure ?_; simp only [resL_tmp, resL_nil, tupOf, go_sem, hD]
theorem sF_take {l : List ByteArray} {i j : Nat} (hj : j < i) : sF l j = [Str ((l.take i).getD j ⟨#[]⟩)] := by
  rw [getD_take _ _ _ _ hj]
  rfl
theorem names_r (l : List ByteArray) (hl : l.length ≤ 1000000) : PCall Tryz.prog 120 [SL l] (SB (namesB l)) := by
  obtain ⟨R, hR⟩ : ∃ R, R = namesB l := ⟨_, rfl⟩
  rw [← hR]
  unfold namesB at hR
  refine Call.enter' (N := 27) (rs := [.tmp 2]) Tryz.func120 rfl rfl rfl (by decide) rfl ?_; simp only [argT]; have hD : (0 : Nat) = 0 := rfl
  repeat' first | (refine SW.seq_k fun K hK => ?_) | (refine SW.block ?_) | (refine SW.region ?_; try simp only [go_sem, hD]) | (apply hK; clear hK K)
  obtain ⟨I, hI⟩ : ∃ I : Nat → St → Prop, ∀ k S, I k S ↔ (∃ (i : Nat) , k = l.length - i ∧ i ≤ l.length ∧ R = namesF l (l.length - i) i ∧ S = ⟨[(0, SL l), (3, I64 i)], []⟩) := ⟨fun k S => _, fun _ _ => Iff.rfl⟩
  refine SW.loop' I (l.length) ((hI _ _).2 ⟨0, rfl, Nat.zero_le _, hR, rfl⟩) (by repeat' (first | exact rfl | exact trivial | constructor)) ?_
  intro k S hIn
  obtain ⟨i, rfl, hi, hC, rfl⟩ := (hI _ _).1 hIn
  clear hIn
  have ie : ((i : Nat) : Int).toNat = i := Int.toNat_natCast _
  have i0 : (0 : Int) ≤ ((i : Nat) : Int) := by omega
  clear hR
  by_cases hlt : i < l.length
  · have hli : ((i : Nat) : Int) < (((l.length) : Nat) : Int) := by omega
    have w1 : IntKind.i64.wrap ((i : Int) + 1) = ((i + 1 : Nat) : Int) := by rw [i64_wrap (by omega) (by omega)]; omega
    have e : l.length - i = (l.length - (i + 1)) + 1 := by omega
    rw [e, namesF] at hC
    have iz : (((i : Nat) : Int) - 0).toNat = i := by omega
    have il : ((i : Nat) : Int) ≤ ((l.length : Nat) : Int) := by omega
    have fi : sF l i = [Str (l.getD i ⟨#[]⟩)] := rfl
    have nm := name_r (l.getD i ⟨#[]⟩)
    have at' := attr_r (l.getD i ⟨#[]⟩) (l.take i) i (by omega) (by rw [List.length_take]; omega) (sF l) (fun j hj => sF_take (l := l) hj)
    generalize posS (l.getD i ⟨#[]⟩) 0 (l.take i) = q at *
    cases q1 : nameB (l.getD i ⟨#[]⟩).data.toList with
    | false =>
      rw [q1] at nm hC
      have hC2 : R = false := hC
      subst hC2
      repeat' first | (refine SW.seq_k fun K hK => ?_) | (refine SW.block ?_) | ((first | refine SW.region ?_ | refine SW.regionD (Checked.mixed Tryz.checked) (by kernel_rfl) ?_ | refine SW.cond ?_ | refine SW.skip ?_ | refine SW.ret ?_ | refine ⟨_, nm, ?_⟩); try simp only [go_sem, hD, hli, ie, i0, w1, fi, iz, il]) | (apply hK; clear hK K)
      refine ret_pure ?_; simp only [resL_tmp, resL_nil, tupOf, go_sem, hD]
    | true =>
      rw [q1] at nm hC
      rw [Bool.true_and] at hC
      by_cases hq : 0 ≤ q
      · rw [decide_eq_true hq] at hC
        have hC2 : R = false := hC
        subst hC2
        repeat' first | (refine SW.seq_k fun K hK => ?_) | (refine SW.block ?_) | ((first | refine SW.region ?_ | refine SW.regionD (Checked.mixed Tryz.checked) (by kernel_rfl) ?_ | refine SW.cond ?_ | refine SW.skip ?_ | refine SW.ret ?_ | refine ⟨_, nm, ?_⟩ | refine ⟨_, at', ?_⟩); try simp only [go_sem, hD, hli, ie, i0, w1, fi, iz, il, hq]) | (apply hK; clear hK K)
        refine ret_pure ?_; simp only [resL_tmp, resL_nil, tupOf, go_sem, hD]
      · rw [decide_eq_false hq, Bool.not_false, Bool.true_and] at hC
        repeat' first | (refine SW.seq_k fun K hK => ?_) | (refine SW.block ?_) | ((first | refine SW.region ?_ | refine SW.regionD (Checked.mixed Tryz.checked) (by kernel_rfl) ?_ | refine SW.cond ?_ | refine SW.skip ?_ | refine ⟨_, nm, ?_⟩ | refine ⟨_, at', ?_⟩); try simp only [go_sem, hD, hli, ie, i0, w1, fi, iz, il, hq]) | (apply hK; clear hK K)
        refine Rnd.sub (l.length - (i + 1)) (by omega) ((hI _ _).2 ⟨i + 1, rfl, by omega, hC, rfl⟩) (by repeat' (first | exact rfl | exact trivial | constructor))
  · have hli : ¬ ((i : Nat) : Int) < (((l.length) : Nat) : Int) := by omega
    have e : l.length - i = 0 := by omega
    rw [e] at hC
    have hC2 : R = true := hC
    subst hC2
    repeat' first | (refine SW.seq_k fun K hK => ?_) | ((first | refine SW.region ?_ | refine SW.cond ?_ | refine SW.exit ?_ | refine SW.ret ?_); try simp only [go_sem, hD, hli]) | (apply hK; clear hK K) | (clear hK K; apply hK; clear hK K)
    refine ret_pure ?_; simp only [resL_tmp, resL_nil, tupOf, go_sem, hD]
end Go.Proofs.YtpidncgibgiidaaGreat
namespace Go.Ab
theorem St.le_only [Gl] {t : List (Nat × SV)} {h : Heap} {b : Nat} {k : Blk} (hm : (b, k) ∈ h) : (St.mk t h).le ⟨t, [(b, k)]⟩ := St.le_sublist (fun x hx => by
  rw [List.mem_singleton] at hx
  rw [hx]
  exact hm) (fun _ => by simp)
end Go.Ab
namespace Go.Ab.A34
open Go Go.Ab Go.Proofs
abbrev V3 := Int × Int × ByteArray
def v0 : V3 := (0, 0, ⟨#[]⟩)
def encV (v : V3) : List Value := [.int .i64 v.1, .int .i64 v.2.1, .string v.2.2]
abbrev vC (v : V3) : List SV := [I64 v.1, I64 v.2.1, Str v.2.2]
abbrev VV (v : V3) : SV := .agg (vC v)
def vF (l : List V3) (i : Nat) : List SV := vC (l.getD i v0)
abbrev VL (l : List V3) : SV := .fl l.length 3 (vF l)
abbrev R3 := Int × List V3
def r0 : R3 := (0, [])
def rC (r : R3) : List SV := [I64 r.1, VL r.2]
def rF (l : List R3) (i : Nat) : List SV := rC (l.getD i r0)
abbrev RL (l : List R3) : SV := .fl l.length 2 (rF l)
structure Tb where
  name : ByteArray
  attrs : List ByteArray
  rows : List R3
abbrev TB (t : Tb) : SV := .agg [Str t.name, SL t.attrs, RL t.rows]
def okV (v : V3) : Bool := vok v.1 v.2.1 v.2.2
def rowsV (n : Nat) : Int → List R3 → Int
  | _, [] => 0
  | last, r :: l => if r.1 ≤ last then 1 else if ¬ r.2.length = n then 6 else if r.2.all okV = true then rowsV n r.1 l else 1
def validS (t : Tb) : Int :=
  if nameB t.name.data.toList = true then
    if 16 < t.attrs.length ∨ 1000 < t.rows.length then 3
    else if namesB t.attrs = true then rowsV t.attrs.length 0 t.rows else 1
  else 1
theorem okV_step {l : List V3} {i : Nat} (h : i < l.length) : (l.drop i).all okV = (okV (l.getD i v0) && (l.drop (i + 1)).all okV) := by
  have g : l.getD i v0 = l[i] := by simp [List.getD_eq_getElem?_getD, h]
  rw [List.drop_eq_getElem_cons h, List.all_cons, g]
theorem rowsV_step {n : Nat} {p : Int} {l : List R3} {i : Nat} (h : i < l.length) : rowsV n p (l.drop i) = if (l.getD i r0).1 ≤ p then 1 else if ¬ (l.getD i r0).2.length = n then 6 else if (l.getD i r0).2.all okV = true then rowsV n (l.getD i r0).1 (l.drop (i + 1)) else 1 := by
  have g : l.getD i r0 = l[i] := by simp [List.getD_eq_getElem?_getD, h]
  rw [List.drop_eq_getElem_cons h, g]
  rfl
theorem getD_mem {α : Type} (d : α) {l : List α} {i : Nat} (h : i < l.length) : l.getD i d ∈ l := by
  have g : l.getD i d = l[i] := by simp [List.getD_eq_getElem?_getD, h]
  rw [g]
  exact List.getElem_mem h
def posF {α : Type} (p : α → Bool) : Nat → List α → Int
  | _, [] => -1
  | i, y :: l => if p y = true then (i : Int) else posF p (i + 1) l
theorem posF_any {α : Type} (p : α → Bool) : ∀ (l : List α) (i : Nat), (0 ≤ posF p i l ↔ l.any p = true)
  | [], i => by
    unfold posF
    simp
  | y :: l, i => by
    unfold posF
    by_cases h : p y = true
    · rw [if_pos h]
      simp [h]
    · rw [if_neg h, posF_any p l (i + 1), List.any_cons, Bool.eq_false_iff.2 h, Bool.false_or]
theorem posF_step {α : Type} {p : α → Bool} (d : α) {l : List α} {i : Nat} (h : i < l.length) : posF p i (l.drop i) = if p (l.getD i d) = true then (i : Int) else posF p (i + 1) (l.drop (i + 1)) := by
  have g : l.getD i d = l[i] := by simp [List.getD_eq_getElem?_getD, h]
  rw [List.drop_eq_getElem_cons h, g]
  rfl
end Go.Ab.A34
namespace Go.Proofs.YtpidncgibgiidaaGreat
open Go Go.Ab Go.Ab.A34
variable [Gl] [Tabs]
theorem valids_r (l : List V3) (hl : l.length ≤ 9223372036854775807) : PCall Tryz.prog 83 [VL l] (SB (l.all okV)) := by
  obtain ⟨R, hR⟩ : ∃ R, R = l.all okV := ⟨_, rfl⟩
  rw [← hR]
  refine Call.enter' (N := 16) (rs := [.tmp 2]) Tryz.func83 rfl rfl rfl (by decide) rfl ?_; simp only [argT]; have hD : (0 : Nat) = 0 := rfl
  repeat' first | (refine SW.seq_k fun K hK => ?_) | (refine SW.block ?_) | (refine SW.region ?_; try simp only [go_sem, hD]) | (apply hK; clear hK K)
  obtain ⟨I, hI⟩ : ∃ I : Nat → St → Prop, ∀ k S, I k S ↔ (∃ (i : Nat) , k = l.length - i ∧ i ≤ l.length ∧ R = (l.drop i).all okV ∧ S = ⟨[(0, VL l), (3, I64 i)], []⟩) := ⟨fun k S => _, fun _ _ => Iff.rfl⟩
  refine SW.loop' I (l.length) ((hI _ _).2 ⟨0, rfl, Nat.zero_le _, hR, rfl⟩) (by repeat' (first | exact rfl | exact trivial | constructor)) ?_
  intro k S hIn
  obtain ⟨i, rfl, hi, hC, rfl⟩ := (hI _ _).1 hIn
  clear hIn
  have ie : ((i : Nat) : Int).toNat = i := Int.toNat_natCast _
  have i0 : (0 : Int) ≤ ((i : Nat) : Int) := by omega
  clear hR
  by_cases hlt : i < l.length
  · have hli : ((i : Nat) : Int) < (((l.length) : Nat) : Int) := by omega
    have w1 : IntKind.i64.wrap ((i : Int) + 1) = ((i + 1 : Nat) : Int) := by rw [i64_wrap (by omega) (by omega)]; omega
    rw [okV_step hlt] at hC
    obtain ⟨k, n, s, hv⟩ : ∃ k n s, l.getD i v0 = (k, n, s) := ⟨_, _, _, rfl⟩
    rw [hv] at hC
    have fi : vF l i = [I64 k, I64 n, Str s] := by unfold vF; rw [hv]
    have va := valid_r k n s
    cases q : vok k n s with
    | true =>
      rw [q] at va
      have hC2 : R = (l.drop (i + 1)).all okV := by rw [hC]; unfold okV; simp only; rw [q]; rfl
      repeat' first | (refine SW.seq_k fun K hK => ?_) | (refine SW.block ?_) | ((first | refine SW.region ?_ | refine SW.cond ?_ | refine SW.skip ?_ | refine Call.of_pure (va) ?_); try simp only [go_sem, hD, hli, ie, i0, w1, fi]) | (apply hK; clear hK K)
      refine Rnd.sub (l.length - (i + 1)) (by omega) ((hI _ _).2 ⟨i + 1, rfl, by omega, hC2, rfl⟩) (by repeat' (first | exact rfl | exact trivial | constructor))
    | false =>
      rw [q] at va
      have hC2 : R = false := by rw [hC]; unfold okV; simp only; rw [q]; rfl
      subst hC2
      repeat' first | (refine SW.seq_k fun K hK => ?_) | (refine SW.block ?_) | ((first | refine SW.region ?_ | refine SW.cond ?_ | refine SW.skip ?_ | refine SW.ret ?_ | refine Call.of_pure (va) ?_); try simp only [go_sem, hD, hli, ie, i0, w1, fi]) | (apply hK; clear hK K)
      refine ret_pure ?_; simp only [resL_tmp, resL_nil, tupOf, go_sem, hD]
  · have hli : ¬ ((i : Nat) : Int) < (((l.length) : Nat) : Int) := by omega
    rw [List.drop_of_length_le (by omega)] at hC
    have hC2 : R = true := hC
    subst hC2
    repeat' first | (refine SW.seq_k fun K hK => ?_) | ((first | refine SW.region ?_ | refine SW.cond ?_ | refine SW.exit ?_ | refine SW.ret ?_); try simp only [go_sem, hD, hli]) | (apply hK; clear hK K) | (clear hK K; apply hK; clear hK K)
    refine ret_pure ?_; simp only [resL_tmp, resL_nil, tupOf, go_sem, hD]
theorem notValid_p (k n : Int) (s : ByteArray) : PCall Tryz.prog 194 [.agg [I64 k, I64 n, Str s]] (SB (!(vok k n s))) := by
  have va := valid_p k n s
  refine Call.enter' (N := 6) (rs := [.tmp 2]) Tryz.func194 rfl rfl rfl (by decide) rfl ?_; simp only [argT]; have hD : (0 : Nat) = 0 := rfl
  repeat' first | (refine SW.seq_k fun K hK => ?_) | ((first | refine SW.region ?_ | refine SW.ret ?_ | refine Call.of_pure (va) ?_ | (refine allF_i fun b hb => ?_; replace hD := And.intro hb hD; clear hb; try simp only [fresh_cons, fresh_nil, and_true, ne_eq, neF] at hD)); try simp only [go_sem, hD]) | (apply hK; clear hK K)
  refine ret_pure ?_; simp only [resL_tmp, resL_nil, tupOf, go_sem, hD]
theorem indexF_v (p : V3 → Bool) (g : Nat) (hg : ∀ v, PCall Tryz.prog g [VV v] (SB (p v))) (l : List V3) (hl : l.length ≤ 9223372036854775807) : PCall Tryz.prog 205 [VL l, .fn (.func g) [] []] (I64 (posF p 0 l)) := by
  obtain ⟨R, hR⟩ : ∃ R, R = posF p 0 l := ⟨_, rfl⟩
  rw [← hR]
  refine Call.enter' (N := 19) (rs := [.tmp 4]) Tryz.func205 rfl rfl rfl (by decide) rfl ?_; simp only [argT]; have hD : (0 : Nat) = 0 := rfl
  repeat' first | (refine SW.seq_k fun K hK => ?_) | (refine SW.block ?_) | (refine SW.region ?_; try simp only [go_sem, hD]) | (apply hK; clear hK K)
  obtain ⟨I, hI⟩ : ∃ I : Nat → St → Prop, ∀ k S, I k S ↔ (∃ (i : Nat) , k = l.length - i ∧ i ≤ l.length ∧ R = posF p i (l.drop i) ∧ S = ⟨[(0, VL l), (1, .fn (.func g) [] []), (7, I64 l.length), (8, I64 i)], []⟩) := ⟨fun k S => _, fun _ _ => Iff.rfl⟩
  refine SW.loop' I (l.length) ((hI _ _).2 ⟨0, rfl, Nat.zero_le _, hR, rfl⟩) (by repeat' (first | exact rfl | exact trivial | constructor)) ?_
  intro k S hIn
  obtain ⟨i, rfl, hi, hC, rfl⟩ := (hI _ _).1 hIn
  clear hIn
  have ie : ((i : Nat) : Int).toNat = i := Int.toNat_natCast _
  have i0 : (0 : Int) ≤ ((i : Nat) : Int) := by omega
  clear hR
  by_cases hlt : i < l.length
  · have hli : ((i : Nat) : Int) < (((l.length) : Nat) : Int) := by omega
    have w1 : IntKind.i64.wrap ((i : Int) + 1) = ((i + 1 : Nat) : Int) := by rw [i64_wrap (by omega) (by omega)]; omega
    rw [posF_step v0 hlt] at hC
    obtain ⟨k, n, s, hv⟩ : ∃ k n s, l.getD i v0 = (k, n, s) := ⟨_, _, _, rfl⟩
    rw [hv] at hC
    have fi : vF l i = [I64 k, I64 n, Str s] := by unfold vF; rw [hv]
    have hp := hg (k, n, s)
    cases q : p (k, n, s) with
    | true =>
      rw [q] at hp
      rw [q, if_pos rfl] at hC
      subst hC
      repeat' first | (refine SW.seq_k fun K hK => ?_) | (refine SW.block ?_) | ((first | refine SW.region ?_ | refine SW.cond ?_ | refine SW.skip ?_ | refine SW.ret ?_ | refine Call.of_pure (hp) ?_); try simp only [go_sem, hD, hli, ie, i0, w1, fi]) | (apply hK; clear hK K)
      refine ret_pure ?_; simp only [resL_tmp, resL_nil, tupOf, go_sem, hD]
    | false =>
      rw [q] at hp
      rw [q, if_neg (by simp)] at hC
      repeat' first | (refine SW.seq_k fun K hK => ?_) | (refine SW.block ?_) | ((first | refine SW.region ?_ | refine SW.cond ?_ | refine SW.skip ?_ | refine Call.of_pure (hp) ?_); try simp only [go_sem, hD, hli, ie, i0, w1, fi]) | (apply hK; clear hK K)
      refine Rnd.sub (l.length - (i + 1)) (by omega) ((hI _ _).2 ⟨i + 1, rfl, by omega, hC, rfl⟩) (by repeat' (first | exact rfl | exact trivial | constructor))
  · have hli : ¬ ((i : Nat) : Int) < (((l.length) : Nat) : Int) := by omega
    rw [List.drop_of_length_le (by omega)] at hC
    have hC2 : R = -1 := hC
    subst hC2
    repeat' first | (refine SW.seq_k fun K hK => ?_) | ((first | refine SW.region ?_ | refine SW.cond ?_ | refine SW.exit ?_ | refine SW.ret ?_); try simp only [go_sem, hD, hli]) | (apply hK; clear hK K) | (clear hK K; apply hK; clear hK K)
    refine ret_pure ?_; simp only [resL_tmp, resL_nil, tupOf, go_sem, hD]
theorem validValues_p (l : List V3) (hl : l.length ≤ 9223372036854775807) : PCall Tryz.prog 165 [VL l] (SB (l.all okV)) := by
  have ix := indexF_v (fun v => !(okV v)) 194 (fun v => notValid_p v.1 v.2.1 v.2.2) l hl
  have hm := posF_any (fun v => !(okV v)) l 0
  have cf : PCall Tryz.prog 193 [VL l, .fn (.func 194) [] []] (SB (!(l.all okV))) := by
    refine Call.enter' (N := 9) (rs := [.tmp 4]) Tryz.func193 rfl rfl rfl (by decide) rfl ?_; simp only [argT]; have hD : (0 : Nat) = 0 := rfl
    repeat' first | (refine SW.seq_k fun K hK => ?_) | ((first | refine SW.region ?_ | refine SW.ret ?_ | refine Call.of_pure (ix) ?_); try simp only [go_sem, hD]) | (apply hK; clear hK K)
    refine ret_pure ?_; simp only [resL_tmp, resL_nil, tupOf, go_sem, hD]
    refine congrArg (fun b => SV.sc (.bool b)) ?_
    rw [Bool.eq_iff_iff, decide_eq_true_eq, hm, List.any_eq_true]
    simp
  refine Call.enter' (N := 6) (rs := [.tmp 2]) Tryz.func165 rfl rfl rfl (by decide) rfl ?_; simp only [argT]; have hD : (0 : Nat) = 0 := rfl
  repeat' first | (refine SW.seq_k fun K hK => ?_) | ((first | refine SW.region ?_ | refine SW.ret ?_ | refine Call.of_pure (cf) ?_); try simp only [go_sem, hD]) | (apply hK; clear hK K)
  refine ret_pure ?_; simp only [resL_tmp, resL_nil, tupOf, go_sem, hD]
  rw [Bool.not_not]
theorem valid_tp (t : Tb) : PCall Tryz.prog 127 [TB t] (I64 (validS t)) := by
  obtain ⟨nm, al, l⟩ := t
  have hn := isName_p nm
  obtain ⟨R, hR⟩ : ∃ R, R = validS ⟨nm, al, l⟩ := ⟨_, rfl⟩
  rw [← hR]
  unfold validS at hR
  simp only at hR ⊢
  cases q1 : nameB nm.data.toList with
  | false =>
    rw [q1] at hR hn
    rw [if_neg (by simp)] at hR
    subst hR
    refine Call.enter' (N := 70) (rs := [.tmp 2]) Tryz.func127 rfl rfl rfl (by decide) rfl ?_; simp only [argT]; have hD : (0 : Nat) = 0 := rfl
    repeat' first | (refine SW.seq_k fun K hK => ?_) | ((first | refine SW.region ?_ | refine SW.cond ?_ | refine SW.ret ?_ | refine Call.of_pure (hn) ?_ | (refine allF_i fun b hb => ?_; replace hD := And.intro hb hD; clear hb; try simp only [fresh_cons, fresh_nil, and_true, ne_eq, neF] at hD)); try simp only [go_sem, hD]) | (apply hK; clear hK K)
    refine ret_pure ?_; simp only [resL_tmp, resL_nil, tupOf, go_sem, hD]
  | true =>
    rw [q1] at hR hn
    rw [if_pos rfl] at hR
    by_cases h16 : 16 < al.length
    · rw [if_pos (.inl h16)] at hR
      subst hR
      have h16i : (16 : Int) < ((al.length : Nat) : Int) := by omega
      refine Call.enter' (N := 70) (rs := [.tmp 2]) Tryz.func127 rfl rfl rfl (by decide) rfl ?_; simp only [argT]; have hD : (0 : Nat) = 0 := rfl
      repeat' first | (refine SW.seq_k fun K hK => ?_) | ((first | refine SW.region ?_ | refine SW.cond ?_ | refine SW.skip ?_ | refine SW.ret ?_ | refine Call.of_pure (hn) ?_ | (refine allF_i fun b hb => ?_; replace hD := And.intro hb hD; clear hb; try simp only [fresh_cons, fresh_nil, and_true, ne_eq, neF] at hD)); try simp only [go_sem, hD, h16i]) | (apply hK; clear hK K)
      refine ret_pure ?_; simp only [resL_tmp, resL_nil, tupOf, go_sem, hD]
    · have h16i : ¬ (16 : Int) < ((al.length : Nat) : Int) := by omega
      by_cases h1k : 1000 < l.length
      · rw [if_pos (.inr h1k)] at hR
        subst hR
        have h1ki : (1000 : Int) < ((l.length : Nat) : Int) := by omega
        refine Call.enter' (N := 70) (rs := [.tmp 2]) Tryz.func127 rfl rfl rfl (by decide) rfl ?_; simp only [argT]; have hD : (0 : Nat) = 0 := rfl
        repeat' first | (refine SW.seq_k fun K hK => ?_) | ((first | refine SW.region ?_ | refine SW.cond ?_ | refine SW.skip ?_ | refine SW.ret ?_ | refine Call.of_pure (hn) ?_ | (refine allF_i fun b hb => ?_; replace hD := And.intro hb hD; clear hb; try simp only [fresh_cons, fresh_nil, and_true, ne_eq, neF] at hD)); try simp only [go_sem, hD, h16i, h1ki]) | (apply hK; clear hK K)
        refine ret_pure ?_; simp only [resL_tmp, resL_nil, tupOf, go_sem, hD]
      · rw [if_neg (by omega)] at hR
        have h1ki : ¬ (1000 : Int) < ((l.length : Nat) : Int) := by omega
        refine Call.enter' (N := 70) (rs := [.tmp 2]) Tryz.func127 rfl rfl rfl (by decide) rfl ?_; simp only [argT]; have hD : (0 : Nat) = 0 := rfl
        repeat' first | (refine SW.seq_k fun K hK => ?_) | (refine SW.block ?_) | ((first | refine SW.region ?_ | refine SW.cond ?_ | refine SW.skip ?_ | refine Call.of_pure (hn) ?_ | (refine allF_i fun b hb => ?_; replace hD := And.intro hb hD; clear hb; try simp only [fresh_cons, fresh_nil, and_true, ne_eq, neF] at hD)); try simp only [go_sem, hD, h16i, h1ki]) | (apply hK; clear hK K)
        obtain ⟨I, hI⟩ : ∃ I : Nat → St → Prop, ∀ k S, I k S ↔ (∃ (i : Nat) , k = al.length - i ∧ i ≤ al.length ∧ R = (if namesF al (al.length - i) i = true then rowsV al.length 0 l else 1) ∧ S = ⟨[(1, .op b 0), (23, SL al), (24, I64 al.length), (25, I64 i)], [(b, .svs [Str nm, SL al, RL l])]⟩) := ⟨fun k S => _, fun _ _ => Iff.rfl⟩
        refine SW.loop' I (al.length) ((hI _ _).2 ⟨0, rfl, Nat.zero_le _, hR, rfl⟩) (by repeat' (first | exact rfl | exact trivial | constructor)) ?_
        intro k S hIn
        obtain ⟨i, rfl, hi, hC, rfl⟩ := (hI _ _).1 hIn
        clear hIn
        have ie : ((i : Nat) : Int).toNat = i := Int.toNat_natCast _
        have i0 : (0 : Int) ≤ ((i : Nat) : Int) := by omega
        clear hR
        by_cases hlt : i < al.length
        · have hli : ((i : Nat) : Int) < (((al.length) : Nat) : Int) := by omega
          have w1 : IntKind.i64.wrap ((i : Int) + 1) = ((i + 1 : Nat) : Int) := by rw [i64_wrap (by omega) (by omega)]; omega
          have e : al.length - i = (al.length - (i + 1)) + 1 := by omega
          rw [e, namesF] at hC
          have iz : (((i : Nat) : Int) - 0).toNat = i := by omega
          have il : ((i : Nat) : Int) ≤ ((al.length : Nat) : Int) := by omega
          have fi : sF al i = [Str (al.getD i ⟨#[]⟩)] := rfl
          have nm' := isName_p (al.getD i ⟨#[]⟩)
          have ct := contains_c (al.getD i ⟨#[]⟩) (al.take i) i (by omega) (by rw [List.length_take]; omega) (sF al) (fun j hj => sF_take (l := al) hj)
          generalize posS (al.getD i ⟨#[]⟩) 0 (al.take i) = q at *
          cases q1 : nameB (al.getD i ⟨#[]⟩).data.toList with
          | false =>
            rw [q1] at nm' hC
            have hC2 : R = 1 := hC
            subst hC2
            repeat' first | (refine SW.seq_k fun K hK => ?_) | (refine SW.block ?_) | ((first | refine SW.region ?_ | refine SW.cond ?_ | refine SW.skip ?_ | refine SW.ret ?_ | refine Call.of_pure (nm') ?_); try simp only [go_sem, hD, hli, ie, i0, w1, fi, iz, il]) | (apply hK; clear hK K)
            refine ret_pure ?_; simp only [resL_tmp, resL_nil, tupOf, go_sem, hD]
          | true =>
            rw [q1] at nm' hC
            rw [Bool.true_and] at hC
            by_cases hq : 0 ≤ q
            · rw [decide_eq_true hq] at hC ct
              have hC2 : R = 1 := hC
              subst hC2
              repeat' first | (refine SW.seq_k fun K hK => ?_) | (refine SW.block ?_) | ((first | refine SW.region ?_ | refine SW.cond ?_ | refine SW.skip ?_ | refine SW.ret ?_ | refine Call.of_pure (nm') ?_ | refine Call.of_pure (ct) ?_); try simp only [go_sem, hD, hli, ie, i0, w1, fi, iz, il]) | (apply hK; clear hK K)
              refine ret_pure ?_; simp only [resL_tmp, resL_nil, tupOf, go_sem, hD]
            · rw [decide_eq_false hq] at ct
              rw [decide_eq_false hq, Bool.not_false, Bool.true_and] at hC
              repeat' first | (refine SW.seq_k fun K hK => ?_) | (refine SW.block ?_) | ((first | refine SW.region ?_ | refine SW.cond ?_ | refine SW.skip ?_ | refine Call.of_pure (nm') ?_ | refine Call.of_pure (ct) ?_); try simp only [go_sem, hD, hli, ie, i0, w1, fi, iz, il]) | (apply hK; clear hK K)
              refine Rnd.sub (al.length - (i + 1)) (by omega) ((hI _ _).2 ⟨i + 1, rfl, by omega, hC, rfl⟩) (by repeat' (first | exact rfl | exact trivial | constructor))
        · have hli : ¬ ((i : Nat) : Int) < (((al.length) : Nat) : Int) := by omega
          have e : al.length - i = 0 := by omega
          rw [e] at hC
          have hC2 : R = rowsV al.length 0 l := hC
          clear hC
          repeat' first | (refine SW.seq_k fun K hK => ?_) | (refine SW.block ?_) | ((first | refine SW.region ?_ | refine SW.cond ?_ | refine SW.exit ?_); try simp only [go_sem, hD, hli]) | (apply hK; clear hK K) | (clear hK K; apply hK; clear hK K)
          obtain ⟨I, hI⟩ : ∃ I : Nat → St → Prop, ∀ k S, I k S ↔ (∃ (j : Nat) (p : Int), k = l.length - j ∧ j ≤ l.length ∧ R = rowsV al.length p (l.drop j) ∧ S = ⟨[(1, .op b 0), (5, I64 p), (43, RL l), (44, I64 l.length), (45, I64 j)], [(b, .svs [Str nm, SL al, RL l])]⟩) := ⟨fun k S => _, fun _ _ => Iff.rfl⟩
          refine SW.loop' I (l.length) ((hI _ _).2 ⟨0, 0, rfl, Nat.zero_le _, hC2, rfl⟩) (by repeat' (first | exact rfl | exact trivial | constructor)) ?_
          intro k S hIn
          obtain ⟨j, p, rfl, hi, hC, rfl⟩ := (hI _ _).1 hIn
          clear hIn
          have ie : ((j : Nat) : Int).toNat = j := Int.toNat_natCast _
          have i0 : (0 : Int) ≤ ((j : Nat) : Int) := by omega
          clear hC2
          by_cases hlt : j < l.length
          · have hli : ((j : Nat) : Int) < (((l.length) : Nat) : Int) := by omega
            have w1 : IntKind.i64.wrap ((j : Int) + 1) = ((j + 1 : Nat) : Int) := by rw [i64_wrap (by omega) (by omega)]; omega
            rw [rowsV_step hlt] at hC
            obtain ⟨id, vs, hr⟩ : ∃ id vs, l.getD j r0 = (id, vs) := ⟨_, _, rfl⟩
            have tf : rF l j = [I64 id, VL vs] := by unfold rF; rw [hr]; rfl
            rw [hr] at hC
            simp only at hC
            by_cases c1 : id ≤ p
            · rw [if_pos c1] at hC
              subst hC
              repeat' first | (refine SW.seq_k fun K hK => ?_) | (refine SW.block ?_) | ((first | refine SW.region ?_ | refine SW.cond ?_ | refine SW.skip ?_ | refine SW.ret ?_ | (refine allF_i fun b hb => ?_; replace hD := And.intro hb hD; clear hb; try simp only [fresh_cons, fresh_nil, and_true, ne_eq, neF] at hD)); try simp only [go_sem, hD, hli, ie, i0, w1, tf, c1]) | (apply hK; clear hK K)
              refine ret_pure ?_; simp only [resL_tmp, resL_nil, tupOf, go_sem, hD]
            · rw [if_neg c1] at hC
              by_cases c2 : vs.length = al.length
              · rw [if_neg (fun x => x c2)] at hC
                have c2i : ((vs.length : Nat) : Int) = ((al.length : Nat) : Int) := by rw [c2]
                have vv := validValues_p vs (by omega)
                cases c3 : vs.all okV with
                | true =>
                  rw [c3] at vv
                  rw [c3, if_pos rfl] at hC
                  repeat' first | (refine SW.seq_k fun K hK => ?_) | (refine SW.block ?_) | ((first | refine SW.region ?_ | refine SW.cond ?_ | refine SW.skip ?_ | refine Call.of_pure (vv) ?_ | (refine allF_i fun b hb => ?_; replace hD := And.intro hb hD; clear hb; try simp only [fresh_cons, fresh_nil, and_true, ne_eq, neF] at hD)); try simp only [go_sem, hD, hli, ie, i0, w1, tf, c1, c2i]) | (apply hK; clear hK K)
                  refine Rnd.le (St.le_only ?_) (Rnd.sub (l.length - (j + 1)) (by omega) ((hI _ _).2 ⟨j + 1, _, rfl, by omega, hC, rfl⟩) (by repeat' (first | exact rfl | exact trivial | constructor)))
                  repeat (first | exact List.mem_cons_self | apply List.mem_cons_of_mem)
                | false =>
                  rw [c3] at vv
                  rw [c3, if_neg (by simp)] at hC
                  subst hC
                  repeat' first | (refine SW.seq_k fun K hK => ?_) | (refine SW.block ?_) | ((first | refine SW.region ?_ | refine SW.cond ?_ | refine SW.skip ?_ | refine SW.ret ?_ | refine Call.of_pure (vv) ?_ | (refine allF_i fun b hb => ?_; replace hD := And.intro hb hD; clear hb; try simp only [fresh_cons, fresh_nil, and_true, ne_eq, neF] at hD)); try simp only [go_sem, hD, hli, ie, i0, w1, tf, c1, c2i]) | (apply hK; clear hK K)
                  refine ret_pure ?_; simp only [resL_tmp, resL_nil, tupOf, go_sem, hD]
              · rw [if_pos c2] at hC
                subst hC
                have c2i : ¬ ((vs.length : Nat) : Int) = ((al.length : Nat) : Int) := by omega
                repeat' first | (refine SW.seq_k fun K hK => ?_) | (refine SW.block ?_) | ((first | refine SW.region ?_ | refine SW.cond ?_ | refine SW.skip ?_ | refine SW.ret ?_ | (refine allF_i fun b hb => ?_; replace hD := And.intro hb hD; clear hb; try simp only [fresh_cons, fresh_nil, and_true, ne_eq, neF] at hD)); try simp only [go_sem, hD, hli, ie, i0, w1, tf, c1, c2i]) | (apply hK; clear hK K)
                refine ret_pure ?_; simp only [resL_tmp, resL_nil, tupOf, go_sem, hD]
          · have hli : ¬ ((j : Nat) : Int) < (((l.length) : Nat) : Int) := by omega
            rw [List.drop_of_length_le (by omega)] at hC
            have hC2 : R = 0 := hC
            subst hC2
            repeat' first | (refine SW.seq_k fun K hK => ?_) | ((first | refine SW.region ?_ | refine SW.cond ?_ | refine SW.exit ?_ | refine SW.ret ?_); try simp only [go_sem, hD, hli]) | (apply hK; clear hK K) | (clear hK K; apply hK; clear hK K)
            refine ret_pure ?_; simp only [resL_tmp, resL_nil, tupOf, go_sem, hD]
theorem valid_tr (t : Tb) (hv : ∀ r ∈ t.rows, r.2.length ≤ 9223372036854775807) : PCall Tryz.prog 78 [TB t] (I64 (validS t)) := by
  obtain ⟨nm, al, l⟩ := t
  have hn := name_r nm
  obtain ⟨R, hR⟩ : ∃ R, R = validS ⟨nm, al, l⟩ := ⟨_, rfl⟩
  rw [← hR]
  unfold validS at hR
  simp only at hR ⊢
  cases q1 : nameB nm.data.toList with
  | false =>
    rw [q1] at hR hn
    rw [if_neg (by simp)] at hR
    subst hR
    refine Call.enter' (N := 53) (rs := [.tmp 2]) Tryz.func78 rfl rfl rfl (by decide) rfl ?_; simp only [argT]; have hD : (0 : Nat) = 0 := rfl
    repeat' first | (refine SW.seq_k fun K hK => ?_) | ((first | refine SW.region ?_ | refine SW.cond ?_ | refine SW.ret ?_ | refine Call.of_pure (hn) ?_ | (refine allF_i fun b hb => ?_; replace hD := And.intro hb hD; clear hb; try simp only [fresh_cons, fresh_nil, and_true, ne_eq, neF] at hD)); try simp only [go_sem, hD]) | (apply hK; clear hK K)
    refine ret_pure ?_; simp only [resL_tmp, resL_nil, tupOf, go_sem, hD]
  | true =>
    rw [q1] at hR hn
    rw [if_pos rfl] at hR
    by_cases h16 : 16 < al.length
    · rw [if_pos (.inl h16)] at hR
      subst hR
      have h16i : (16 : Int) < ((al.length : Nat) : Int) := by omega
      refine Call.enter' (N := 53) (rs := [.tmp 2]) Tryz.func78 rfl rfl rfl (by decide) rfl ?_; simp only [argT]; have hD : (0 : Nat) = 0 := rfl
      repeat' first | (refine SW.seq_k fun K hK => ?_) | ((first | refine SW.region ?_ | refine SW.cond ?_ | refine SW.skip ?_ | refine SW.ret ?_ | refine Call.of_pure (hn) ?_ | (refine allF_i fun b hb => ?_; replace hD := And.intro hb hD; clear hb; try simp only [fresh_cons, fresh_nil, and_true, ne_eq, neF] at hD)); try simp only [go_sem, hD, h16i]) | (apply hK; clear hK K)
      refine ret_pure ?_; simp only [resL_tmp, resL_nil, tupOf, go_sem, hD]
    · have h16i : ¬ (16 : Int) < ((al.length : Nat) : Int) := by omega
      by_cases h1k : 1000 < l.length
      · rw [if_pos (.inr h1k)] at hR
        subst hR
        have h1ki : (1000 : Int) < ((l.length : Nat) : Int) := by omega
        refine Call.enter' (N := 53) (rs := [.tmp 2]) Tryz.func78 rfl rfl rfl (by decide) rfl ?_; simp only [argT]; have hD : (0 : Nat) = 0 := rfl
        repeat' first | (refine SW.seq_k fun K hK => ?_) | ((first | refine SW.region ?_ | refine SW.cond ?_ | refine SW.skip ?_ | refine SW.ret ?_ | refine Call.of_pure (hn) ?_ | (refine allF_i fun b hb => ?_; replace hD := And.intro hb hD; clear hb; try simp only [fresh_cons, fresh_nil, and_true, ne_eq, neF] at hD)); try simp only [go_sem, hD, h16i, h1ki]) | (apply hK; clear hK K)
        refine ret_pure ?_; simp only [resL_tmp, resL_nil, tupOf, go_sem, hD]
      · rw [if_neg (by omega)] at hR
        have h1ki : ¬ (1000 : Int) < ((l.length : Nat) : Int) := by omega
        have nr := names_r al (by omega)
        cases q2 : namesB al with
        | false =>
          rw [q2] at nr
          rw [q2, if_neg (by simp)] at hR
          subst hR
          refine Call.enter' (N := 53) (rs := [.tmp 2]) Tryz.func78 rfl rfl rfl (by decide) rfl ?_; simp only [argT]; have hD : (0 : Nat) = 0 := rfl
          repeat' first | (refine SW.seq_k fun K hK => ?_) | ((first | refine SW.region ?_ | refine SW.cond ?_ | refine SW.skip ?_ | refine SW.ret ?_ | refine Call.of_pure (hn) ?_ | refine Call.of_pure (nr) ?_ | (refine allF_i fun b hb => ?_; replace hD := And.intro hb hD; clear hb; try simp only [fresh_cons, fresh_nil, and_true, ne_eq, neF] at hD)); try simp only [go_sem, hD, h16i, h1ki]) | (apply hK; clear hK K)
          refine ret_pure ?_; simp only [resL_tmp, resL_nil, tupOf, go_sem, hD]
        | true =>
          rw [q2] at nr
          rw [q2, if_pos rfl] at hR
          refine Call.enter' (N := 53) (rs := [.tmp 2]) Tryz.func78 rfl rfl rfl (by decide) rfl ?_; simp only [argT]; have hD : (0 : Nat) = 0 := rfl
          repeat' first | (refine SW.seq_k fun K hK => ?_) | (refine SW.block ?_) | ((first | refine SW.region ?_ | refine SW.cond ?_ | refine SW.skip ?_ | refine Call.of_pure (hn) ?_ | refine Call.of_pure (nr) ?_ | (refine allF_i fun b hb => ?_; replace hD := And.intro hb hD; clear hb; try simp only [fresh_cons, fresh_nil, and_true, ne_eq, neF] at hD)); try simp only [go_sem, hD, h16i, h1ki]) | (apply hK; clear hK K)
          obtain ⟨I, hI⟩ : ∃ I : Nat → St → Prop, ∀ k S, I k S ↔ (∃ (j : Nat) (p : Int), k = l.length - j ∧ j ≤ l.length ∧ R = rowsV al.length p (l.drop j) ∧ S = ⟨[(1, .op b 0), (3, I64 p), (4, I64 j)], [(b, .svs [Str nm, SL al, RL l])]⟩) := ⟨fun k S => _, fun _ _ => Iff.rfl⟩
          refine SW.loop' I (l.length) ((hI _ _).2 ⟨0, 0, rfl, Nat.zero_le _, hR, rfl⟩) (by repeat' (first | exact rfl | exact trivial | constructor)) ?_
          intro k S hIn
          obtain ⟨j, p, rfl, hi, hC, rfl⟩ := (hI _ _).1 hIn
          clear hIn
          have ie : ((j : Nat) : Int).toNat = j := Int.toNat_natCast _
          have i0 : (0 : Int) ≤ ((j : Nat) : Int) := by omega
          clear hR
          by_cases hlt : j < l.length
          · have hli : ((j : Nat) : Int) < (((l.length) : Nat) : Int) := by omega
            have w1 : IntKind.i64.wrap ((j : Int) + 1) = ((j + 1 : Nat) : Int) := by rw [i64_wrap (by omega) (by omega)]; omega
            rw [rowsV_step hlt] at hC
            have hvj := hv _ (getD_mem r0 hlt)
            obtain ⟨id, vs, hr⟩ : ∃ id vs, l.getD j r0 = (id, vs) := ⟨_, _, rfl⟩
            have tf : rF l j = [I64 id, VL vs] := by unfold rF; rw [hr]; rfl
            rw [hr] at hC hvj
            simp only at hC hvj
            by_cases c1 : id ≤ p
            · rw [if_pos c1] at hC
              subst hC
              repeat' first | (refine SW.seq_k fun K hK => ?_) | (refine SW.block ?_) | ((first | refine SW.region ?_ | refine SW.cond ?_ | refine SW.skip ?_ | refine SW.ret ?_ | (refine allF_i fun b hb => ?_; replace hD := And.intro hb hD; clear hb; try simp only [fresh_cons, fresh_nil, and_true, ne_eq, neF] at hD)); try simp only [go_sem, hD, hli, ie, i0, w1, tf, c1]) | (apply hK; clear hK K)
              refine ret_pure ?_; simp only [resL_tmp, resL_nil, tupOf, go_sem, hD]
            · rw [if_neg c1] at hC
              by_cases c2 : vs.length = al.length
              · rw [if_neg (fun x => x c2)] at hC
                have c2i : ((vs.length : Nat) : Int) = ((al.length : Nat) : Int) := by rw [c2]
                have vv := valids_r vs hvj
                cases c3 : vs.all okV with
                | true =>
                  rw [c3] at vv
                  rw [c3, if_pos rfl] at hC
                  repeat' first | (refine SW.seq_k fun K hK => ?_) | (refine SW.block ?_) | ((first | refine SW.region ?_ | refine SW.cond ?_ | refine SW.skip ?_ | refine Call.of_pure (vv) ?_ | (refine allF_i fun b hb => ?_; replace hD := And.intro hb hD; clear hb; try simp only [fresh_cons, fresh_nil, and_true, ne_eq, neF] at hD)); try simp only [go_sem, hD, hli, ie, i0, w1, tf, c1, c2i]) | (apply hK; clear hK K)
                  refine Rnd.le (St.le_only ?_) (Rnd.sub (l.length - (j + 1)) (by omega) ((hI _ _).2 ⟨j + 1, _, rfl, by omega, hC, rfl⟩) (by repeat' (first | exact rfl | exact trivial | constructor)))
                  repeat (first | exact List.mem_cons_self | apply List.mem_cons_of_mem)
                | false =>
                  rw [c3] at vv
                  rw [c3, if_neg (by simp)] at hC
                  subst hC
                  repeat' first | (refine SW.seq_k fun K hK => ?_) | (refine SW.block ?_) | ((first | refine SW.region ?_ | refine SW.cond ?_ | refine SW.skip ?_ | refine SW.ret ?_ | refine Call.of_pure (vv) ?_ | (refine allF_i fun b hb => ?_; replace hD := And.intro hb hD; clear hb; try simp only [fresh_cons, fresh_nil, and_true, ne_eq, neF] at hD)); try simp only [go_sem, hD, hli, ie, i0, w1, tf, c1, c2i]) | (apply hK; clear hK K)
                  refine ret_pure ?_; simp only [resL_tmp, resL_nil, tupOf, go_sem, hD]
              · rw [if_pos c2] at hC
                subst hC
                have c2i : ¬ ((vs.length : Nat) : Int) = ((al.length : Nat) : Int) := by omega
                repeat' first | (refine SW.seq_k fun K hK => ?_) | (refine SW.block ?_) | ((first | refine SW.region ?_ | refine SW.cond ?_ | refine SW.skip ?_ | refine SW.ret ?_ | (refine allF_i fun b hb => ?_; replace hD := And.intro hb hD; clear hb; try simp only [fresh_cons, fresh_nil, and_true, ne_eq, neF] at hD)); try simp only [go_sem, hD, hli, ie, i0, w1, tf, c1, c2i]) | (apply hK; clear hK K)
                refine ret_pure ?_; simp only [resL_tmp, resL_nil, tupOf, go_sem, hD]
          · have hli : ¬ ((j : Nat) : Int) < (((l.length) : Nat) : Int) := by omega
            rw [List.drop_of_length_le (by omega)] at hC
            have hC2 : R = 0 := hC
            subst hC2
            repeat' first | (refine SW.seq_k fun K hK => ?_) | ((first | refine SW.region ?_ | refine SW.cond ?_ | refine SW.exit ?_ | refine SW.ret ?_); try simp only [go_sem, hD, hli]) | (apply hK; clear hK K) | (clear hK K; apply hK; clear hK K)
            refine ret_pure ?_; simp only [resL_tmp, resL_nil, tupOf, go_sem, hD]
end Go.Proofs.YtpidncgibgiidaaGreat
namespace Go.Ab.A34
open Go Go.Ab Go.Proofs
def fC {α : Type} (enc : α → List SV) (l : List α) : List SV := l.flatMap enc
theorem fC_snoc {α : Type} {enc : α → List SV} (l : List α) (x : α) : fC enc l ++ enc x = fC enc (l ++ [x]) := by unfold fC; rw [List.flatMap_append]; simp
theorem fC_len {α : Type} {enc : α → List SV} {k : Nat} (hk : ∀ x, (enc x).length = k) (l : List α) : l.length * k = (fC enc l).length := by
  unfold fC
  induction l with
  | nil => simp
  | cons a r ih => rw [List.flatMap_cons, List.length_append, ← ih, hk, List.length_cons, Nat.add_mul, Nat.one_mul, Nat.add_comm]
theorem fC_at {α : Type} {enc : α → List SV} {k : Nat} (hk : ∀ x, (enc x).length = k) (d : α) : ∀ (l : List α) (j : Nat), j < l.length → enc (l.getD j d) = ((fC enc l).drop (j * k)).take k
  | [], j, h => absurd h (by simp)
  | a :: l, 0, _ => by
    unfold fC
    rw [Nat.zero_mul, List.drop_zero, List.flatMap_cons, List.take_append_of_le_length (by rw [hk]; exact Nat.le_refl _), List.take_of_length_le (by rw [hk]; exact Nat.le_refl _)]
    rfl
  | a :: l, j + 1, h => by
    have := fC_at hk d l j (by rw [List.length_cons] at h; omega)
    unfold fC at *
    rw [List.flatMap_cons, show (j + 1) * k = (enc a).length + j * k by rw [hk, Nat.add_mul, Nat.one_mul, Nat.add_comm], ← List.drop_drop, List.drop_left]
    exact this
def vCs (l : List V3) : List SV := l.flatMap fun v => (encV v).map SV.sc
theorem vCs_snoc (l : List V3) (v : V3) : vCs l ++ vC v = vCs (l ++ [v]) := by
  unfold vCs
  rw [List.flatMap_append]
  rfl
theorem vCs_len (l : List V3) : l.length * 3 = (vCs l).length := fC_len (enc := fun v => (encV v).map SV.sc) (k := 3) (fun _ => rfl) l
theorem vCs_at : ∀ (l : List V3) (j : Nat), j < l.length → vF l j = ((vCs l).drop (j * 3)).take 3
  | [], j, h => absurd h (by simp)
  | a :: l, 0, _ => rfl
  | a :: l, j + 1, h => by
    have := vCs_at l j (by rw [List.length_cons] at h; omega)
    have e : (vCs (a :: l)).drop ((j + 1) * 3) = (vCs l).drop (j * 3) := by
      rw [show (j + 1) * 3 = j * 3 + 3 by omega, Nat.add_comm (j * 3) 3, ← List.drop_drop]
      rfl
    rw [e, ← this]
    rfl
theorem rowsV_ok {n : Nat} : ∀ {l : List R3} {p : Int}, rowsV n p l = 0 → ∀ r ∈ l, r.2.length = n ∧ r.2.all okV = true
  | [], p, _, r, hr => by cases hr
  | x :: l, p, h, r, hr => by
    unfold rowsV at h
    split at h
    · cases h
    · split at h
      · cases h
      · rename_i h2
        split at h
        · rename_i h3
          rcases List.mem_cons.1 hr with rfl | hr
          · exact ⟨by omega, h3⟩
          · exact rowsV_ok h r hr
        · cases h
theorem okV_size {v : V3} (h : okV v = true) : v.2.2.size ≤ 200 := by
  unfold okV vok at h
  have he : ∀ s : ByteArray, emp s = true → s.size ≤ 200 := fun s hs => by
    unfold emp at hs
    rw [barr_eq.1 hs]
    exact Nat.zero_le _
  repeat' split at h
  all_goals first | (cases h; done) | skip
  all_goals (try simp only [Bool.and_eq_true, decide_eq_true_eq] at h)
  · exact he _ h.2
  · exact he _ h
  · exact h.2
  · exact he _ h.2
theorem valid_rows {t : Tb} (h : validS t = 0) : t.rows.length ≤ 1000 ∧ t.attrs.length ≤ 16 ∧ ∀ r ∈ t.rows, r.2.length = t.attrs.length ∧ ∀ v ∈ r.2, okV v = true := by
  unfold validS at h
  split at h
  · split at h
    · cases h
    · split at h
      · exact ⟨by omega, by omega, fun r hr => ⟨(rowsV_ok h r hr).1, fun v hv => List.all_eq_true.1 (rowsV_ok h r hr).2 v hv⟩⟩
      · cases h
  · cases h
end Go.Ab.A34
namespace Go.Ab
open Go Go.Ab.A01
theorem xor_low {a : Nat} (h : a < 9223372036854775808) : a ^^^ 9223372036854775808 = a + 9223372036854775808 := by
  have p : (9223372036854775808 : Nat) = 2 ^ 63 := by decide
  rw [p] at h ⊢
  refine Nat.eq_of_testBit_eq fun i => ?_
  rw [Nat.testBit_xor, Nat.testBit_two_pow, Nat.add_comm]
  by_cases h1 : i = 63
  · subst h1
    rw [Nat.testBit_two_pow_add_eq]
    simp
  · rw [decide_eq_false (by omega), Bool.xor_false]
    rcases Nat.lt_or_gt_of_ne h1 with h2 | h2
    · rw [Nat.testBit_two_pow_add_gt h2]
    · have e1 : a.testBit i = false := Nat.testBit_lt_two_pow (Nat.lt_of_lt_of_le h (Nat.pow_le_pow_right (by decide) (by omega)))
      have e3 : 2 ^ 63 + a < 2 ^ 64 := by
        have : (2 : Nat) ^ 64 = 2 ^ 63 + 2 ^ 63 := by decide
        omega
      have e2 : (2 ^ 63 + a).testBit i = false := Nat.testBit_lt_two_pow (Nat.lt_of_lt_of_le e3 (Nat.pow_le_pow_right (by decide) (by omega)))
      rw [e1, e2]
theorem xor_high {a : Nat} (h : 9223372036854775808 ≤ a) (h2 : a < 18446744073709551616) : a ^^^ 9223372036854775808 = a - 9223372036854775808 := by
  have e := xor_low (a := a - 9223372036854775808) (by omega)
  have e2 : a - 9223372036854775808 + 9223372036854775808 = a := by omega
  rw [e2] at e
  conv => lhs; rw [← e]
  rw [Nat.xor_assoc, Nat.xor_self, Nat.xor_zero]
def unum (n : Int) : Nat := (n + 9223372036854775808).toNat
end Go.Ab
namespace Go.Ab
open Go Go.Ab.A01
theorem beL_get : ∀ (m u j : Nat), j < m → (beL m u).getD j 0 = UInt8.ofNat (u / 256 ^ (m - 1 - j) % 256)
  | 0, u, j, h => absurd h (by omega)
  | m + 1, u, 0, h => by rw [beL, List.getD_cons_zero]; rfl
  | m + 1, u, j + 1, h => by
    rw [beL, List.getD_cons_succ, beL_get m _ j (by omega)]
    congr 1
    have e : m + 1 - 1 - (j + 1) = m - 1 - j := by omega
    have e2 : (256 : Nat) ^ m = 256 ^ (m - 1 - j) * 256 ^ (j + 1) := by rw [← Nat.pow_add]; congr 1; omega
    rw [e, e2, Nat.mod_mul_right_div_self, Nat.mod_mod_of_dvd _ (Nat.dvd_of_pow_dvd (Nat.succ_pos j) (Nat.dvd_refl _))]
theorem num8_get (n : Int) {j : Nat} (h : j < 8) : (num8 n).getD j 0 = UInt8.ofNat (unum n / 2 ^ (56 - 8 * j) % 256) := by
  unfold num8
  rw [beL_get 8 _ j h]
  have e : (256 : Nat) ^ (8 - 1 - j) = 2 ^ (56 - 8 * j) := by
    rw [show (256 : Nat) = 2 ^ 8 by decide, ← Nat.pow_mul]
    congr 1
    omega
  rw [e]
  rfl
end Go.Ab
namespace Go.Proofs.YtpidncgibgiidaaGreat
open Go Go.Ab Go.Ab.A01
variable [Gl] [Tabs]
theorem unum_xor (n : Int) (hn : In64 n) : bits BinOp.xor IntKind.u64 (IntKind.u64.wrap n) 9223372036854775808 = (unum n : Int) := by
  unfold In64 at hn
  unfold unum
  rw [u64w]
  rcases Int.lt_or_le n 0 with h | h
  · have e : n % 18446744073709551616 = (((n + 18446744073709551616).toNat : Nat) : Int) := by omega
    have b := bits_xor_u64_nat (n + 18446744073709551616).toNat 9223372036854775808 (by omega) (by decide)
    rw [xor_high (by omega) (by omega), show ((9223372036854775808 : Nat) : Int) = 9223372036854775808 from rfl] at b
    rw [e, b]
    omega
  · have e : n % 18446744073709551616 = ((n.toNat : Nat) : Int) := by omega
    have b := bits_xor_u64_nat n.toNat 9223372036854775808 (by omega) (by decide)
    rw [xor_low (by omega), show ((9223372036854775808 : Nat) : Int) = 9223372036854775808 from rfl] at b
    rw [e, b]
    omega
theorem number_c (n : Int) (hn : In64 n) (l : List UInt8) (hl : l.length ≤ 1000) (x : SV) (h : Heap) (hA : Acc 1 x h [] l.length (byts l)) :
    Ab.Call Tryz.prog 181 [x, I64 n] h (fun r h' => Acc 1 r h' [] (l ++ num8 n).length (byts (l ++ num8 n))) := by
  have ux := unum_xor n hn
  have n8 := num8_len n
  have un : unum n < 18446744073709551616 := by unfold unum; unfold In64 at hn; omega
  refine Call.enter' (N := 22) (rs := [.tmp 4]) Tryz.func181 rfl rfl rfl (by decide) rfl ?_; simp only [argT]; have hD : (0 : Nat) = 0 := rfl
  repeat' first | (refine SW.seq_k fun K hK => ?_) | (refine SW.region ?_; try simp only [go_sem, hD, ux]) | (apply hK; clear hK K)
  refine SW.block ?_
  obtain ⟨I, hI⟩ : ∃ I : Nat → St → Prop, ∀ k S, I k S ↔ (∃ (j : Nat) (y : SV) (h' : Heap), k = 8 - j ∧ j ≤ 8 ∧ Acc 1 y h' [] (l ++ (num8 n).take j).length (byts (l ++ (num8 n).take j)) ∧ S = ⟨[(0, y), (5, U64 (unum n)), (6, I64 (56 - 8 * (j : Int)))], h'⟩) := ⟨fun k S => _, fun _ _ => Iff.rfl⟩
  refine SW.loop' I 8 ((hI _ _).2 ⟨0, x, h, rfl, Nat.zero_le _, by rw [List.take_zero, List.append_nil]; exact hA, rfl⟩) (by repeat' (first | exact rfl | exact trivial | constructor)) ?_
  intro k S hIn
  obtain ⟨j, y, h', rfl, hj, hB, rfl⟩ := (hI _ _).1 hIn
  clear hIn hA
  rcases Nat.lt_or_ge j 8 with h8 | h8
  · have h1i : (0 : Int) ≤ 56 - 8 * (j : Int) := by omega
    have w1 : IntKind.i64.wrap (56 - 8 * (j : Int) - 8) = 56 - 8 * ((j + 1 : Nat) : Int) := by rw [i64_wrap (by omega) (by omega)]; omega
    obtain ⟨c, hc⟩ : ∃ c, c = (num8 n).getD j 0 := ⟨_, rfl⟩
    have sl : (num8 n).take (j + 1) = (num8 n).take j ++ [c] := by
      have : j < (num8 n).length := by omega
      rw [List.take_add_one, hc]
      simp [List.getD_eq_getElem?_getD, this]
    have e1 : (56 - 8 * (j : Int)).toNat = 56 - 8 * j := by omega
    have e2 : min (56 - 8 * j) 64 = 56 - 8 * j := by omega
    have e3 : (unum n : Int).fdiv (2 ^ (56 - 8 * j)) = ((unum n / 2 ^ (56 - 8 * j) : Nat) : Int) := by
      rw [Int.fdiv_eq_ediv_of_nonneg _ (by exact_mod_cast Nat.zero_le _)]
      exact_mod_cast rfl
    have e4 : IntKind.u8.wrap ((unum n / 2 ^ (56 - 8 * j) : Nat) : Int) = (c.toNat : Int) := by
      rw [hc, num8_get n h8, UInt8.toNat_ofNat', IntKind.wrap_u8']
      omega
    have ll : ((num8 n).take j).length = j := by rw [List.length_take]; omega
    have la : (l ++ (num8 n).take j).length = l.length + j := by rw [List.length_append, ll]
    repeat' first | ((with_reducible refine appK_byts (l2 := [c]) hB ?_ ?_ ?_ ?_ ?_ ?_ ?_ ?_ ?_); (iterate 8 (first | rfl | exact hD | exact hD.1 | exact hD.2.1 | exact hD.2.2.1 | exact Nat.succ_pos _ | (simp only [List.length_cons, List.length_nil]; omega))); intro b' blk' h' h'' n3 hn3 hfind hcells hcv hB' hle; clear hB; have hB := hB'; clear hB'; (try simp only [go_sem, hD] at hcv); simp only [go_sem, hD, hfind, hcv]; ((first | apply hK | (clear hK K; apply hK) | (clear hK K; clear hK K; apply hK)); clear hK K); refine Ab.SW.le (hle _) ?_; clear hle hfind hcv hcells) | (refine SW.seq_k fun K hK => ?_) | (refine SW.block ?_) | ((first | refine SW.region ?_ | refine SW.cond ?_ | refine SW.skip ?_ | (refine allF_i fun b hb => ?_; replace hD := And.intro hb hD; clear hb; try simp only [fresh_cons, fresh_nil, and_true, ne_eq, neF] at hD)); try simp only [go_sem, hD, h1i, w1, e1, e2, e3, e4]) | (apply hK; clear hK K)
    rw [List.append_assoc, ← sl] at hB
    refine Rnd.sub (8 - (j + 1)) (by omega) ((hI _ _).2 ⟨j + 1, _, _, rfl, by omega, hB, rfl⟩) (by repeat' (first | exact rfl | exact trivial | constructor))
  · obtain rfl : j = 8 := by omega
    rw [List.take_of_length_le (by omega)] at hB
    have h1i : ¬ (0 : Int) ≤ 56 - 8 * ((8 : Nat) : Int) := by omega
    repeat' first | (refine SW.seq_k fun K hK => ?_) | ((first | refine SW.region ?_ | refine SW.cond ?_ | refine SW.exit ?_ | refine SW.ret ?_); try simp only [go_sem, hD, h1i]) | (apply hK; clear hK K) | (clear hK K; apply hK; clear hK K)
    refine retQ_ret ?_
    simp only [resL_tmp, resL_nil, tupOf, go_sem, hD]
    rw [List.length_append] at hB
    exact hB
theorem number_k (n : Int) (hn : In64 n) (l : List UInt8) (hl : l.length ≤ 1000) (x : SV) (h : Heap) (hA : Acc 1 x h [] l.length (byts l)) :
    Ab.Call Tryz.prog 181 [x, I64 n] h (fun r h' => ∃ b blk m, r = .os b 0 m 1 ∧ h' = [(b, blk)] ∧ cvtK blk 0 m = .ok True (Str (mkB (l ++ num8 n)))) :=
  Call.mono (number_c n hn l hl x h hA) fun r h' hB => by
    have hne : l ++ num8 n ≠ [] := fun e => by
      have := num8_len n
      rw [(List.append_eq_nil_iff.1 e).2] at this
      cases this
    rcases hB.byts_cases with ⟨e, _, _⟩ | ⟨b, _, e1, blk, hc, e2⟩
    · exact absurd e hne
    · exact ⟨b, blk, _, e1, e2, cvtK_of hc hne rfl⟩
theorem key_num (k n : Int) (hn : In64 n) (hk : k = 1 ∨ k = 3) (hv : vok k n ⟨#[]⟩ = true) : PCall Tryz.prog 138 [VS k n ⟨#[]⟩] (.tup [Str (mkB (keyL k n ⟨#[]⟩)), I64 0]) := by
  have v := valid_p k n ⟨#[]⟩
  rw [hv] at v
  rcases hk with rfl | rfl
  · have u1 : IntKind.u8.wrap 1 = 1 := by decide
    have kl : keyL 1 n ⟨#[]⟩ = [1] ++ num8 n := by unfold keyL; rw [if_pos (.inl rfl)]; rfl
    rw [kl]
    refine Call.enter' (N := 51) (rs := [.tmp 2, .tmp 3]) Tryz.func138 rfl rfl rfl (by decide) rfl ?_; simp only [argT]; have hD : (0 : Nat) = 0 := rfl
    repeat' first | (refine SW.seq_k fun K hK => ?_) | (refine SW.block ?_) | ((first | refine SW.region ?_ | refine SW.cond ?_ | refine SW.skip ?_ | refine Call.of_pure (v) ?_ | (refine allF_i fun b hb => ?_; replace hD := And.intro hb hD; clear hb; try simp only [fresh_cons, fresh_nil, and_true, ne_eq, neF] at hD)); try simp only [go_sem, hD, u1]) | (apply hK; clear hK K)
    rename_i b0
    refine Call.mono (Call.frame (h1 := [(b, Blk.svs [SV.sc (Value.int IntKind.u8 1)])]) (h2 := [(b0, _)]) (number_k n hn [1] (by decide) _ _ (.inr ⟨b, _, trivial, rfl, rfl, rfl, rfl, rfl⟩))) ?_
    rintro r h' ⟨h1', rfl, b2, blk, m, rfl, rfl, hcv⟩
    simp only [go_sem, hD] at hcv
    simp only [go_sem, hD]
    repeat' first | (refine SW.seq_k fun K hK => ?_) | ((first | refine SW.region ?_ | refine SW.ret ?_); try simp only [go_sem, hD, hcv]) | (apply hK; clear hK K)
    refine ret_pure ?_; simp only [resL_tmp, resL_nil, tupOf, go_sem, hD]
  · have u1 : IntKind.u8.wrap 3 = 3 := by decide
    have kl : keyL 3 n ⟨#[]⟩ = [3] ++ num8 n := by unfold keyL; rw [if_pos (.inr rfl)]; rfl
    rw [kl]
    refine Call.enter' (N := 51) (rs := [.tmp 2, .tmp 3]) Tryz.func138 rfl rfl rfl (by decide) rfl ?_; simp only [argT]; have hD : (0 : Nat) = 0 := rfl
    repeat' first | (refine SW.seq_k fun K hK => ?_) | (refine SW.block ?_) | ((first | refine SW.region ?_ | refine SW.cond ?_ | refine SW.skip ?_ | refine Call.of_pure (v) ?_ | (refine allF_i fun b hb => ?_; replace hD := And.intro hb hD; clear hb; try simp only [fresh_cons, fresh_nil, and_true, ne_eq, neF] at hD)); try simp only [go_sem, hD, u1]) | (apply hK; clear hK K)
    rename_i b0
    refine Call.mono (Call.frame (h1 := [(b, Blk.svs [SV.sc (Value.int IntKind.u8 3)])]) (h2 := [(b0, _)]) (number_k n hn [3] (by decide) _ _ (.inr ⟨b, _, trivial, rfl, rfl, rfl, rfl, rfl⟩))) ?_
    rintro r h' ⟨h1', rfl, b2, blk, m, rfl, rfl, hcv⟩
    simp only [go_sem, hD] at hcv
    simp only [go_sem, hD]
    repeat' first | (refine SW.seq_k fun K hK => ?_) | ((first | refine SW.region ?_ | refine SW.ret ?_); try simp only [go_sem, hD, hcv]) | (apply hK; clear hK K)
    refine ret_pure ?_; simp only [resL_tmp, resL_nil, tupOf, go_sem, hD]
theorem key_null : PCall Tryz.prog 138 [VS 0 0 ⟨#[]⟩] (.tup [Str (mkB (keyL 0 0 ⟨#[]⟩)), I64 0]) := by
  have v := valid_p 0 0 ⟨#[]⟩
  have e : vok 0 0 ⟨#[]⟩ = true := by decide +kernel
  rw [e] at v
  have u1 : IntKind.u8.wrap 0 = 0 := by decide
  have tb : (List.take 1 [SV.sc (Value.int IntKind.u8 0)]).all isByte = true := rfl
  refine Call.enter' (N := 51) (rs := [.tmp 2, .tmp 3]) Tryz.func138 rfl rfl rfl (by decide) rfl ?_; simp only [argT]; have hD : (0 : Nat) = 0 := rfl
  have tb2 : isByte (SV.sc (Value.int IntKind.u8 0)) = true := rfl
  repeat' first | (refine SW.seq_k fun K hK => ?_) | (refine SW.block ?_) | ((first | refine SW.region ?_ | refine SW.cond ?_ | refine SW.skip ?_ | refine SW.ret ?_ | refine Call.of_pure (v) ?_ | (refine allF_i fun b hb => ?_; replace hD := And.intro hb hD; clear hb; try simp only [fresh_cons, fresh_nil, and_true, ne_eq, neF] at hD)); try simp only [go_sem, hD, u1, tb, tb2]) | (apply hK; clear hK K)
  refine ret_pure ?_; simp only [resL_tmp, resL_nil, tupOf, go_sem, hD]
  rfl
end Go.Proofs.YtpidncgibgiidaaGreat
namespace Go.Ab
open Go Go.Ab.A01
theorem escL_step {l : List UInt8} {j : Nat} (h : j < l.length) : escL (l.take (j + 1)) = escL (l.take j) ++ (if l.getD j 0 = 0 then [0, 255] else [l.getD j 0]) := by
  unfold escL
  rw [List.take_add_one, List.flatMap_append]
  simp [List.getD_eq_getElem?_getD, h]
theorem escL_le (l : List UInt8) : (escL l).length ≤ 2 * l.length := by
  induction l with
  | nil => exact Nat.le_refl _
  | cons c l ih =>
    rw [escL_cons, List.length_append, List.length_cons]
    split
    · simp only [List.length_cons, List.length_nil]; omega
    · simp only [List.length_cons, List.length_nil]; omega
end Go.Ab
namespace Go.Proofs.YtpidncgibgiidaaGreat
open Go Go.Ab Go.Ab.A01
variable [Gl] [Tabs]
theorem key_text (s : ByteArray) (hs : s.size ≤ 200) (hv : vok 2 0 s = true) : PCall Tryz.prog 138 [VS 2 0 s] (.tup [Str (mkB (keyL 2 0 s)), I64 0]) := by
  have ls : s.data.toList.length = s.size := Array.length_toList
  have v := valid_p 2 0 s
  rw [hv] at v
  have u1 : IntKind.u8.wrap 2 = 2 := by decide
  have kl : keyL 2 0 s = (2 :: escL s.data.toList) ++ [0, 1] := rfl
  rw [kl]
  refine Call.enter' (N := 51) (rs := [.tmp 2, .tmp 3]) Tryz.func138 rfl rfl rfl (by decide) rfl ?_; simp only [argT]; have hD : (0 : Nat) = 0 := rfl
  repeat' first | (refine SW.seq_k fun K hK => ?_) | (refine SW.block ?_) | ((first | refine SW.region ?_ | refine SW.cond ?_ | refine SW.skip ?_ | refine Call.of_pure (v) ?_ | (refine allF_i fun b hb => ?_; replace hD := And.intro hb hD; clear hb; try simp only [fresh_cons, fresh_nil, and_true, ne_eq, neF] at hD)); try simp only [go_sem, hD, u1]) | (apply hK; clear hK K)
  rename_i b1 K hK
  obtain ⟨I, hI⟩ : ∃ I : Nat → St → Prop, ∀ k S, I k S ↔ (∃ (j b m : Nat) (blk : Blk), k = s.size - j ∧ j ≤ s.size ∧ fresh [(b1, .svs [I64 2, I64 0, Str s])] b ∧ m = (2 :: escL (s.data.toList.take j)).length ∧ blk.cells = byts (2 :: escL (s.data.toList.take j)) ∧
    S = ⟨[(1, .op b1 0), (4, .os b 0 m 1), (26, I64 s.size), (27, I64 j)], [(b, blk), (b1, .svs [I64 2, I64 0, Str s])]⟩) := ⟨fun k S => _, fun _ _ => Iff.rfl⟩
  refine SW.loop' I s.size ((hI _ _).2 ⟨0, b, 1, _, rfl, Nat.zero_le _, by simp only [fresh_cons, fresh_nil, and_true, ne_eq, neF]; simp_all, rfl, rfl, rfl⟩) (by repeat' (first | exact rfl | exact trivial | constructor)) ?_
  clear hD
  intro k S hIn
  obtain ⟨j, b0, m, blk, rfl, hj, hfr, hm, hcells, rfl⟩ := (hI _ _).1 hIn
  clear hIn
  have hD := hfr
  simp only [fresh_cons, fresh_nil, and_true, ne_eq, neF] at hD
  have hbM : blk.isM = false := by
    cases blk with
    | mp m => exact absurd (List.map_eq_nil_iff.1 hcells.symm) (by simp)
    | _ => rfl
  have hB : Acc 1 (.os b0 0 m 1) [(b0, blk), (b1, .svs [I64 2, I64 0, Str s])] [(b1, .svs [I64 2, I64 0, Str s])] (2 :: escL (s.data.toList.take j)).length (byts (2 :: escL (s.data.toList.take j))) :=
    .inr ⟨b0, blk, hfr, hcells, by rw [Nat.mul_one, byts_length], by rw [hm], rfl, hbM⟩
  have le := escL_le (s.data.toList.take j)
  have l2 : (s.data.toList.take j).length ≤ s.size := by rw [List.length_take]; omega
  clear hcells
  have ie : ((j : Nat) : Int).toNat = j := Int.toNat_natCast _
  have i0 : (0 : Int) ≤ ((j : Nat) : Int) := by omega
  by_cases hlt : j < s.size
  · have h1i : ((j : Nat) : Int) < ((s.size : Nat) : Int) := by omega
    have w1 : IntKind.i64.wrap ((j : Int) + 1) = ((j + 1 : Nat) : Int) := by rw [i64_wrap (by omega) (by omega)]; omega
    have st := escL_step (l := s.data.toList) (j := j) (by omega)
    obtain ⟨c, hc⟩ : ∃ c, c = s.data.toList.getD j 0 := ⟨_, rfl⟩
    rw [← hc] at st
    replace hc := hc.symm
    by_cases h0 : c = 0
    · subst h0
      have z : (((0 : UInt8).toNat : Nat) : Int) = 0 := rfl
      repeat' first | ((with_reducible refine appK_byts2 (l2 := [0]) hB ?_ ?_ ?_ ?_ ?_ ?_ ?_ ?_ ?_); (iterate 8 (first | rfl | exact hD | exact hD.1 | exact hD.2.1 | exact hD.2.2.1 | (simp only [fresh_cons, fresh_nil, and_true, ne_eq, neF]; first | exact hD | exact hD.1 | exact hD.1.1 | exact hD.2) | exact Nat.succ_pos _ | (simp only [List.length_append, List.length_cons, List.length_nil]; omega))); intro b' blk' h' n3 hn3 hfr hfind hcells hcv hB' hle; clear hB; have hB := hB'; clear hB'; replace hD := And.intro hfr hD; clear hfr; (simp only [fresh_cons, fresh_nil, and_true, ne_eq, neF] at hD); (try simp only [go_sem, hD] at hcv); simp only [go_sem, hD, hfind, hcv]; ((first | apply hK | (clear hK K; apply hK) | (clear hK K; clear hK K; apply hK)); clear hK K); refine Ab.SW.le (hle _) ?_; clear hle hfind hcv) | ((with_reducible refine appK_byts2 (l2 := [255]) hB ?_ ?_ ?_ ?_ ?_ ?_ ?_ ?_ ?_); (iterate 8 (first | rfl | exact hD | exact hD.1 | exact hD.2.1 | exact hD.2.2.1 | (simp only [fresh_cons, fresh_nil, and_true, ne_eq, neF]; first | exact hD | exact hD.1 | exact hD.1.1 | exact hD.2) | exact Nat.succ_pos _ | (simp only [List.length_append, List.length_cons, List.length_nil]; omega))); intro b' blk' h' n3 hn3 hfr hfind hcells hcv hB' hle; clear hB; have hB := hB'; clear hB'; replace hD := And.intro hfr hD; clear hfr; (simp only [fresh_cons, fresh_nil, and_true, ne_eq, neF] at hD); (try simp only [go_sem, hD] at hcv); simp only [go_sem, hD, hfind, hcv]; ((first | apply hK | (clear hK K; apply hK) | (clear hK K; clear hK K; apply hK)); clear hK K); refine Ab.SW.le (hle _) ?_; clear hle hfind hcv) | (refine SW.seq_k fun K hK => ?_) | (refine SW.block ?_) | ((first | refine SW.region ?_ | refine SW.cond ?_ | refine SW.skip ?_ | (refine allF_i fun b hb => ?_; replace hD := And.intro hb hD; clear hb; try simp only [fresh_cons, fresh_nil, and_true, ne_eq, neF] at hD)); try simp only [go_sem, hD, h1i, ie, i0, w1, hc, z]) | (apply hK; clear hK K)
      rw [if_pos rfl] at st
      have e : 2 :: escL (s.data.toList.take j) ++ [0] ++ [255] = 2 :: escL (s.data.toList.take (j + 1)) := by rw [st]; simp
      rw [e] at hcells hB
      have hn : n3 = (2 :: escL (s.data.toList.take (j + 1))).length := by rw [← e]; assumption
      refine Rnd.sub (s.size - (j + 1)) (by omega) ((hI _ _).2 ⟨j + 1, _, _, _, rfl, by omega, by simp only [fresh_cons, fresh_nil, and_true, ne_eq, neF]; exact hD.1, hn, hcells, rfl⟩) (by repeat' (first | exact rfl | exact trivial | constructor))
    · rw [if_neg h0] at st
      have z : ¬ ((c.toNat : Nat) : Int) = 0 := fun x => h0 (UInt8.toNat_inj.1 (show c.toNat = 0 by omega))
      repeat' first | ((with_reducible refine appK_byts2 (l2 := [c]) hB ?_ ?_ ?_ ?_ ?_ ?_ ?_ ?_ ?_); (iterate 8 (first | rfl | exact hD | exact hD.1 | exact hD.2.1 | exact hD.2.2.1 | (simp only [fresh_cons, fresh_nil, and_true, ne_eq, neF]; first | exact hD | exact hD.1 | exact hD.1.1 | exact hD.2) | exact Nat.succ_pos _ | (simp only [List.length_append, List.length_cons, List.length_nil]; omega))); intro b' blk' h' n3 hn3 hfr hfind hcells hcv hB' hle; clear hB; have hB := hB'; clear hB'; replace hD := And.intro hfr hD; clear hfr; (simp only [fresh_cons, fresh_nil, and_true, ne_eq, neF] at hD); (try simp only [go_sem, hD] at hcv); simp only [go_sem, hD, hfind, hcv]; ((first | apply hK | (clear hK K; apply hK) | (clear hK K; clear hK K; apply hK)); clear hK K); refine Ab.SW.le (hle _) ?_; clear hle hfind hcv) | (refine SW.seq_k fun K hK => ?_) | (refine SW.block ?_) | ((first | refine SW.region ?_ | refine SW.cond ?_ | refine SW.skip ?_ | (refine allF_i fun b hb => ?_; replace hD := And.intro hb hD; clear hb; try simp only [fresh_cons, fresh_nil, and_true, ne_eq, neF] at hD)); try simp only [go_sem, hD, h1i, ie, i0, w1, hc, z]) | (apply hK; clear hK K)
      have e : 2 :: escL (s.data.toList.take j) ++ [c] = 2 :: escL (s.data.toList.take (j + 1)) := by rw [st]; simp
      rw [e] at hcells hB
      have hn : n3 = (2 :: escL (s.data.toList.take (j + 1))).length := by rw [← e]; assumption
      refine Rnd.sub (s.size - (j + 1)) (by omega) ((hI _ _).2 ⟨j + 1, _, _, _, rfl, by omega, by simp only [fresh_cons, fresh_nil, and_true, ne_eq, neF]; exact hD.1, hn, hcells, rfl⟩) (by repeat' (first | exact rfl | exact trivial | constructor))
  · have h1i : ¬ ((j : Nat) : Int) < ((s.size : Nat) : Int) := by omega
    rw [List.take_of_length_le (by omega)] at hB hm le
    repeat' first | ((with_reducible refine appK_byts2 (l2 := [0, 1]) hB ?_ ?_ ?_ ?_ ?_ ?_ ?_ ?_ ?_); (iterate 8 (first | rfl | exact hD | exact hD.1 | exact hD.2.1 | exact hD.2.2.1 | (simp only [fresh_cons, fresh_nil, and_true, ne_eq, neF]; first | exact hD | exact hD.1 | exact hD.1.1 | exact hD.2) | exact Nat.succ_pos _ | (simp only [List.length_append, List.length_cons, List.length_nil]; omega))); intro b' blk' h' n3 hn3 hfr hfind hcells hcv hB' hle; clear hB; have hB := hB'; clear hB'; replace hD := And.intro hfr hD; clear hfr; (simp only [fresh_cons, fresh_nil, and_true, ne_eq, neF] at hD); (try simp only [go_sem, hD] at hcv); simp only [go_sem, hD, hfind, hcv]; ((first | apply hK | (clear hK K; apply hK) | (clear hK K; clear hK K; apply hK)); clear hK K); refine Ab.SW.le (hle _) ?_; clear hle hfind; refine stop_i ?_) | (refine SW.seq_k fun K hK => ?_) | ((first | refine SW.region ?_ | refine SW.cond ?_ | refine SW.exit ?_ | (refine allF_i fun b hb => ?_; replace hD := And.intro hb hD; clear hb; try simp only [fresh_cons, fresh_nil, and_true, ne_eq, neF] at hD)); try simp only [go_sem, hD, h1i]) | (apply hK; clear hK K) | (clear hK K; apply hK; clear hK K)
    refine ⟨?_⟩
    repeat' first | (refine SW.seq_k fun K hK => ?_) | ((first | refine SW.region ?_ | refine SW.ret ?_); try simp only [go_sem, hD, hcv]) | (apply hK; clear hK K)
    refine ret_pure ?_; simp only [resL_tmp, resL_nil, tupOf, go_sem, hD]
    rfl
end Go.Proofs.YtpidncgibgiidaaGreat
