/- Rows of symbols: compared; equal; agree at some attributes. -/
import Derived.Test.YtmcmphmhjikgkaaGreatDoorA9
import Derived.Test.YtmcmphmhjikgkaaGreatDoorB2
set_option linter.unusedSimpArgs false
set_option linter.unusedVariables false
set_option linter.unusedSectionVars false
namespace Go.Ab.A20
open Go Go.Ab
/-- The symbol of an attribute in the row that agrees with the first one in a set. -/
def gR (n s j : Nat) : Nat := if s.testBit j = true then j else 2 * n + j
def gF (n s j : Nat) : List SV := [I64 (gR n s j : Nat)]
abbrev NR (n s : Nat) : SV := .fl n 1 (gF n s)
theorem gR_lt {n s j : Nat} (h : j < n) : gR n s j < 3 * n := by unfold gR; split <;> omega
theorem gR_eq {n s t j : Nat} (h : j < n) : gR n s j = gR n t j ↔ s.testBit j = t.testBit j := by
  unfold gR
  cases s.testBit j <;> cases t.testBit j <;> simp <;> omega
/-- How two rows compare, from an attribute on. -/
def lexC (n s t : Nat) : Nat → Int
  | 0 => 0
  | k + 1 => if cmpN (gR n s (n - (k + 1))) (gR n t (n - (k + 1))) = 0 then lexC n s t k else cmpN (gR n s (n - (k + 1))) (gR n t (n - (k + 1)))
def eqR (n s t : Nat) : Bool := (List.range n).all fun j => gR n s j == gR n t j
def agR (n s t e : Nat) : Bool := (List.range n).all fun j => !(e.testBit j && !(gR n s j == gR n t j))
theorem bit_fin : ∀ s : Fin 64, ∀ i : Fin 6, bits .and .u32 ((s.val / 2 ^ i.val : Nat) : Int) 1 = if s.val.testBit i.val = true then 1 else 0 := by decide +kernel
theorem bit_32 {s i : Nat} (hs : s < 64) (hi : i < 6) : bits .and .u32 ((s / 2 ^ i : Nat) : Int) 1 = if s.testBit i = true then 1 else 0 := bit_fin ⟨s, hs⟩ ⟨i, hi⟩
end Go.Ab.A20
namespace Go.Proofs.YtmcmphmhjikgkaaGreatDoor
open Go Go.Ab Go.Ab.A20
variable [Gl]

set_option maxHeartbeats 1000000 in
set_option maxRecDepth 20000 in
theorem compare_r (n s t : Nat) (hn : n ≤ 6) : PCall Tryz.prog 62 [NR n s, NR n t] (I64 (lexC n s t n)) := by
  obtain ⟨X, hX⟩ : ∃ X, X = lexC n s t n := ⟨_, rfl⟩
  rw [← hX]
  refine Call.enter' (N := 36) (rs := [.tmp 4]) Tryz.func62 rfl rfl rfl (by decide) rfl ?_; simp only [argT]; have hD : (0 : Nat) = 0 := rfl
  repeat' first | (with_reducible refine And.intro (by omega) ?_) | (refine SW.seq_k fun K hK => ?_) | (refine SW.block ?_) | ((first | refine SW.region ?_ | refine SW.regionD (Checked.mixed Tryz.checked) (by kernel_rfl) ?_ | refine SW.cond ?_ | refine SW.skip ?_ | refine SW.exit ?_ | refine SW.ret ?_ | (refine allF_i fun b hb => ?_; replace hD := And.intro hb hD; clear hb; try simp only [fresh_cons, fresh_nil, and_true, ne_eq, neF] at hD) | simp only [appK, appOsK]); try simp only [go_sem, hD]) | (refine And.intro (by omega) ?_) | (refine ifI (fun hc => ?_) (fun hc => ?_) <;> first | (exfalso; omega) | skip) | ((first | apply hK | ((iterate 1 (clear hK K)); apply hK) | ((iterate 2 (clear hK K)); apply hK) | ((iterate 3 (clear hK K)); apply hK) | ((iterate 4 (clear hK K)); apply hK) | ((iterate 5 (clear hK K)); apply hK)); clear hK K)
  obtain ⟨I, hI⟩ : ∃ I : Nat → St → Prop, ∀ k S, I k S ↔ (∃ (i : Nat) , k = n - i ∧ i ≤ n ∧ X = lexC n s t (n - i) ∧ S = ⟨[(0, NR n s), (1, NR n t), (9, NR n s), (10, I64 n), (11, I64 i)], []⟩) := ⟨fun k S => _, fun _ _ => Iff.rfl⟩
  refine SW.loop' I (n) ((hI _ _).2 ⟨0, rfl, Nat.zero_le _, hX, rfl⟩) (by repeat' (first | exact rfl | exact trivial | exact int_eq (by omega) | exact int_eq (by (rw [i64_wrap] <;> omega)) | constructor)) ?_
  intro k S hIn
  obtain ⟨i, rfl, hi, hL, rfl⟩ := (hI _ _).1 hIn
  clear hIn
  have ie : ((i : Nat) : Int).toNat = i := Int.toNat_natCast _
  have i0 : (0 : Int) ≤ ((i : Nat) : Int) := by omega
  by_cases hlt : i < n
  · have hli : ((i : Nat) : Int) < (((n) : Nat) : Int) := by omega
    have w1 : IntKind.i64.wrap ((i : Int) + 1) = ((i + 1 : Nat) : Int) := by rw [i64_wrap (by omega) (by omega)]; omega
    have c := cmpI_p (gR n s i) (gR n t i)
    have t1 : gF n s i = [I64 (gR n s i : Nat)] := rfl
    have t2 : gF n t i = [I64 (gR n t i : Nat)] := rfl
    have ng : ¬ ((n : Nat) : Int) ≤ ((i : Nat) : Int) := by omega
    rw [show n - i = (n - (i + 1)) + 1 by omega, lexC, show n - (n - (i + 1) + 1) = i by omega] at hL
    generalize cmpN (gR n s i) (gR n t i) = v at *
    by_cases hv : v = 0
    · rw [if_pos hv] at hL
      repeat' first | (with_reducible refine And.intro (by omega) ?_) | (refine SW.seq_k fun K hK => ?_) | (refine SW.block ?_) | ((first | refine SW.region ?_ | refine SW.regionD (Checked.mixed Tryz.checked) (by kernel_rfl) ?_ | refine SW.cond ?_ | refine SW.skip ?_ | refine SW.exit ?_ | refine SW.ret ?_ | refine Call.of_pure (c) ?_ | refine ⟨_, c, ?_⟩ | (refine allF_i fun b hb => ?_; replace hD := And.intro hb hD; clear hb; try simp only [fresh_cons, fresh_nil, and_true, ne_eq, neF] at hD) | simp only [appK, appOsK]); try simp only [go_sem, hD, hli, ie, i0, w1, t1, t2, ng, hv]) | (refine And.intro (by omega) ?_) | (refine ifI (fun hc => ?_) (fun hc => ?_) <;> first | (exfalso; omega) | skip) | ((first | apply hK | ((iterate 1 (clear hK K)); apply hK) | ((iterate 2 (clear hK K)); apply hK) | ((iterate 3 (clear hK K)); apply hK) | ((iterate 4 (clear hK K)); apply hK) | ((iterate 5 (clear hK K)); apply hK)); clear hK K)
      refine Rnd.sub (n - (i + 1)) (by omega) ((hI _ _).2 ⟨i + 1, rfl, by omega, hL, rfl⟩) (by repeat' (first | exact rfl | exact trivial | exact int_eq (by omega) | exact int_eq (by (rw [i64_wrap] <;> omega)) | constructor))
    · rw [if_neg hv] at hL
      subst hL
      repeat' first | (with_reducible refine And.intro (by omega) ?_) | (refine SW.seq_k fun K hK => ?_) | (refine SW.block ?_) | ((first | refine SW.region ?_ | refine SW.regionD (Checked.mixed Tryz.checked) (by kernel_rfl) ?_ | refine SW.cond ?_ | refine SW.skip ?_ | refine SW.exit ?_ | refine SW.ret ?_ | refine Call.of_pure (c) ?_ | refine ⟨_, c, ?_⟩ | (refine allF_i fun b hb => ?_; replace hD := And.intro hb hD; clear hb; try simp only [fresh_cons, fresh_nil, and_true, ne_eq, neF] at hD) | simp only [appK, appOsK]); try simp only [go_sem, hD, hli, ie, i0, w1, t1, t2, ng, hv]) | (refine And.intro (by omega) ?_) | (refine ifI (fun hc => ?_) (fun hc => ?_) <;> first | (exfalso; omega) | skip) | ((first | apply hK | ((iterate 1 (clear hK K)); apply hK) | ((iterate 2 (clear hK K)); apply hK) | ((iterate 3 (clear hK K)); apply hK) | ((iterate 4 (clear hK K)); apply hK) | ((iterate 5 (clear hK K)); apply hK)); clear hK K)
      refine ret_pure ?_; simp only [resL_tmp, resL_nil, tupOf, go_sem, hD]
  · have hli : ¬ ((i : Nat) : Int) < (((n) : Nat) : Int) := by omega
    rw [show n - i = 0 by omega] at hL
    have nl : ¬ ((n : Nat) : Int) < ((n : Nat) : Int) := by omega
    repeat' first | (with_reducible refine And.intro (by omega) ?_) | (refine SW.seq_k fun K hK => ?_) | (refine SW.block ?_) | ((first | refine SW.region ?_ | refine SW.regionD (Checked.mixed Tryz.checked) (by kernel_rfl) ?_ | refine SW.cond ?_ | refine SW.skip ?_ | refine SW.exit ?_ | refine SW.ret ?_ | (refine allF_i fun b hb => ?_; replace hD := And.intro hb hD; clear hb; try simp only [fresh_cons, fresh_nil, and_true, ne_eq, neF] at hD) | simp only [appK, appOsK]); try simp only [go_sem, hD, hli, nl]) | (refine And.intro (by omega) ?_) | (refine ifI (fun hc => ?_) (fun hc => ?_) <;> first | (exfalso; omega) | skip) | ((first | apply hK | ((iterate 1 (clear hK K)); apply hK) | ((iterate 2 (clear hK K)); apply hK) | ((iterate 3 (clear hK K)); apply hK) | ((iterate 4 (clear hK K)); apply hK) | ((iterate 5 (clear hK K)); apply hK)); clear hK K)
    refine ret_pure ?_; simp only [resL_tmp, resL_nil, tupOf, go_sem, hD]
    rw [hL]
    rfl

set_option maxHeartbeats 1000000 in
set_option maxRecDepth 20000 in
theorem equal_r (n s t : Nat) (hn : n ≤ 6) : PCall Tryz.prog 45 [NR n s, NR n t] (SB (eqR n s t)) := by
  obtain ⟨X, hX⟩ : ∃ X, X = eqR n s t := ⟨_, rfl⟩
  rw [← hX]
  have h1 : (∀ j, j < n → gR n s j = gR n t j) → X = true := fun h => by
    rw [hX, eqR, List.all_eq_true]
    exact fun j hj => beq_iff_eq.2 (h j (List.mem_range.1 hj))
  have h2 : ∀ j, j < n → ¬ gR n s j = gR n t j → X = false := fun j hj h => by
    rw [hX, eqR, List.all_eq_false]
    exact ⟨j, List.mem_range.2 hj, by simpa using h⟩
  clear hX
  refine Call.enter' (N := 26) (rs := [.tmp 4]) Tryz.func45 rfl rfl rfl (by decide) rfl ?_; simp only [argT]; have hD : (0 : Nat) = 0 := rfl
  repeat' first | (with_reducible refine And.intro (by omega) ?_) | (refine SW.seq_k fun K hK => ?_) | (refine SW.block ?_) | ((first | refine SW.region ?_ | refine SW.regionD (Checked.mixed Tryz.checked) (by kernel_rfl) ?_ | refine SW.cond ?_ | refine SW.skip ?_ | refine SW.exit ?_ | refine SW.ret ?_ | (refine allF_i fun b hb => ?_; replace hD := And.intro hb hD; clear hb; try simp only [fresh_cons, fresh_nil, and_true, ne_eq, neF] at hD) | simp only [appK, appOsK]); try simp only [go_sem, hD]) | (refine And.intro (by omega) ?_) | (refine ifI (fun hc => ?_) (fun hc => ?_) <;> first | (exfalso; omega) | skip) | ((first | apply hK | ((iterate 1 (clear hK K)); apply hK) | ((iterate 2 (clear hK K)); apply hK) | ((iterate 3 (clear hK K)); apply hK) | ((iterate 4 (clear hK K)); apply hK) | ((iterate 5 (clear hK K)); apply hK)); clear hK K)
  obtain ⟨I, hI⟩ : ∃ I : Nat → St → Prop, ∀ k S, I k S ↔ (∃ (i : Nat) , k = n - i ∧ i ≤ n ∧ (∀ j, j < i → gR n s j = gR n t j) ∧ S = ⟨[(0, NR n s), (1, NR n t), (12, I64 n), (13, I64 i)], []⟩) := ⟨fun k S => _, fun _ _ => Iff.rfl⟩
  refine SW.loop' I (n) ((hI _ _).2 ⟨0, rfl, Nat.zero_le _, (fun j hj => absurd hj (by omega)), rfl⟩) (by repeat' (first | exact rfl | exact trivial | exact int_eq (by omega) | exact int_eq (by (rw [i64_wrap] <;> omega)) | constructor)) ?_
  intro k S hIn
  obtain ⟨i, rfl, hi, hL, rfl⟩ := (hI _ _).1 hIn
  clear hIn
  have ie : ((i : Nat) : Int).toNat = i := Int.toNat_natCast _
  have i0 : (0 : Int) ≤ ((i : Nat) : Int) := by omega
  by_cases hlt : i < n
  · have hli : ((i : Nat) : Int) < (((n) : Nat) : Int) := by omega
    have w1 : IntKind.i64.wrap ((i : Int) + 1) = ((i + 1 : Nat) : Int) := by rw [i64_wrap (by omega) (by omega)]; omega
    have t1 : gF n s i = [I64 (gR n s i : Nat)] := rfl
    have t2 : gF n t i = [I64 (gR n t i : Nat)] := rfl
    by_cases hv : gR n s i = gR n t i
    · have hn1 : ∀ j, j < i + 1 → gR n s j = gR n t j := fun j hj => by
        rcases Nat.lt_or_ge j i with h | h
        · exact hL j h
        · obtain rfl : j = i := by omega
          exact hv
      rw [← hv] at t2
      generalize gR n s i = v at *
      repeat' first | (with_reducible refine And.intro (by omega) ?_) | (refine SW.seq_k fun K hK => ?_) | (refine SW.block ?_) | ((first | refine SW.region ?_ | refine SW.regionD (Checked.mixed Tryz.checked) (by kernel_rfl) ?_ | refine SW.cond ?_ | refine SW.skip ?_ | refine SW.exit ?_ | refine SW.ret ?_ | (refine allF_i fun b hb => ?_; replace hD := And.intro hb hD; clear hb; try simp only [fresh_cons, fresh_nil, and_true, ne_eq, neF] at hD) | simp only [appK, appOsK]); try simp only [go_sem, hD, hli, ie, i0, w1, t1, t2]) | (refine And.intro (by omega) ?_) | (refine ifI (fun hc => ?_) (fun hc => ?_) <;> first | (exfalso; omega) | skip) | ((first | apply hK | ((iterate 1 (clear hK K)); apply hK) | ((iterate 2 (clear hK K)); apply hK) | ((iterate 3 (clear hK K)); apply hK) | ((iterate 4 (clear hK K)); apply hK) | ((iterate 5 (clear hK K)); apply hK)); clear hK K)
      refine Rnd.sub (n - (i + 1)) (by omega) ((hI _ _).2 ⟨i + 1, rfl, by omega, hn1, rfl⟩) (by repeat' (first | exact rfl | exact trivial | exact int_eq (by omega) | exact int_eq (by (rw [i64_wrap] <;> omega)) | constructor))
    · have hx := h2 i hlt hv
      have hv2 : ¬ ((gR n s i : Nat) : Int) = ((gR n t i : Nat) : Int) := by omega
      generalize gR n s i = v at *
      generalize gR n t i = u at *
      subst hx
      repeat' first | (with_reducible refine And.intro (by omega) ?_) | (refine SW.seq_k fun K hK => ?_) | (refine SW.block ?_) | ((first | refine SW.region ?_ | refine SW.regionD (Checked.mixed Tryz.checked) (by kernel_rfl) ?_ | refine SW.cond ?_ | refine SW.skip ?_ | refine SW.exit ?_ | refine SW.ret ?_ | (refine allF_i fun b hb => ?_; replace hD := And.intro hb hD; clear hb; try simp only [fresh_cons, fresh_nil, and_true, ne_eq, neF] at hD) | simp only [appK, appOsK]); try simp only [go_sem, hD, hli, ie, i0, w1, t1, t2, hv2]) | (refine And.intro (by omega) ?_) | (refine ifI (fun hc => ?_) (fun hc => ?_) <;> first | (exfalso; omega) | skip) | ((first | apply hK | ((iterate 1 (clear hK K)); apply hK) | ((iterate 2 (clear hK K)); apply hK) | ((iterate 3 (clear hK K)); apply hK) | ((iterate 4 (clear hK K)); apply hK) | ((iterate 5 (clear hK K)); apply hK)); clear hK K)
      refine ret_pure ?_; simp only [resL_tmp, resL_nil, tupOf, go_sem, hD]
  · have hli : ¬ ((i : Nat) : Int) < (((n) : Nat) : Int) := by omega
    have hx := h1 fun j hj => hL j (by omega)
    subst hx
    repeat' first | (with_reducible refine And.intro (by omega) ?_) | (refine SW.seq_k fun K hK => ?_) | (refine SW.block ?_) | ((first | refine SW.region ?_ | refine SW.regionD (Checked.mixed Tryz.checked) (by kernel_rfl) ?_ | refine SW.cond ?_ | refine SW.skip ?_ | refine SW.exit ?_ | refine SW.ret ?_ | (refine allF_i fun b hb => ?_; replace hD := And.intro hb hD; clear hb; try simp only [fresh_cons, fresh_nil, and_true, ne_eq, neF] at hD) | simp only [appK, appOsK]); try simp only [go_sem, hD, hli]) | (refine And.intro (by omega) ?_) | (refine ifI (fun hc => ?_) (fun hc => ?_) <;> first | (exfalso; omega) | skip) | ((first | apply hK | ((iterate 1 (clear hK K)); apply hK) | ((iterate 2 (clear hK K)); apply hK) | ((iterate 3 (clear hK K)); apply hK) | ((iterate 4 (clear hK K)); apply hK) | ((iterate 5 (clear hK K)); apply hK)); clear hK K)
    refine ret_pure ?_; simp only [resL_tmp, resL_nil, tupOf, go_sem, hD]

set_option maxHeartbeats 1000000 in
set_option maxRecDepth 20000 in
theorem agree_r (n s t e : Nat) (hn : n ≤ 6) (he : e < 64) : PCall Tryz.prog 97 [NR n s, NR n t, U32 e] (SB (agR n s t e)) := by
  obtain ⟨X, hX⟩ : ∃ X, X = agR n s t e := ⟨_, rfl⟩
  rw [← hX]
  have h1 : (∀ j, j < n → e.testBit j = true → gR n s j = gR n t j) → X = true := fun h => by
    rw [hX, agR, List.all_eq_true]
    intro j hj
    have := h j (List.mem_range.1 hj)
    cases hb : e.testBit j with
    | false => rfl
    | true => rw [this hb]; simp
  have h2 : ∀ j, j < n → e.testBit j = true → ¬ gR n s j = gR n t j → X = false := fun j hj hb h => by
    rw [hX, agR, List.all_eq_false]
    exact ⟨j, List.mem_range.2 hj, by simp [hb, h]⟩
  clear hX
  refine Call.enter' (N := 30) (rs := [.tmp 6]) Tryz.func97 rfl rfl rfl (by decide) rfl ?_; simp only [argT]; have hD : (0 : Nat) = 0 := rfl
  repeat' first | (with_reducible refine And.intro (by omega) ?_) | (refine SW.seq_k fun K hK => ?_) | (refine SW.block ?_) | ((first | refine SW.region ?_ | refine SW.regionD (Checked.mixed Tryz.checked) (by kernel_rfl) ?_ | refine SW.cond ?_ | refine SW.skip ?_ | refine SW.exit ?_ | refine SW.ret ?_ | (refine allF_i fun b hb => ?_; replace hD := And.intro hb hD; clear hb; try simp only [fresh_cons, fresh_nil, and_true, ne_eq, neF] at hD) | simp only [appK, appOsK]); try simp only [go_sem, hD]) | (refine And.intro (by omega) ?_) | (refine ifI (fun hc => ?_) (fun hc => ?_) <;> first | (exfalso; omega) | skip) | ((first | apply hK | ((iterate 1 (clear hK K)); apply hK) | ((iterate 2 (clear hK K)); apply hK) | ((iterate 3 (clear hK K)); apply hK) | ((iterate 4 (clear hK K)); apply hK) | ((iterate 5 (clear hK K)); apply hK)); clear hK K)
  obtain ⟨I, hI⟩ : ∃ I : Nat → St → Prop, ∀ k S, I k S ↔ (∃ (i : Nat) , k = n - i ∧ i ≤ n ∧ (∀ j, j < i → e.testBit j = true → gR n s j = gR n t j) ∧ S = ⟨[(0, NR n s), (1, NR n t), (2, U32 e), (9, I64 n), (10, I64 i)], []⟩) := ⟨fun k S => _, fun _ _ => Iff.rfl⟩
  refine SW.loop' I (n) ((hI _ _).2 ⟨0, rfl, Nat.zero_le _, (fun j hj => absurd hj (by omega)), rfl⟩) (by repeat' (first | exact rfl | exact trivial | exact int_eq (by omega) | exact int_eq (by (rw [i64_wrap] <;> omega)) | constructor)) ?_
  intro k S hIn
  obtain ⟨i, rfl, hi, hL, rfl⟩ := (hI _ _).1 hIn
  clear hIn
  have ie : ((i : Nat) : Int).toNat = i := Int.toNat_natCast _
  have i0 : (0 : Int) ≤ ((i : Nat) : Int) := by omega
  by_cases hlt : i < n
  · have hli : ((i : Nat) : Int) < (((n) : Nat) : Int) := by omega
    have w1 : IntKind.i64.wrap ((i : Int) + 1) = ((i + 1 : Nat) : Int) := by rw [i64_wrap (by omega) (by omega)]; omega
    have t1 : gF n s i = [I64 (gR n s i : Nat)] := rfl
    have t2 : gF n t i = [I64 (gR n t i : Nat)] := rfl
    have sh := shr32 e i
    have nm : min i 32 = i := by omega
    have bt := bit_32 he (show i < 6 by omega)
    cases hb : e.testBit i with
    | false =>
      have hn1 : ∀ j, j < i + 1 → e.testBit j = true → gR n s j = gR n t j := fun j hj hj2 => by
        rcases Nat.lt_or_ge j i with h | h
        · exact hL j h hj2
        · obtain rfl : j = i := by omega
          rw [hb] at hj2
          cases hj2
      rw [hb, if_neg (by simp)] at bt
      repeat' first | (with_reducible refine And.intro (by omega) ?_) | (refine SW.seq_k fun K hK => ?_) | (refine SW.block ?_) | ((first | refine SW.region ?_ | refine SW.regionD (Checked.mixed Tryz.checked) (by kernel_rfl) ?_ | refine SW.cond ?_ | refine SW.skip ?_ | refine SW.exit ?_ | refine SW.ret ?_ | (refine allF_i fun b hb => ?_; replace hD := And.intro hb hD; clear hb; try simp only [fresh_cons, fresh_nil, and_true, ne_eq, neF] at hD) | simp only [appK, appOsK]); try simp only [go_sem, hD, hli, ie, i0, w1, t1, t2, sh, nm, bt]) | (refine And.intro (by omega) ?_) | (refine ifI (fun hc => ?_) (fun hc => ?_) <;> first | (exfalso; omega) | skip) | ((first | apply hK | ((iterate 1 (clear hK K)); apply hK) | ((iterate 2 (clear hK K)); apply hK) | ((iterate 3 (clear hK K)); apply hK) | ((iterate 4 (clear hK K)); apply hK) | ((iterate 5 (clear hK K)); apply hK)); clear hK K)
      refine Rnd.sub (n - (i + 1)) (by omega) ((hI _ _).2 ⟨i + 1, rfl, by omega, hn1, rfl⟩) (by repeat' (first | exact rfl | exact trivial | exact int_eq (by omega) | exact int_eq (by (rw [i64_wrap] <;> omega)) | constructor))
    | true =>
      rw [hb, if_pos rfl] at bt
      by_cases hv : gR n s i = gR n t i
      · have hn1 : ∀ j, j < i + 1 → e.testBit j = true → gR n s j = gR n t j := fun j hj hj2 => by
          rcases Nat.lt_or_ge j i with h | h
          · exact hL j h hj2
          · obtain rfl : j = i := by omega
            exact hv
        rw [← hv] at t2
        generalize gR n s i = v at *
        repeat' first | (with_reducible refine And.intro (by omega) ?_) | (refine SW.seq_k fun K hK => ?_) | (refine SW.block ?_) | ((first | refine SW.region ?_ | refine SW.regionD (Checked.mixed Tryz.checked) (by kernel_rfl) ?_ | refine SW.cond ?_ | refine SW.skip ?_ | refine SW.exit ?_ | refine SW.ret ?_ | (refine allF_i fun b hb => ?_; replace hD := And.intro hb hD; clear hb; try simp only [fresh_cons, fresh_nil, and_true, ne_eq, neF] at hD) | simp only [appK, appOsK]); try simp only [go_sem, hD, hli, ie, i0, w1, t1, t2, sh, nm, bt]) | (refine And.intro (by omega) ?_) | (refine ifI (fun hc => ?_) (fun hc => ?_) <;> first | (exfalso; omega) | skip) | ((first | apply hK | ((iterate 1 (clear hK K)); apply hK) | ((iterate 2 (clear hK K)); apply hK) | ((iterate 3 (clear hK K)); apply hK) | ((iterate 4 (clear hK K)); apply hK) | ((iterate 5 (clear hK K)); apply hK)); clear hK K)
        refine Rnd.sub (n - (i + 1)) (by omega) ((hI _ _).2 ⟨i + 1, rfl, by omega, hn1, rfl⟩) (by repeat' (first | exact rfl | exact trivial | exact int_eq (by omega) | exact int_eq (by (rw [i64_wrap] <;> omega)) | constructor))
      · have hx := h2 i hlt hb hv
        have hv2 : ¬ ((gR n s i : Nat) : Int) = ((gR n t i : Nat) : Int) := by omega
        generalize gR n s i = v at *
        generalize gR n t i = u at *
        subst hx
        repeat' first | (with_reducible refine And.intro (by omega) ?_) | (refine SW.seq_k fun K hK => ?_) | (refine SW.block ?_) | ((first | refine SW.region ?_ | refine SW.regionD (Checked.mixed Tryz.checked) (by kernel_rfl) ?_ | refine SW.cond ?_ | refine SW.skip ?_ | refine SW.exit ?_ | refine SW.ret ?_ | (refine allF_i fun b hb => ?_; replace hD := And.intro hb hD; clear hb; try simp only [fresh_cons, fresh_nil, and_true, ne_eq, neF] at hD) | simp only [appK, appOsK]); try simp only [go_sem, hD, hli, ie, i0, w1, t1, t2, sh, nm, bt, hv2]) | (refine And.intro (by omega) ?_) | (refine ifI (fun hc => ?_) (fun hc => ?_) <;> first | (exfalso; omega) | skip) | ((first | apply hK | ((iterate 1 (clear hK K)); apply hK) | ((iterate 2 (clear hK K)); apply hK) | ((iterate 3 (clear hK K)); apply hK) | ((iterate 4 (clear hK K)); apply hK) | ((iterate 5 (clear hK K)); apply hK)); clear hK K)
        refine ret_pure ?_; simp only [resL_tmp, resL_nil, tupOf, go_sem, hD]
  · have hli : ¬ ((i : Nat) : Int) < (((n) : Nat) : Int) := by omega
    have hx := h1 fun j hj hj2 => hL j (by omega) hj2
    subst hx
    repeat' first | (with_reducible refine And.intro (by omega) ?_) | (refine SW.seq_k fun K hK => ?_) | (refine SW.block ?_) | ((first | refine SW.region ?_ | refine SW.regionD (Checked.mixed Tryz.checked) (by kernel_rfl) ?_ | refine SW.cond ?_ | refine SW.skip ?_ | refine SW.exit ?_ | refine SW.ret ?_ | (refine allF_i fun b hb => ?_; replace hD := And.intro hb hD; clear hb; try simp only [fresh_cons, fresh_nil, and_true, ne_eq, neF] at hD) | simp only [appK, appOsK]); try simp only [go_sem, hD, hli]) | (refine And.intro (by omega) ?_) | (refine ifI (fun hc => ?_) (fun hc => ?_) <;> first | (exfalso; omega) | skip) | ((first | apply hK | ((iterate 1 (clear hK K)); apply hK) | ((iterate 2 (clear hK K)); apply hK) | ((iterate 3 (clear hK K)); apply hK) | ((iterate 4 (clear hK K)); apply hK) | ((iterate 5 (clear hK K)); apply hK)); clear hK K)
    refine ret_pure ?_; simp only [resL_tmp, resL_nil, tupOf, go_sem, hD]
end Go.Proofs.YtmcmphmhjikgkaaGreatDoor
