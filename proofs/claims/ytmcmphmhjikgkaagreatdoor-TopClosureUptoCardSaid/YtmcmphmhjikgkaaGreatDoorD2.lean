/- A tableau is valid; the dependencies are. -/
import Derived.Test.YtmcmphmhjikgkaaGreatDoorD1
set_option linter.unusedSimpArgs false
set_option linter.unusedVariables false
set_option linter.unusedSectionVars false
namespace Go.Proofs.YtmcmphmhjikgkaaGreatDoor
open Go Go.Ab Go.Ab.A20
variable [Gl] [Bru]

set_option maxHeartbeats 1000000 in
set_option maxRecDepth 20000 in
theorem neg_p (x : Nat) : PCall Tryz.prog 130 [I64 x] (SB false) := by
  have hx : ¬ ((x : Nat) : Int) < 0 := by omega
  refine Call.enter' (N := 5) (rs := [.tmp 2]) Tryz.func130 rfl rfl rfl (by decide) rfl ?_; simp only [argT]; have hD : (0 : Nat) = 0 := rfl
  repeat' first | (with_reducible refine And.intro (by omega) ?_) | (refine SW.seq_k fun K hK => ?_) | (refine SW.block ?_) | ((first | refine SW.region ?_ | refine SW.regionD (Checked.mixed Tryz.checked) (by kernel_rfl) ?_ | refine SW.cond ?_ | refine SW.skip ?_ | refine SW.exit ?_ | refine SW.ret ?_ | (refine allF_i fun b hb => ?_; replace hD := And.intro hb hD; clear hb; try simp only [fresh_cons, fresh_nil, and_true, ne_eq, neF] at hD) | simp only [appK, appOsK]); try simp only [go_sem, hD, hx]) | (refine And.intro (by omega) ?_) | (refine ifI (fun hc => ?_) (fun hc => ?_) <;> first | (exfalso; omega) | skip) | ((first | apply hK | ((iterate 1 (clear hK K)); apply hK) | ((iterate 2 (clear hK K)); apply hK) | ((iterate 3 (clear hK K)); apply hK) | ((iterate 4 (clear hK K)); apply hK) | ((iterate 5 (clear hK K)); apply hK)); clear hK K)
  refine ret_pure ?_; simp only [resL_tmp, resL_nil, tupOf, go_sem, hD]

set_option maxHeartbeats 1000000 in
set_option maxRecDepth 20000 in
theorem idxneg_p (n s : Nat) (hn : n ≤ 6) : PCall Tryz.prog 164 [NR n s, .fn (.func 130) [] []] (I64 (-1)) := by
  refine Call.enter' (N := 19) (rs := [.tmp 4]) Tryz.func164 rfl rfl rfl (by decide) rfl ?_; simp only [argT]; have hD : (0 : Nat) = 0 := rfl
  repeat' first | (with_reducible refine And.intro (by omega) ?_) | (refine SW.seq_k fun K hK => ?_) | (refine SW.block ?_) | ((first | refine SW.region ?_ | refine SW.regionD (Checked.mixed Tryz.checked) (by kernel_rfl) ?_ | refine SW.cond ?_ | refine SW.skip ?_ | refine SW.exit ?_ | refine SW.ret ?_ | (refine allF_i fun b hb => ?_; replace hD := And.intro hb hD; clear hb; try simp only [fresh_cons, fresh_nil, and_true, ne_eq, neF] at hD) | simp only [appK, appOsK]); try simp only [go_sem, hD]) | (refine And.intro (by omega) ?_) | (refine ifI (fun hc => ?_) (fun hc => ?_) <;> first | (exfalso; omega) | skip) | ((first | apply hK | ((iterate 1 (clear hK K)); apply hK) | ((iterate 2 (clear hK K)); apply hK) | ((iterate 3 (clear hK K)); apply hK) | ((iterate 4 (clear hK K)); apply hK) | ((iterate 5 (clear hK K)); apply hK)); clear hK K)
  obtain ⟨I, hI⟩ : ∃ I : Nat → St → Prop, ∀ k S, I k S ↔ (∃ (i : Nat) , k = n - i ∧ i ≤ n ∧ S = ⟨[(0, NR n s), (1, .fn (.func 130) [] []), (7, I64 n), (8, I64 i)], []⟩) := ⟨fun k S => _, fun _ _ => Iff.rfl⟩
  refine SW.loop' I (n) ((hI _ _).2 ⟨0, rfl, Nat.zero_le _, rfl⟩) (by repeat' (first | exact rfl | exact trivial | exact int_eq (by omega) | exact int_eq (by (rw [i64_wrap] <;> omega)) | constructor)) ?_
  intro k S hIn
  obtain ⟨i, rfl, hi, rfl⟩ := (hI _ _).1 hIn
  clear hIn
  have ie : ((i : Nat) : Int).toNat = i := Int.toNat_natCast _
  have i0 : (0 : Int) ≤ ((i : Nat) : Int) := by omega
  by_cases hlt : i < n
  · have hli : ((i : Nat) : Int) < (((n) : Nat) : Int) := by omega
    have w1 : IntKind.i64.wrap ((i : Int) + 1) = ((i + 1 : Nat) : Int) := by rw [i64_wrap (by omega) (by omega)]; omega
    have tf : gF n s i = [I64 (gR n s i : Nat)] := rfl
    have ng := neg_p (gR n s i)
    generalize gR n s i = v at *
    repeat' first | (with_reducible refine And.intro (by omega) ?_) | (refine SW.seq_k fun K hK => ?_) | (refine SW.block ?_) | ((first | refine SW.region ?_ | refine SW.regionD (Checked.mixed Tryz.checked) (by kernel_rfl) ?_ | refine SW.cond ?_ | refine SW.skip ?_ | refine SW.exit ?_ | refine SW.ret ?_ | refine Call.of_pure (ng) ?_ | refine ⟨_, ng, ?_⟩ | (refine allF_i fun b hb => ?_; replace hD := And.intro hb hD; clear hb; try simp only [fresh_cons, fresh_nil, and_true, ne_eq, neF] at hD) | simp only [appK, appOsK]); try simp only [go_sem, hD, hli, ie, i0, w1, tf]) | (refine And.intro (by omega) ?_) | (refine ifI (fun hc => ?_) (fun hc => ?_) <;> first | (exfalso; omega) | skip) | ((first | apply hK | ((iterate 1 (clear hK K)); apply hK) | ((iterate 2 (clear hK K)); apply hK) | ((iterate 3 (clear hK K)); apply hK) | ((iterate 4 (clear hK K)); apply hK) | ((iterate 5 (clear hK K)); apply hK)); clear hK K)
    refine Rnd.sub (n - (i + 1)) (by omega) ((hI _ _).2 ⟨i + 1, rfl, by omega, rfl⟩) (by repeat' (first | exact rfl | exact trivial | exact int_eq (by omega) | exact int_eq (by (rw [i64_wrap] <;> omega)) | constructor))
  · have hli : ¬ ((i : Nat) : Int) < (((n) : Nat) : Int) := by omega
    repeat' first | (with_reducible refine And.intro (by omega) ?_) | (refine SW.seq_k fun K hK => ?_) | (refine SW.block ?_) | ((first | refine SW.region ?_ | refine SW.regionD (Checked.mixed Tryz.checked) (by kernel_rfl) ?_ | refine SW.cond ?_ | refine SW.skip ?_ | refine SW.exit ?_ | refine SW.ret ?_ | (refine allF_i fun b hb => ?_; replace hD := And.intro hb hD; clear hb; try simp only [fresh_cons, fresh_nil, and_true, ne_eq, neF] at hD) | simp only [appK, appOsK]); try simp only [go_sem, hD, hli]) | (refine And.intro (by omega) ?_) | (refine ifI (fun hc => ?_) (fun hc => ?_) <;> first | (exfalso; omega) | skip) | ((first | apply hK | ((iterate 1 (clear hK K)); apply hK) | ((iterate 2 (clear hK K)); apply hK) | ((iterate 3 (clear hK K)); apply hK) | ((iterate 4 (clear hK K)); apply hK) | ((iterate 5 (clear hK K)); apply hK)); clear hK K)
    refine ret_pure ?_; simp only [resL_tmp, resL_nil, tupOf, go_sem, hD]

set_option maxHeartbeats 1000000 in
set_option maxRecDepth 20000 in
theorem hasneg_p (n s : Nat) (hn : n ≤ 6) : PCall Tryz.prog 129 [NR n s, .fn (.func 130) [] []] (SB false) := by
  have ix := idxneg_p n s hn
  refine Call.enter' (N := 9) (rs := [.tmp 4]) Tryz.func129 rfl rfl rfl (by decide) rfl ?_; simp only [argT]; have hD : (0 : Nat) = 0 := rfl
  repeat' first | (with_reducible refine And.intro (by omega) ?_) | (refine SW.seq_k fun K hK => ?_) | (refine SW.block ?_) | ((first | refine SW.region ?_ | refine SW.regionD (Checked.mixed Tryz.checked) (by kernel_rfl) ?_ | refine SW.cond ?_ | refine SW.skip ?_ | refine SW.exit ?_ | refine SW.ret ?_ | refine Call.of_pure (ix) ?_ | refine ⟨_, ix, ?_⟩ | (refine allF_i fun b hb => ?_; replace hD := And.intro hb hD; clear hb; try simp only [fresh_cons, fresh_nil, and_true, ne_eq, neF] at hD) | simp only [appK, appOsK]); try simp only [go_sem, hD]) | (refine And.intro (by omega) ?_) | (refine ifI (fun hc => ?_) (fun hc => ?_) <;> first | (exfalso; omega) | skip) | ((first | apply hK | ((iterate 1 (clear hK K)); apply hK) | ((iterate 2 (clear hK K)); apply hK) | ((iterate 3 (clear hK K)); apply hK) | ((iterate 4 (clear hK K)); apply hK) | ((iterate 5 (clear hK K)); apply hK)); clear hK K)
  refine ret_pure ?_; simp only [resL_tmp, resL_nil, tupOf, go_sem, hD]
  rfl

set_option maxHeartbeats 1000000 in
set_option maxRecDepth 20000 in
theorem tvalid_p (n : Nat) (L : List Nat) (hn : n ≤ 6) (hL : L.length ≤ 2) (hq : ∀ i, i + 1 < L.length → lexC n (L.getD i 0) (L.getD (i + 1) 0) n < 0) : PCall Tryz.prog 96 [TB n L] (SB true) := by
  have n0 : ¬ ((n : Nat) : Int) < 0 := by omega
  have n16 : ¬ (16 : Int) < ((n : Nat) : Int) := by omega
  have l256 : ¬ (256 : Int) < ((L.length : Nat) : Int) := by omega
  refine Call.enter' (N := 50) (rs := [.tmp 2]) Tryz.func96 rfl rfl rfl (by decide) rfl ?_; simp only [argT]; have hD : (0 : Nat) = 0 := rfl
  repeat' first | (with_reducible refine And.intro (by omega) ?_) | (refine SW.seq_k fun K hK => ?_) | (refine SW.block ?_) | ((first | refine SW.region ?_ | refine SW.regionD (Checked.mixed Tryz.checked) (by kernel_rfl) ?_ | refine SW.cond ?_ | refine SW.skip ?_ | refine SW.exit ?_ | refine SW.ret ?_ | (refine allF_i fun b hb => ?_; replace hD := And.intro hb hD; clear hb; try simp only [fresh_cons, fresh_nil, and_true, ne_eq, neF] at hD) | simp only [appK, appOsK]); try simp only [go_sem, hD, n0, n16, l256]) | (refine And.intro (by omega) ?_) | (refine ifI (fun hc => ?_) (fun hc => ?_) <;> first | (exfalso; omega) | skip) | ((first | apply hK | ((iterate 1 (clear hK K)); apply hK) | ((iterate 2 (clear hK K)); apply hK) | ((iterate 3 (clear hK K)); apply hK) | ((iterate 4 (clear hK K)); apply hK) | ((iterate 5 (clear hK K)); apply hK)); clear hK K)
  obtain ⟨tb, rfl⟩ : ∃ x, x = b := ⟨_, rfl⟩
  obtain ⟨I, hI⟩ : ∃ I : Nat → St → Prop, ∀ k S, I k S ↔ (∃ (i : Nat) , k = L.length - i ∧ i ≤ L.length ∧ S = ⟨[(1, .op tb 0), (20, RL n L), (21, I64 L.length), (22, I64 i)], [(tb, .svs [I64 n, RL n L])]⟩) := ⟨fun k S => _, fun _ _ => Iff.rfl⟩
  refine SW.loop' I (L.length) ((hI _ _).2 ⟨0, rfl, Nat.zero_le _, rfl⟩) (by repeat' (first | exact rfl | exact trivial | exact int_eq (by omega) | exact int_eq (by (rw [i64_wrap] <;> omega)) | constructor)) ?_
  intro k S hIn
  obtain ⟨i, rfl, hi, rfl⟩ := (hI _ _).1 hIn
  clear hIn
  have ie : ((i : Nat) : Int).toNat = i := Int.toNat_natCast _
  have i0 : (0 : Int) ≤ ((i : Nat) : Int) := by omega
  by_cases hlt : i < L.length
  · have hli : ((i : Nat) : Int) < (((L.length) : Nat) : Int) := by omega
    have w1 : IntKind.i64.wrap ((i : Int) + 1) = ((i + 1 : Nat) : Int) := by rw [i64_wrap (by omega) (by omega)]; omega
    have tf : rF n L i = [NR n (L.getD i 0)] := rfl
    have hg := hasneg_p n (L.getD i 0) hn
    cases i with
    | zero =>
      generalize L.getD 0 0 = u at *
      repeat' first | (with_reducible refine And.intro (by omega) ?_) | (refine SW.seq_k fun K hK => ?_) | (refine SW.block ?_) | ((first | refine SW.region ?_ | refine SW.regionD (Checked.mixed Tryz.checked) (by kernel_rfl) ?_ | refine SW.cond ?_ | refine SW.skip ?_ | refine SW.exit ?_ | refine SW.ret ?_ | refine Call.of_pure (hg) ?_ | refine ⟨_, hg, ?_⟩ | (refine allF_i fun b hb => ?_; replace hD := And.intro hb hD; clear hb; try simp only [fresh_cons, fresh_nil, and_true, ne_eq, neF] at hD) | simp only [appK, appOsK]); try simp only [go_sem, hD, hli, ie, i0, w1, tf]) | (refine And.intro (by omega) ?_) | (refine ifI (fun hc => ?_) (fun hc => ?_) <;> first | (exfalso; omega) | skip) | ((first | apply hK | ((iterate 1 (clear hK K)); apply hK) | ((iterate 2 (clear hK K)); apply hK) | ((iterate 3 (clear hK K)); apply hK) | ((iterate 4 (clear hK K)); apply hK) | ((iterate 5 (clear hK K)); apply hK)); clear hK K)
      refine Rnd.sub (L.length - (0 + 1)) (by omega) ((hI _ _).2 ⟨0 + 1, rfl, by omega, rfl⟩) (by repeat' (first | exact rfl | exact trivial | exact int_eq (by omega) | exact int_eq (by (rw [i64_wrap] <;> omega)) | constructor))
    | succ j =>
      have hv := hq j hlt
      have cp := compare_r n (L.getD j 0) (L.getD (j + 1) 0) hn
      have tj : rF n L j = [NR n (L.getD j 0)] := rfl
      generalize lexC n (L.getD j 0) (L.getD (j + 1) 0) n = v at *
      generalize L.getD j 0 = u at *
      generalize L.getD (j + 1) 0 = y at *
      have g0 : (0 : Int) < ((j + 1 : Nat) : Int) := by omega
      have wj : IntKind.i64.wrap (((j + 1 : Nat) : Int) - 1) = (j : Int) := by rw [i64_wrap (by omega) (by omega)]; omega
      have j0 : (0 : Int) ≤ ((j : Nat) : Int) := by omega
      have jl : ((j : Nat) : Int) < ((L.length : Nat) : Int) := by omega
      have je : ((j : Nat) : Int).toNat = j := Int.toNat_natCast _
      have hv2 : ¬ (0 : Int) ≤ v := by omega
      repeat' first | (with_reducible refine And.intro (by omega) ?_) | (refine SW.seq_k fun K hK => ?_) | (refine SW.block ?_) | ((first | refine SW.region ?_ | refine SW.regionD (Checked.mixed Tryz.checked) (by kernel_rfl) ?_ | refine SW.cond ?_ | refine SW.skip ?_ | refine SW.exit ?_ | refine SW.ret ?_ | refine Call.of_pure (hg) ?_ | refine ⟨_, hg, ?_⟩ | refine Call.of_pure (cp) ?_ | refine ⟨_, cp, ?_⟩ | (refine allF_i fun b hb => ?_; replace hD := And.intro hb hD; clear hb; try simp only [fresh_cons, fresh_nil, and_true, ne_eq, neF] at hD) | simp only [appK, appOsK]); try simp only [go_sem, hD, hli, ie, i0, w1, tf, g0, wj, j0, jl, je, tj, hv2]) | (refine And.intro (by omega) ?_) | (refine ifI (fun hc => ?_) (fun hc => ?_) <;> first | (exfalso; omega) | skip) | ((first | apply hK | ((iterate 1 (clear hK K)); apply hK) | ((iterate 2 (clear hK K)); apply hK) | ((iterate 3 (clear hK K)); apply hK) | ((iterate 4 (clear hK K)); apply hK) | ((iterate 5 (clear hK K)); apply hK)); clear hK K)
      refine Rnd.sub (L.length - (j + 1 + 1)) (by omega) ((hI _ _).2 ⟨j + 1 + 1, rfl, by omega, rfl⟩) (by repeat' (first | exact rfl | exact trivial | exact int_eq (by omega) | exact int_eq (by (rw [i64_wrap] <;> omega)) | constructor))
  · have hli : ¬ ((i : Nat) : Int) < (((L.length) : Nat) : Int) := by omega
    repeat' first | (with_reducible refine And.intro (by omega) ?_) | (refine SW.seq_k fun K hK => ?_) | (refine SW.block ?_) | ((first | refine SW.region ?_ | refine SW.regionD (Checked.mixed Tryz.checked) (by kernel_rfl) ?_ | refine SW.cond ?_ | refine SW.skip ?_ | refine SW.exit ?_ | refine SW.ret ?_ | (refine allF_i fun b hb => ?_; replace hD := And.intro hb hD; clear hb; try simp only [fresh_cons, fresh_nil, and_true, ne_eq, neF] at hD) | simp only [appK, appOsK]); try simp only [go_sem, hD, hli]) | (refine And.intro (by omega) ?_) | (refine ifI (fun hc => ?_) (fun hc => ?_) <;> first | (exfalso; omega) | skip) | ((first | apply hK | ((iterate 1 (clear hK K)); apply hK) | ((iterate 2 (clear hK K)); apply hK) | ((iterate 3 (clear hK K)); apply hK) | ((iterate 4 (clear hK K)); apply hK) | ((iterate 5 (clear hK K)); apply hK)); clear hK K)
    refine ret_pure ?_; simp only [resL_tmp, resL_nil, tupOf, go_sem, hD]

set_option maxHeartbeats 1000000 in
set_option maxRecDepth 20000 in
theorem bvalid_p (n : Nat) (l : List D2) (hn : n ≤ 6) (h2 : In2 n l) (h64 : l.length ≤ 64) : PCall Tryz.prog 85 [I64 n, DL l, .sc (.slice none 0 0)] (I64 0) := by
  have va := valid_p n l (in2_ok (by omega) h2) (by omega) h64
  rw [valE_ok hn h64 h2] at va
  refine Call.enter' (N := 34) (rs := [.tmp 6]) Tryz.func85 rfl rfl rfl (by decide) rfl ?_; simp only [argT]; have hD : (0 : Nat) = 0 := rfl
  repeat' first | (with_reducible refine And.intro (by omega) ?_) | (refine SW.seq_k fun K hK => ?_) | (refine SW.block ?_) | ((first | refine SW.region ?_ | refine SW.regionD (Checked.mixed Tryz.checked) (by kernel_rfl) ?_ | refine SW.cond ?_ | refine SW.skip ?_ | refine SW.exit ?_ | refine SW.ret ?_ | refine Call.of_pure (va) ?_ | refine ⟨_, va, ?_⟩ | (refine allF_i fun b hb => ?_; replace hD := And.intro hb hD; clear hb; try simp only [fresh_cons, fresh_nil, and_true, ne_eq, neF] at hD) | simp only [appK, appOsK]); try simp only [go_sem, hD]) | (refine And.intro (by omega) ?_) | (refine ifI (fun hc => ?_) (fun hc => ?_) <;> first | (exfalso; omega) | skip) | ((first | apply hK | ((iterate 1 (clear hK K)); apply hK) | ((iterate 2 (clear hK K)); apply hK) | ((iterate 3 (clear hK K)); apply hK) | ((iterate 4 (clear hK K)); apply hK) | ((iterate 5 (clear hK K)); apply hK)); clear hK K)
  obtain ⟨J, hJ⟩ : ∃ J : Nat → St → Prop, ∀ m S, J m S ↔ S = ⟨[(19, .sc (.slice none 0 0)), (20, I64 0), (21, I64 0)], []⟩ := ⟨fun m S => _, fun _ _ => Iff.rfl⟩
  refine SW.loop' J 0 ((hJ _ _).2 rfl) (by repeat' (first | exact rfl | exact trivial | exact int_eq (by omega) | exact int_eq (by (rw [i64_wrap] <;> omega)) | constructor)) ?_
  intro m S hIn
  obtain rfl := (hJ _ _).1 hIn
  clear hIn
  repeat' first | (with_reducible refine And.intro (by omega) ?_) | (refine SW.seq_k fun K hK => ?_) | (refine SW.block ?_) | ((first | refine SW.region ?_ | refine SW.regionD (Checked.mixed Tryz.checked) (by kernel_rfl) ?_ | refine SW.cond ?_ | refine SW.skip ?_ | refine SW.exit ?_ | refine SW.ret ?_ | (refine allF_i fun b hb => ?_; replace hD := And.intro hb hD; clear hb; try simp only [fresh_cons, fresh_nil, and_true, ne_eq, neF] at hD) | simp only [appK, appOsK]); try simp only [go_sem, hD]) | (refine And.intro (by omega) ?_) | (refine ifI (fun hc => ?_) (fun hc => ?_) <;> first | (exfalso; omega) | skip) | ((first | apply hK | ((iterate 1 (clear hK K)); apply hK) | ((iterate 2 (clear hK K)); apply hK) | ((iterate 3 (clear hK K)); apply hK) | ((iterate 4 (clear hK K)); apply hK) | ((iterate 5 (clear hK K)); apply hK)); clear hK K)
  refine ret_pure ?_; simp only [resL_tmp, resL_nil, tupOf, go_sem, hD]

set_option maxHeartbeats 1000000 in
set_option maxRecDepth 20000 in
theorem checked_p (n z : Nat) (l : List D2) (hn : n ≤ 6) (hz : z < 2 ^ n) (h2 : In2 n l) (h64 : l.length ≤ 64) : PCall Tryz.prog 64 [TB n (tabL n z), DL l, .sc (.slice none 0 0)] (I64 0) := by
  have bv := bvalid_p n l hn h2 h64
  have tv := tvalid_p n (tabL n z) hn (tab_len n z) (by
    intro i hi
    unfold tabL at hi ⊢
    split
    · rename_i h; rw [if_pos h] at hi; simp at hi
    · rename_i h
      rw [if_neg h] at hi
      obtain rfl : i = 0 := by simp at hi; omega
      exact lex_lt hz h)
  generalize tabL n z = L at *
  refine Call.enter' (N := 15) (rs := [.tmp 6]) Tryz.func64 rfl rfl rfl (by decide) rfl ?_; simp only [argT]; have hD : (0 : Nat) = 0 := rfl
  repeat' first | (with_reducible refine And.intro (by omega) ?_) | (refine SW.seq_k fun K hK => ?_) | (refine SW.block ?_) | ((first | refine SW.region ?_ | refine SW.regionD (Checked.mixed Tryz.checked) (by kernel_rfl) ?_ | refine SW.cond ?_ | refine SW.skip ?_ | refine SW.exit ?_ | refine SW.ret ?_ | refine Call.of_pure (tv) ?_ | refine ⟨_, tv, ?_⟩ | refine Call.of_pure (bv) ?_ | refine ⟨_, bv, ?_⟩ | (refine allF_i fun b hb => ?_; replace hD := And.intro hb hD; clear hb; try simp only [fresh_cons, fresh_nil, and_true, ne_eq, neF] at hD) | simp only [appK, appOsK]); try simp only [go_sem, hD]) | (refine And.intro (by omega) ?_) | (refine ifI (fun hc => ?_) (fun hc => ?_) <;> first | (exfalso; omega) | skip) | ((first | apply hK | ((iterate 1 (clear hK K)); apply hK) | ((iterate 2 (clear hK K)); apply hK) | ((iterate 3 (clear hK K)); apply hK) | ((iterate 4 (clear hK K)); apply hK) | ((iterate 5 (clear hK K)); apply hK)); clear hK K)
  refine ret_pure ?_; simp only [resL_tmp, resL_nil, tupOf, go_sem, hD]

set_option maxHeartbeats 2000000 in
set_option maxRecDepth 20000 in
theorem apply_p (n z i : Nat) (l : List D2) (hn : n ≤ 6) (hz : z < 2 ^ n) (h2 : In2 n l) (he : enlI l z = some i) (h64 : l.length ≤ 64) :
    PCall Tryz.prog 67 [TB n (tabL n z), DL l, .sc (.slice none 0 0), .agg [SB false, I64 i, I64 0, I64 1]] (.tup [TB n (tabL n (z ||| (l.getD i d0).2)), I64 0]) := by
  obtain ⟨N, hN, _, hy⟩ := next_pos h2 hz
  rcases hy with ⟨e, _⟩ | ⟨e, hlt, hL, y1, y2⟩
  · rw [he] at e; cases e
  rw [he] at e
  cases e
  have hd := h2 _ (getD_mem d0 hlt)
  obtain ⟨p, q, hpq⟩ : ∃ p q, l.getD i d0 = (p, q) := ⟨_, _, rfl⟩
  have tf : dF l i = [U32 p, U32 q] := by unfold dF; rw [hpq]; rfl
  rw [hpq] at hd y1 y2 ⊢
  simp only at hd y1 y2 ⊢
  have h6 := pow6 hn
  have hn0 : 0 < n := by
    apply Classical.byContradiction
    intro hx
    obtain rfl : n = 0 := by omega
    have : agR 0 (2 ^ 0 - 1) z q = true := rfl
    rw [this] at y2
    cases y2
  have eq := equate_p n z q hn hn0 hz hd.2
  have ag := agree_r n (2 ^ n - 1) z p hn (by omega)
  rw [y1] at ag
  rw [hL]
  generalize tabL n (z ||| q) = R at *
  clear hL y1 y2
  generalize 2 ^ n - 1 = T at *
  have i0 : (0 : Int) ≤ ((i : Nat) : Int) := by omega
  have il : ((i : Nat) : Int) < ((l.length : Nat) : Int) := by omega
  have ie : ((i : Nat) : Int).toNat = i := Int.toNat_natCast _
  have t0 : rF n [T, z] 0 = [NR n T] := rfl
  have t1 : rF n [T, z] 1 = [NR n z] := rfl
  refine Call.enter' (N := 75) (rs := [.cell 8 40, .tmp 9]) Tryz.func67 rfl rfl rfl (by decide) rfl ?_; simp only [argT]; have hD : (0 : Nat) = 0 := rfl
  repeat' first | (with_reducible refine And.intro (by omega) ?_) | (refine SW.seq_k fun K hK => ?_) | (refine SW.block ?_) | ((first | refine SW.region ?_ | refine SW.regionD (Checked.mixed Tryz.checked) (by kernel_rfl) ?_ | refine SW.cond ?_ | refine SW.skip ?_ | refine SW.exit ?_ | refine SW.ret ?_ | refine Call.of_pure (ag) ?_ | refine ⟨_, ag, ?_⟩ | refine Call.of_pure (eq) ?_ | refine ⟨_, eq, ?_⟩ | (refine allF_i fun b hb => ?_; replace hD := And.intro hb hD; clear hb; try simp only [fresh_cons, fresh_nil, and_true, ne_eq, neF] at hD) | simp only [appK, appOsK]); try simp only [go_sem, hD, t0, t1, i0, il, ie, tf]) | (refine And.intro (by omega) ?_) | (refine ifI (fun hc => ?_) (fun hc => ?_) <;> first | (exfalso; omega) | skip) | ((first | apply hK | ((iterate 1 (clear hK K)); apply hK) | ((iterate 2 (clear hK K)); apply hK) | ((iterate 3 (clear hK K)); apply hK) | ((iterate 4 (clear hK K)); apply hK) | ((iterate 5 (clear hK K)); apply hK)); clear hK K)
  apply ret_cell (i := 8) (n := 2); exact rfl; (simp only [go_sem, hD]; try rfl); (first | exact Nat.le_refl _ | decide); simp only [resL_tmp, resL_cellE, resC_ok, resL_nil, tupOf, getN, go_sem, hD]
end Go.Proofs.YtmcmphmhjikgkaaGreatDoor
