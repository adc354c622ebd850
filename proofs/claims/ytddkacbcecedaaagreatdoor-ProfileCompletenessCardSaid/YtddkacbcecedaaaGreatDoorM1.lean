/- Several texts in one: Y0, Y1, Y2, J5, J6, W1, W2, Y3, Y4, Y5, Y6, Q2, Y7, Y8. -/
import Derived.Test.YtddkacbcecedaaaGreatDoorR7
import Derived.Test.YtddkacbcecedaaaGreatDoorR5
import Derived.Test.YtddkacbcecedaaaGreatDoorR3
import Derived.Test.YtddkacbcecedaaaGreatDoorE4
import Derived.Test.YtddkacbcecedaaaGreatDoorH8
import Derived.Test.YtddkacbcecedaaaGreatDoorJ1
import Derived.Test.YtddkacbcecedaaaGreatDoorE3
import Derived.Test.YtddkacbcecedaaaGreatDoorC3
import Derived.Test.YtddkacbcecedaaaGreatDoorI2
import Derived.Test.YtddkacbcecedaaaGreatDoorJ4
import Derived.Laws.Externs
import Derived.Shelf.Spec.BitsCarry
import Derived.Test.YtddkacbcecedaaaGreatDoorH6
import Derived.Test.YtddkacbcecedaaaGreatDoorZ15
/- (seat ZD's numbers) Contracts: the reference's Digits, Quote, Format of a value: law01's (a01 R3 R5 R7), which seat D lacks. -/
set_option linter.unusedSimpArgs false
set_option linter.unusedVariables false
set_option linter.unusedSectionVars false
namespace Go.Proofs.YtddkacbcecedaaaGreatDoor
open Go Go.Ab Go.Ab.A01
variable [Gl] [Tabs]
set_option maxRecDepth 20000 in
theorem digits_n (u : Nat) : u ≤ 9223372036854775807 → PCall Tryz.prog 47 [I64 u] (Str (dec u)) := by
  induction u using Nat.strongRecOn with
  | _ u ih =>
    intro hu
    have c1 : ¬ (u : Int) = -9223372036854775808 := by omega
    have c2 : ¬ (u : Int) < 0 := by omega
    by_cases h : u < 10
    · have c3 : (u : Int) < 10 := by omega
      have e1 : IntKind.i64.wrap ((u : Int) + 1) = ((u + 1 : Nat) : Int) := by rw [i64_wrap (by omega) (by omega)]; omega
      have e2 : ((u + 1 : Nat) : Int).toNat = u + 1 := Int.toNat_natCast _
      have e3 : dec u = ⟨#[UInt8.ofNat (48 + u)]⟩ := by unfold dec; rw [Lib.decDigits_one h]
      have e4 := dec_one ⟨u, h⟩
      simp only at e4
      rw [e3, ← e4]
      clear e3 e4
      refine Call.enter' (N := 24) (rs := [.tmp 2]) Tryz.func47 rfl rfl rfl (by decide) rfl ?_; simp only [argT]; have hD : (0 : Nat) = 0 := rfl
      repeat' first | (with_reducible refine And.intro (by omega) ?_) | (refine SW.seq_k fun K hK => ?_) | (refine SW.block ?_) | ((first | refine SW.region ?_ | refine SW.regionD (Checked.mixed Tryz.checked) (by kernel_rfl) ?_ | refine SW.cond ?_ | refine SW.skip ?_ | refine SW.exit ?_ | refine SW.ret ?_ | (refine allF_i fun b hb => ?_; replace hD := And.intro hb hD; clear hb; try simp only [fresh_cons, fresh_nil, and_true, ne_eq, neF] at hD) | simp only [appK, appOsK]); try simp only [go_sem, hD, c1, c2, c3, e1, e2]) | (refine And.intro (by omega) ?_) | (refine ifI (fun hc => ?_) (fun hc => ?_) <;> first | (exfalso; omega) | skip) | ((first | apply hK | ((iterate 1 (clear hK K)); apply hK) | ((iterate 2 (clear hK K)); apply hK) | ((iterate 3 (clear hK K)); apply hK) | ((iterate 4 (clear hK K)); apply hK) | ((iterate 5 (clear hK K)); apply hK)); clear hK K)
      refine ret_pure ?_; simp only [resL_tmp, resL_nil, tupOf, go_sem, hD]
    · have c3 : ¬ (u : Int) < 10 := by omega
      have q1 : IntKind.i64.wrap (Int.tdiv (u : Int) 10) = ((u / 10 : Nat) : Int) := by
        rw [show Int.tdiv (u : Int) 10 = ((u / 10 : Nat) : Int) from (Int.ofNat_tdiv u 10).symm]
        exact i64_wrap (by omega) (by omega)
      have r1 : Int.tmod (u : Int) 10 = ((u % 10 : Nat) : Int) := (Int.ofNat_tmod u 10).symm
      have i1 := ih (u / 10) (by omega) (by omega)
      have i2 := ih (u % 10) (by omega) (by omega)
      have s1 := Lib.nDigits_le20 (u / 10) (by omega)
      have s2 := Lib.nDigits_le20 (u % 10) (by omega)
      rw [← dec_size] at s1 s2
      rw [← dec_app h]
      refine Call.enter' (N := 24) (rs := [.tmp 2]) Tryz.func47 rfl rfl rfl (by decide) rfl ?_; simp only [argT]; have hD : (0 : Nat) = 0 := rfl
      repeat' first | (with_reducible refine And.intro (by omega) ?_) | (refine SW.seq_k fun K hK => ?_) | (refine SW.block ?_) | ((first | refine SW.region ?_ | refine SW.regionD (Checked.mixed Tryz.checked) (by kernel_rfl) ?_ | refine SW.cond ?_ | refine SW.skip ?_ | refine SW.exit ?_ | refine SW.ret ?_ | refine Call.of_pure (i1) ?_ | refine ⟨_, i1, ?_⟩ | refine Call.of_pure (i2) ?_ | refine ⟨_, i2, ?_⟩ | (refine allF_i fun b hb => ?_; replace hD := And.intro hb hD; clear hb; try simp only [fresh_cons, fresh_nil, and_true, ne_eq, neF] at hD) | simp only [appK, appOsK]); try simp only [go_sem, hD, c1, c2, c3, q1, r1]) | (refine And.intro (by omega) ?_) | (refine ifI (fun hc => ?_) (fun hc => ?_) <;> first | (exfalso; omega) | skip) | ((first | apply hK | ((iterate 1 (clear hK K)); apply hK) | ((iterate 2 (clear hK K)); apply hK) | ((iterate 3 (clear hK K)); apply hK) | ((iterate 4 (clear hK K)); apply hK) | ((iterate 5 (clear hK K)); apply hK)); clear hK K)
      refine ret_pure ?_; simp only [resL_tmp, resL_nil, tupOf, go_sem, hD]
set_option maxRecDepth 20000 in
theorem digits_r (n : Int) (hn : In64 n) : PCall Tryz.prog 47 [I64 n] (Str (itoaS n)) := by
  by_cases h0 : 0 ≤ n
  · have h := digits_n n.toNat (by unfold In64 at hn; omega)
    have e : ((n.toNat : Nat) : Int) = n := by omega
    rw [← itoaS_nat, e] at h
    exact h
  · by_cases hm : n = -9223372036854775808
    · subst hm
      rw [itoaS_min]
      refine Call.enter' (N := 24) (rs := [.tmp 2]) Tryz.func47 rfl rfl rfl (by decide) rfl ?_; simp only [argT]; have hD : (0 : Nat) = 0 := rfl
      repeat' first | (with_reducible refine And.intro (by omega) ?_) | (refine SW.seq_k fun K hK => ?_) | (refine SW.block ?_) | ((first | refine SW.region ?_ | refine SW.regionD (Checked.mixed Tryz.checked) (by kernel_rfl) ?_ | refine SW.cond ?_ | refine SW.skip ?_ | refine SW.exit ?_ | refine SW.ret ?_ | (refine allF_i fun b hb => ?_; replace hD := And.intro hb hD; clear hb; try simp only [fresh_cons, fresh_nil, and_true, ne_eq, neF] at hD) | simp only [appK, appOsK]); try simp only [go_sem, hD]) | (refine And.intro (by omega) ?_) | (refine ifI (fun hc => ?_) (fun hc => ?_) <;> first | (exfalso; omega) | skip) | ((first | apply hK | ((iterate 1 (clear hK K)); apply hK) | ((iterate 2 (clear hK K)); apply hK) | ((iterate 3 (clear hK K)); apply hK) | ((iterate 4 (clear hK K)); apply hK) | ((iterate 5 (clear hK K)); apply hK)); clear hK K)
      refine ret_pure ?_; simp only [resL_tmp, resL_nil, tupOf, go_sem, hD]
    · have h := digits_n n.natAbs (by unfold In64 at hn; omega)
      have e : n = -((n.natAbs : Nat) : Int) := by omega
      have w : IntKind.i64.wrap (0 - n) = ((n.natAbs : Nat) : Int) := by rw [i64_wrap (by unfold In64 at hn; omega) (by unfold In64 at hn; omega)]; omega
      have sz := Lib.nDigits_le20 n.natAbs (by unfold In64 at hn; omega)
      rw [← dec_size] at sz
      have ei : itoaS n = ⟨#[45]⟩ ++ dec n.natAbs := by
        conv => lhs; rw [e]
        exact itoaS_neg _ (by omega)
      rw [ei]
      have c2 : n < 0 := by omega
      refine Call.enter' (N := 24) (rs := [.tmp 2]) Tryz.func47 rfl rfl rfl (by decide) rfl ?_; simp only [argT]; have hD : (0 : Nat) = 0 := rfl
      repeat' first | (with_reducible refine And.intro (by omega) ?_) | (refine SW.seq_k fun K hK => ?_) | (refine SW.block ?_) | ((first | refine SW.region ?_ | refine SW.regionD (Checked.mixed Tryz.checked) (by kernel_rfl) ?_ | refine SW.cond ?_ | refine SW.skip ?_ | refine SW.exit ?_ | refine SW.ret ?_ | refine Call.of_pure (h) ?_ | refine ⟨_, h, ?_⟩ | (refine allF_i fun b hb => ?_; replace hD := And.intro hb hD; clear hb; try simp only [fresh_cons, fresh_nil, and_true, ne_eq, neF] at hD) | simp only [appK, appOsK]); try simp only [go_sem, hD, hm, c2, w]) | (refine And.intro (by omega) ?_) | (refine ifI (fun hc => ?_) (fun hc => ?_) <;> first | (exfalso; omega) | skip) | ((first | apply hK | ((iterate 1 (clear hK K)); apply hK) | ((iterate 2 (clear hK K)); apply hK) | ((iterate 3 (clear hK K)); apply hK) | ((iterate 4 (clear hK K)); apply hK) | ((iterate 5 (clear hK K)); apply hK)); clear hK K)
      refine ret_pure ?_; simp only [resL_tmp, resL_nil, tupOf, go_sem, hD]
set_option maxRecDepth 20000 in
theorem quote_r (s : ByteArray) (hs : s.size ≤ 281474976710656) : PCall Tryz.prog 70 [Str s] (Str (mkB (quoteL s.data.toList))) := by
  have ls : s.data.toList.length = s.size := Array.length_toList
  refine Call.enter' (N := 62) (rs := [.tmp 2]) Tryz.func70 rfl rfl rfl (by decide) rfl ?_; simp only [argT]; have hD : (0 : Nat) = 0 := rfl
  repeat' first | (with_reducible refine And.intro (by omega) ?_) | (refine SW.seq_k fun K hK => ?_) | ((first | refine SW.region ?_ | refine SW.regionD (Checked.mixed Tryz.checked) (by kernel_rfl) ?_ | refine SW.cond ?_ | refine SW.skip ?_ | refine SW.exit ?_ | refine SW.ret ?_ | (refine allF_i fun b hb => ?_; replace hD := And.intro hb hD; clear hb; try simp only [fresh_cons, fresh_nil, and_true, ne_eq, neF] at hD) | simp only [appK, appOsK]); try simp only [go_sem, hD]) | (refine And.intro (by omega) ?_) | (refine ifI (fun hc => ?_) (fun hc => ?_) <;> first | (exfalso; omega) | skip) | ((first | apply hK | ((iterate 1 (clear hK K)); apply hK) | ((iterate 2 (clear hK K)); apply hK) | ((iterate 3 (clear hK K)); apply hK) | ((iterate 4 (clear hK K)); apply hK) | ((iterate 5 (clear hK K)); apply hK)); clear hK K)
  refine SW.block ?_
  obtain ⟨I, hI⟩ : ∃ I : Nat → St → Prop, ∀ k S, I k S ↔ (∃ j : Nat, k = s.size - j ∧ j ≤ s.size ∧ S = ⟨[(0, Str s), (3, Str (accQ s.data.toList j)), (4, I64 j)], []⟩) := ⟨fun k S => _, fun _ _ => Iff.rfl⟩
  refine SW.loop' I s.size ((hI _ _).2 ⟨0, rfl, Nat.zero_le _, rfl⟩) (by repeat' (first | exact rfl | exact trivial | exact int_eq (by omega) | exact int_eq (by (rw [i64_wrap] <;> omega)) | constructor)) ?_
  intro k S hIn
  obtain ⟨j, rfl, hj, rfl⟩ := (hI _ _).1 hIn
  clear hIn
  have ie : ((j : Nat) : Int).toNat = j := Int.toNat_natCast _
  have i0 : (0 : Int) ≤ ((j : Nat) : Int) := by omega
  have sz := accQ_size s.data.toList j
  by_cases h1 : j < s.size
  · have h1i : ((j : Nat) : Int) < ((s.size : Nat) : Int) := by omega
    have w1 : IntKind.i64.wrap ((j : Int) + 1) = ((j + 1 : Nat) : Int) := by rw [i64_wrap (by omega) (by omega)]; omega
    have st := accQ_step (l := s.data.toList) (j := j) (by omega)
    have ex := ext_one h1
    have hc8 := (s.data.toList.getD j 0).toNat_lt
    have q1 : IntKind.u8.wrap (Int.tdiv ((s.data.toList.getD j 0).toNat : Int) 16) = (((s.data.toList.getD j 0).toNat / 16 : Nat) : Int) := by
      rw [show Int.tdiv ((s.data.toList.getD j 0).toNat : Int) 16 = (((s.data.toList.getD j 0).toNat / 16 : Nat) : Int) from (Int.ofNat_tdiv _ 16).symm]
      exact u8n (by omega) (by omega)
    have r1 : Int.tmod ((s.data.toList.getD j 0).toNat : Int) 16 = (((s.data.toList.getD j 0).toNat % 16 : Nat) : Int) := (Int.ofNat_tmod _ 16).symm
    have q2 : IntKind.u8.wrap ((((s.data.toList.getD j 0).toNat / 16 : Nat) : Int) + 1) = (((s.data.toList.getD j 0).toNat / 16 + 1 : Nat) : Int) := by rw [u8n (by omega) (by omega)]; omega
    have r2 : IntKind.u8.wrap ((((s.data.toList.getD j 0).toNat % 16 : Nat) : Int) + 1) = (((s.data.toList.getD j 0).toNat % 16 + 1 : Nat) : Int) := by rw [u8n (by omega) (by omega)]; omega
    have x1 := hex_one ⟨(s.data.toList.getD j 0).toNat / 16, by omega⟩
    have x2 := hex_one ⟨(s.data.toList.getD j 0).toNat % 16, by omega⟩
    have e2 : ((j + 1 : Nat) : Int).toNat = j + 1 := Int.toNat_natCast _
    simp only at x1 x2
    have n1 : (((s.data.toList.getD j 0).toNat / 16 : Nat) : Int).toNat = (s.data.toList.getD j 0).toNat / 16 := Int.toNat_natCast _
    have n2 : (((s.data.toList.getD j 0).toNat % 16 : Nat) : Int).toNat = (s.data.toList.getD j 0).toNat % 16 := Int.toNat_natCast _
    have n3 : (((s.data.toList.getD j 0).toNat / 16 + 1 : Nat) : Int).toNat = (s.data.toList.getD j 0).toNat / 16 + 1 := Int.toNat_natCast _
    have n4 : (((s.data.toList.getD j 0).toNat % 16 + 1 : Nat) : Int).toNat = (s.data.toList.getD j 0).toNat % 16 + 1 := Int.toNat_natCast _
    have y1 := mkB_size [hexd ((s.data.toList.getD j 0).toNat / 16)]
    have y2 := mkB_size [hexd ((s.data.toList.getD j 0).toNat % 16)]
    have y3 := mkB_size [s.data.toList.getD j 0]
    repeat' first | (with_reducible refine And.intro (by omega) ?_) | (refine SW.seq_k fun K hK => ?_) | (refine SW.block ?_) | ((first | refine SW.region ?_ | refine SW.regionZ (id := 14) (Checked.mixed Tryz.checked) ((.one 0 [0, 15, 16] (.one 1 [1, 2, 6, 7, 14, 15, 16] (.one 2 [2, 6, 7, 14, 15, 16] (.one 3 [3, 4, 5, 6, 7, 14, 15, 16] (.one 4 [4, 5, 6, 7, 14, 15, 16] (.one 5 [5, 6, 7, 14, 15, 16] (.one 6 [6, 7, 14, 15, 16] (.one 7 [7, 14, 15, 16] (.one 8 [8, 9, 13, 14, 15, 16] (.one 9 [9, 13, 14, 15, 16] (.one 10 [10, 11, 12, 13, 14, 15, 16] (.one 11 [11, 12, 13, 14, 15, 16] (.one 12 [12, 13, 14, 15, 16] (.one 13 [13, 14, 15, 16] (.one 14 [14, 15, 16] (.one 15 [15, 16] (.one 16 [16] .done))))))))))))))))) : OZ) (by kernel_rfl) ?_ | refine SW.regionD (Checked.mixed Tryz.checked) (by kernel_rfl) ?_ | refine SW.cond ?_ | refine SW.skip ?_ | refine SW.exit ?_ | refine SW.ret ?_ | (refine allF_i fun b hb => ?_; replace hD := And.intro hb hD; clear hb; try simp only [fresh_cons, fresh_nil, and_true, ne_eq, neF] at hD) | simp only [appK, appOsK]); try simp only [go_sem, hD, h1i, ie, i0, w1, e2, q1, r1, q2, r2, n1, n2, n3, n4, x1, x2, ex, y1, y2, y3]) | (refine And.intro (by omega) ?_) | (refine ifI (fun hc => ?_) (fun hc => ?_) <;> first | (exfalso; omega) | skip) | ((first | apply hK | ((iterate 1 (clear hK K)); apply hK) | ((iterate 2 (clear hK K)); apply hK) | ((iterate 3 (clear hK K)); apply hK) | ((iterate 4 (clear hK K)); apply hK) | ((iterate 5 (clear hK K)); apply hK)); clear hK K) | (refine And.intro ?_ ?_)
    all_goals refine Rnd.sub (s.size - (j + 1)) (by omega) ((hI _ _).2 ⟨j + 1, rfl, by omega, rfl⟩) ?_
    all_goals repeat' (first | exact rfl | exact trivial | (refine str_eq ?_) | constructor)
    all_goals rw [st]
    · rw [q_34 (by omega)]
    · rw [q_92 (by omega)]
    · rw [q_10 (by omega)]
    · rw [q_hex (by omega)]
      rfl
    · rw [q_hex (by omega)]
      rfl
    · rw [q_plain (by omega)]
  · have h1i : ¬ ((j : Nat) : Int) < ((s.size : Nat) : Int) := by omega
    have e : accQ s.data.toList j ++ _ = _ := accQ_end (l := s.data.toList) (j := j) (by omega)
    repeat' first | (with_reducible refine And.intro (by omega) ?_) | (refine SW.seq_k fun K hK => ?_) | (refine SW.block ?_) | ((first | refine SW.region ?_ | refine SW.regionZ (id := 14) (Checked.mixed Tryz.checked) ((.one 0 [0, 15, 16] (.one 1 [1, 2, 6, 7, 14, 15, 16] (.one 2 [2, 6, 7, 14, 15, 16] (.one 3 [3, 4, 5, 6, 7, 14, 15, 16] (.one 4 [4, 5, 6, 7, 14, 15, 16] (.one 5 [5, 6, 7, 14, 15, 16] (.one 6 [6, 7, 14, 15, 16] (.one 7 [7, 14, 15, 16] (.one 8 [8, 9, 13, 14, 15, 16] (.one 9 [9, 13, 14, 15, 16] (.one 10 [10, 11, 12, 13, 14, 15, 16] (.one 11 [11, 12, 13, 14, 15, 16] (.one 12 [12, 13, 14, 15, 16] (.one 13 [13, 14, 15, 16] (.one 14 [14, 15, 16] (.one 15 [15, 16] (.one 16 [16] .done))))))))))))))))) : OZ) (by kernel_rfl) ?_ | refine SW.regionD (Checked.mixed Tryz.checked) (by kernel_rfl) ?_ | refine SW.cond ?_ | refine SW.skip ?_ | refine SW.exit ?_ | refine SW.ret ?_ | (refine allF_i fun b hb => ?_; replace hD := And.intro hb hD; clear hb; try simp only [fresh_cons, fresh_nil, and_true, ne_eq, neF] at hD) | simp only [appK, appOsK]); try simp only [go_sem, hD, h1i]) | (refine And.intro (by omega) ?_) | (refine ifI (fun hc => ?_) (fun hc => ?_) <;> first | (exfalso; omega) | skip) | ((first | apply hK | ((iterate 1 (clear hK K)); apply hK) | ((iterate 2 (clear hK K)); apply hK) | ((iterate 3 (clear hK K)); apply hK) | ((iterate 4 (clear hK K)); apply hK) | ((iterate 5 (clear hK K)); apply hK)); clear hK K) | (refine And.intro ?_ ?_)
    refine ret_pure ?_; simp only [resL_tmp, resL_nil, tupOf, go_sem, hD]
    exact congrArg (fun x => SV.sc (Value.string x)) e
set_option maxRecDepth 20000 in
theorem format_r (k n : Int) (s : ByteArray) (hn : In64 n) : PCall Tryz.prog 48 [VS k n s] (.tup [Str (fmtV k n s).1, I64 (fmtV k n s).2]) := by
  have v := valid_r k n s
  have f1 := digits_r n hn
  have s1 := itoaS_size n hn
  cases hv : vok k n s with
  | false =>
    rw [hv] at v
    have e : fmtV k n s = (⟨#[]⟩, 1) := by rw [fmtV, if_neg (by rw [hv]; simp)]
    rw [e]
    refine Call.enter' (N := 25) (rs := [.tmp 2, .tmp 3]) Tryz.func48 rfl rfl rfl (by decide) rfl ?_; simp only [argT]; have hD : (0 : Nat) = 0 := rfl
    repeat' first | (with_reducible refine And.intro (by omega) ?_) | (refine SW.seq_k fun K hK => ?_) | (refine SW.block ?_) | ((first | refine SW.region ?_ | refine SW.regionD (Checked.mixed Tryz.checked) (by kernel_rfl) ?_ | refine SW.cond ?_ | refine SW.skip ?_ | refine SW.exit ?_ | refine SW.ret ?_ | refine Call.of_pure (v) ?_ | refine ⟨_, v, ?_⟩ | (refine allF_i fun b hb => ?_; replace hD := And.intro hb hD; clear hb; try simp only [fresh_cons, fresh_nil, and_true, ne_eq, neF] at hD) | simp only [appK, appOsK]); try simp only [go_sem, hD]) | (refine And.intro (by omega) ?_) | (refine ifI (fun hc => ?_) (fun hc => ?_) <;> first | (exfalso; omega) | skip) | ((first | apply hK | ((iterate 1 (clear hK K)); apply hK) | ((iterate 2 (clear hK K)); apply hK) | ((iterate 3 (clear hK K)); apply hK) | ((iterate 4 (clear hK K)); apply hK) | ((iterate 5 (clear hK K)); apply hK)); clear hK K)
    refine ret_pure ?_; simp only [resL_tmp, resL_nil, tupOf, go_sem, hD]
  | true =>
    rw [hv] at v
    have e : fmtV k n s = (fmtS k n s, 0) := by rw [fmtV, if_pos hv]
    rw [e]
    clear e
    unfold fmtS
    rcases vok_kind hv with rfl | rfl | ⟨rfl, hs⟩ | rfl
    · rw [if_pos rfl]
      refine Call.enter' (N := 25) (rs := [.tmp 2, .tmp 3]) Tryz.func48 rfl rfl rfl (by decide) rfl ?_; simp only [argT]; have hD : (0 : Nat) = 0 := rfl
      repeat' first | (with_reducible refine And.intro (by omega) ?_) | (refine SW.seq_k fun K hK => ?_) | (refine SW.block ?_) | ((first | refine SW.region ?_ | refine SW.regionD (Checked.mixed Tryz.checked) (by kernel_rfl) ?_ | refine SW.cond ?_ | refine SW.skip ?_ | refine SW.exit ?_ | refine SW.ret ?_ | refine Call.of_pure (v) ?_ | refine ⟨_, v, ?_⟩ | refine Call.of_pure (f1) ?_ | refine ⟨_, f1, ?_⟩ | (refine allF_i fun b hb => ?_; replace hD := And.intro hb hD; clear hb; try simp only [fresh_cons, fresh_nil, and_true, ne_eq, neF] at hD) | simp only [appK, appOsK]); try simp only [go_sem, hD]) | (refine And.intro (by omega) ?_) | (refine ifI (fun hc => ?_) (fun hc => ?_) <;> first | (exfalso; omega) | skip) | ((first | apply hK | ((iterate 1 (clear hK K)); apply hK) | ((iterate 2 (clear hK K)); apply hK) | ((iterate 3 (clear hK K)); apply hK) | ((iterate 4 (clear hK K)); apply hK) | ((iterate 5 (clear hK K)); apply hK)); clear hK K)
      refine ret_pure ?_; simp only [resL_tmp, resL_nil, tupOf, go_sem, hD]
    · rw [if_neg (by decide), if_pos rfl]
      refine Call.enter' (N := 25) (rs := [.tmp 2, .tmp 3]) Tryz.func48 rfl rfl rfl (by decide) rfl ?_; simp only [argT]; have hD : (0 : Nat) = 0 := rfl
      repeat' first | (with_reducible refine And.intro (by omega) ?_) | (refine SW.seq_k fun K hK => ?_) | (refine SW.block ?_) | ((first | refine SW.region ?_ | refine SW.regionD (Checked.mixed Tryz.checked) (by kernel_rfl) ?_ | refine SW.cond ?_ | refine SW.skip ?_ | refine SW.exit ?_ | refine SW.ret ?_ | refine Call.of_pure (v) ?_ | refine ⟨_, v, ?_⟩ | refine Call.of_pure (f1) ?_ | refine ⟨_, f1, ?_⟩ | (refine allF_i fun b hb => ?_; replace hD := And.intro hb hD; clear hb; try simp only [fresh_cons, fresh_nil, and_true, ne_eq, neF] at hD) | simp only [appK, appOsK]); try simp only [go_sem, hD]) | (refine And.intro (by omega) ?_) | (refine ifI (fun hc => ?_) (fun hc => ?_) <;> first | (exfalso; omega) | skip) | ((first | apply hK | ((iterate 1 (clear hK K)); apply hK) | ((iterate 2 (clear hK K)); apply hK) | ((iterate 3 (clear hK K)); apply hK) | ((iterate 4 (clear hK K)); apply hK) | ((iterate 5 (clear hK K)); apply hK)); clear hK K)
      refine ret_pure ?_; simp only [resL_tmp, resL_nil, tupOf, go_sem, hD]
    · rw [if_neg (by decide), if_neg (by decide), if_pos rfl]
      have f2 := quote_r s (by omega)
      refine Call.enter' (N := 25) (rs := [.tmp 2, .tmp 3]) Tryz.func48 rfl rfl rfl (by decide) rfl ?_; simp only [argT]; have hD : (0 : Nat) = 0 := rfl
      repeat' first | (with_reducible refine And.intro (by omega) ?_) | (refine SW.seq_k fun K hK => ?_) | (refine SW.block ?_) | ((first | refine SW.region ?_ | refine SW.regionD (Checked.mixed Tryz.checked) (by kernel_rfl) ?_ | refine SW.cond ?_ | refine SW.skip ?_ | refine SW.exit ?_ | refine SW.ret ?_ | refine Call.of_pure (v) ?_ | refine ⟨_, v, ?_⟩ | refine Call.of_pure (f1) ?_ | refine ⟨_, f1, ?_⟩ | refine Call.of_pure (f2) ?_ | refine ⟨_, f2, ?_⟩ | (refine allF_i fun b hb => ?_; replace hD := And.intro hb hD; clear hb; try simp only [fresh_cons, fresh_nil, and_true, ne_eq, neF] at hD) | simp only [appK, appOsK]); try simp only [go_sem, hD]) | (refine And.intro (by omega) ?_) | (refine ifI (fun hc => ?_) (fun hc => ?_) <;> first | (exfalso; omega) | skip) | ((first | apply hK | ((iterate 1 (clear hK K)); apply hK) | ((iterate 2 (clear hK K)); apply hK) | ((iterate 3 (clear hK K)); apply hK) | ((iterate 4 (clear hK K)); apply hK) | ((iterate 5 (clear hK K)); apply hK)); clear hK K)
      refine ret_pure ?_; simp only [resL_tmp, resL_nil, tupOf, go_sem, hD]
    · rw [if_neg (by decide), if_neg (by decide), if_neg (by decide)]
      refine Call.enter' (N := 25) (rs := [.tmp 2, .tmp 3]) Tryz.func48 rfl rfl rfl (by decide) rfl ?_; simp only [argT]; have hD : (0 : Nat) = 0 := rfl
      repeat' first | (with_reducible refine And.intro (by omega) ?_) | (refine SW.seq_k fun K hK => ?_) | (refine SW.block ?_) | ((first | refine SW.region ?_ | refine SW.regionD (Checked.mixed Tryz.checked) (by kernel_rfl) ?_ | refine SW.cond ?_ | refine SW.skip ?_ | refine SW.exit ?_ | refine SW.ret ?_ | refine Call.of_pure (v) ?_ | refine ⟨_, v, ?_⟩ | refine Call.of_pure (f1) ?_ | refine ⟨_, f1, ?_⟩ | (refine allF_i fun b hb => ?_; replace hD := And.intro hb hD; clear hb; try simp only [fresh_cons, fresh_nil, and_true, ne_eq, neF] at hD) | simp only [appK, appOsK]); try simp only [go_sem, hD]) | (refine And.intro (by omega) ?_) | (refine ifI (fun hc => ?_) (fun hc => ?_) <;> first | (exfalso; omega) | skip) | ((first | apply hK | ((iterate 1 (clear hK K)); apply hK) | ((iterate 2 (clear hK K)); apply hK) | ((iterate 3 (clear hK K)); apply hK) | ((iterate 4 (clear hK K)); apply hK) | ((iterate 5 (clear hK K)); apply hK)); clear hK K)
      refine ret_pure ?_; simp only [resL_tmp, resL_nil, tupOf, go_sem, hD]
end Go.Proofs.YtddkacbcecedaaaGreatDoor
/- (seat ZD's numbers) Contracts: the reference's number, text, Format. -/
set_option linter.unusedSimpArgs false
set_option linter.unusedVariables false
set_option linter.unusedSectionVars false
namespace Go.Ab.A34
open Go Go.Ab Go.Proofs
theorem ba_app (l : List UInt8) (s : ByteArray) : (⟨l.toArray⟩ : ByteArray) ++ s = ⟨(l ++ s.data.toList).toArray⟩ := by
  refine ba_ext ?_
  simp
/-- A line, as the reference puts it together. -/
theorem line_app (l : List UInt8) (a : ByteArray) (c : Co) :
    (⟨l.toArray⟩ : ByteArray) ++ a ++ numS wRows c.rows ++ numS wNulls c.nulls ++ numS wDist c.distinct ++ numS wNums c.numbers ++ numS wTexts c.texts ++ ⟨#[32, 108, 101, 97, 115, 116, 32]⟩ ++ (fmtV c.least.1 c.least.2.1 c.least.2.2).1
      ++ ⟨#[32, 103, 114, 101, 97, 116, 101, 115, 116, 32]⟩ ++ (fmtV c.greatest.1 c.greatest.2.1 c.greatest.2.2).1 ++ ⟨#[32, 99, 111, 109, 109, 111, 110, 32]⟩ ++ (fmtV c.common.1 c.common.2.1 c.common.2.2).1 ++ numS wTimes c.times ++ ⟨#[10]⟩
    = ⟨(lineS l a c).toArray⟩ := by
  refine ba_ext ?_
  unfold lineS txtS sp wLeast wGreat wComm
  simp
end Go.Ab.A34
namespace Go.Proofs.YtddkacbcecedaaaGreatDoor
open Go Go.Ab Go.Ab.A34 Go.Ab.A01
variable [Gl] [Tabs]
theorem number_r (w : ByteArray) (n : Int) (h : In64 n) (hw : w.size ≤ 1000) : PCall Tryz.prog 24 [Str w, I64 n] (Str (numS w n)) := by
  have dg := digits_r n h
  have hz := itoaS_size n h
  unfold numS sp
  refine Call.enter' (N := 11) (rs := [.tmp 4]) Tryz.func24 rfl rfl rfl (by decide) rfl ?_; simp only [argT]; have hD : (0 : Nat) = 0 := rfl
  repeat' first | (with_reducible refine And.intro (by omega) ?_) | (refine SW.seq_k fun K hK => ?_) | (refine SW.block ?_) | ((first | refine SW.region ?_ | refine SW.regionD (Checked.mixed Tryz.checked) (by kernel_rfl) ?_ | refine SW.cond ?_ | refine SW.skip ?_ | refine SW.exit ?_ | refine SW.ret ?_ | refine Call.of_pure (dg) ?_ | refine ⟨_, dg, ?_⟩ | (refine allF_i fun b hb => ?_; replace hD := And.intro hb hD; clear hb; try simp only [fresh_cons, fresh_nil, and_true, ne_eq, neF] at hD) | simp only [appK, appOsK]); try simp only [go_sem, hD]) | (refine And.intro (by omega) ?_) | (refine ifI (fun hc => ?_) (fun hc => ?_) <;> first | (exfalso; omega) | skip) | ((first | apply hK | ((iterate 1 (clear hK K)); apply hK) | ((iterate 2 (clear hK K)); apply hK) | ((iterate 3 (clear hK K)); apply hK) | ((iterate 4 (clear hK K)); apply hK) | ((iterate 5 (clear hK K)); apply hK)); clear hK K)
  refine ret_pure ?_; simp only [resL_tmp, resL_nil, tupOf, go_sem, hD]
theorem text_r (k n : Int) (s : ByteArray) (h : In64 n) : PCall Tryz.prog 25 [VS k n s] (Str (fmtV k n s).1) := by
  have fm := format_r k n s h
  generalize fmtV k n s = p at *
  refine Call.enter' (N := 11) (rs := [.tmp 2]) Tryz.func25 rfl rfl rfl (by decide) rfl ?_; simp only [argT]; have hD : (0 : Nat) = 0 := rfl
  repeat' first | (with_reducible refine And.intro (by omega) ?_) | (refine SW.seq_k fun K hK => ?_) | (refine SW.block ?_) | ((first | refine SW.region ?_ | refine SW.regionD (Checked.mixed Tryz.checked) (by kernel_rfl) ?_ | refine SW.cond ?_ | refine SW.skip ?_ | refine SW.exit ?_ | refine SW.ret ?_ | refine Call.of_pure (fm) ?_ | refine ⟨_, fm, ?_⟩ | (refine allF_i fun b hb => ?_; replace hD := And.intro hb hD; clear hb; try simp only [fresh_cons, fresh_nil, and_true, ne_eq, neF] at hD) | simp only [appK, appOsK]); try simp only [go_sem, hD]) | (refine And.intro (by omega) ?_) | (refine ifI (fun hc => ?_) (fun hc => ?_) <;> first | (exfalso; omega) | skip) | ((first | apply hK | ((iterate 1 (clear hK K)); apply hK) | ((iterate 2 (clear hK K)); apply hK) | ((iterate 3 (clear hK K)); apply hK) | ((iterate 4 (clear hK K)); apply hK) | ((iterate 5 (clear hK K)); apply hK)); clear hK K)
  refine ret_pure ?_; simp only [resL_tmp, resL_nil, tupOf, go_sem, hD]
theorem formatR_bad (t : Tb) (hv : ∀ r ∈ t.rows, r.2.length ≤ 9223372036854775807) (h : ¬ validS t = 0) : PCall Tryz.prog 8 [TB t] (.tup [Str ⟨#[]⟩, I64 (validS t)]) := by
  have va := valid_tr t hv
  generalize validS t = e at *
  refine Call.enter' (N := 76) (rs := [.tmp 2, .tmp 3]) Tryz.func8 rfl rfl rfl (by decide) rfl ?_; simp only [argT]; have hD : (0 : Nat) = 0 := rfl
  repeat' first | (with_reducible refine And.intro (by omega) ?_) | (refine SW.seq_k fun K hK => ?_) | (refine SW.block ?_) | ((first | refine SW.region ?_ | refine SW.regionD (Checked.mixed Tryz.checked) (by kernel_rfl) ?_ | refine SW.cond ?_ | refine SW.skip ?_ | refine SW.exit ?_ | refine SW.ret ?_ | refine Call.of_pure (va) ?_ | refine ⟨_, va, ?_⟩ | (refine allF_i fun b hb => ?_; replace hD := And.intro hb hD; clear hb; try simp only [fresh_cons, fresh_nil, and_true, ne_eq, neF] at hD) | simp only [appK, appOsK]); try simp only [go_sem, hD, h]) | (refine And.intro (by omega) ?_) | (refine ifI (fun hc => ?_) (fun hc => ?_) <;> first | (exfalso; omega) | skip) | ((first | apply hK | ((iterate 1 (clear hK K)); apply hK) | ((iterate 2 (clear hK K)); apply hK) | ((iterate 3 (clear hK K)); apply hK) | ((iterate 4 (clear hK K)); apply hK) | ((iterate 5 (clear hK K)); apply hK)); clear hK K)
  refine ret_pure ?_; simp only [resL_tmp, resL_nil, tupOf, go_sem, hD]
end Go.Proofs.YtddkacbcecedaaaGreatDoor
/- (seat ZD's numbers) Contracts: the reference's Format; the law. -/
set_option linter.unusedSimpArgs false
set_option linter.unusedVariables false
set_option linter.unusedSectionVars false
namespace Go.Proofs.YtddkacbcecedaaaGreatDoor
open Go Go.Ab Go.Ab.A34 Go.Ab.A01
variable [Gl] [Tabs]

theorem txt_size2 (s : ByteArray) (v : V3) (hv : okT v) (hs : s.size ≤ 100) : (txtS s v).size ≤ 2000 := by
  have := fmt_size v hv.1 hv.2
  unfold txtS sp
  simp only [ByteArray.size_append]
  have e : (⟨#[32]⟩ : ByteArray).size = 1 := rfl
  omega
theorem lines_len (ats : List ByteArray) (L : List Co) (hat : ∀ a ∈ ats, 1 ≤ a.size ∧ a.size ≤ 24) (hco : ∀ c ∈ L, OkCo c) (hL : L.length = ats.length) : ∀ i, i ≤ ats.length → (linesS ats L i).length ≤ 20000 * i
  | 0, _ => Nat.le_refl 0
  | i + 1, h => by
    have ih := lines_len ats L hat hco hL i (by omega)
    obtain ⟨o1, o2, o3, o4, o5, o6, o7, o8, o9⟩ := hco (L.getD i co0) (getD_mem co0 (by omega))
    have ha := hat _ (getD_mem (⟨#[]⟩ : ByteArray) (show i < ats.length by omega))
    have n1 := num_size wRows _ o1 (by decide)
    have n2 := num_size wNulls _ o2 (by decide)
    have n3 := num_size wDist _ o3 (by decide)
    have n4 := num_size wNums _ o4 (by decide)
    have n5 := num_size wTexts _ o5 (by decide)
    have n6 := num_size wTimes _ o6 (by decide)
    have t1 := txt_size2 wLeast _ o7 (by decide)
    have t2 := txt_size2 wGreat _ o8 (by decide)
    have t3 := txt_size2 wComm _ o9 (by decide)
    show (lineS (linesS ats L i) (ats.getD i ⟨#[]⟩) (L.getD i co0)).length ≤ _
    unfold lineS
    simp only [List.length_append, len_list]
    have e2 : ((#[10] : Array UInt8).toList).length = 1 := rfl
    have e3 : ([10] : List UInt8).length = 1 := rfl
    have e4 : (#[10] : Array UInt8).size = 1 := rfl
    have e5 : ((⟨#[10]⟩ : ByteArray).data.toList).length = 1 := rfl
    have e : (⟨#[10]⟩ : ByteArray).size = 1 := rfl
    omega

set_option maxHeartbeats 2000000 in
set_option maxRecDepth 20000 in
theorem formatR_r (t : Tb) (h : validS t = 0) (L : List Co) (hL : L = (List.range t.attrs.length).map (profS t)) (hco : ∀ c ∈ L, OkCo c) (hat : ∀ a ∈ t.attrs, 1 ≤ a.size ∧ a.size ≤ 24) :
    PCall Tryz.prog 8 [TB t] (.tup [Str ⟨(linesS t.attrs L t.attrs.length).toArray⟩, I64 0]) := by
  obtain ⟨r1, r2, r3⟩ := valid_rows h
  have va := valid_tr t (fun r hr => by have := (r3 r hr).1; omega)
  rw [h] at va
  have oo : ∀ i, i < t.attrs.length → PCall Tryz.prog 23 [TB t, I64 i] (.tup [CO (L.getD i co0), I64 0]) := fun i hi => by
    have e : L.getD i co0 = profS t i := by rw [hL]; simp [List.getD_eq_getElem?_getD, hi]
    rw [e]
    refine of_r t i ?_
    unfold chkS
    rw [if_pos h, if_neg (by omega)]
  have hLl : L.length = t.attrs.length := by rw [hL]; simp
  clear hL
  obtain ⟨nm, ats, l⟩ := t
  simp only at r1 r2 r3 oo hLl hat ⊢
  have hsz := lines_len ats L hat hco hLl
  obtain ⟨X, hX⟩ : ∃ X, X = linesS ats L ats.length := ⟨_, rfl⟩
  rw [← hX]
  refine Call.enter' (N := 76) (rs := [.tmp 2, .tmp 3]) Tryz.func8 rfl rfl rfl (by decide) rfl ?_; simp only [argT]; have hD : (0 : Nat) = 0 := rfl
  repeat' first | (with_reducible refine And.intro (by omega) ?_) | (refine SW.seq_k fun K hK => ?_) | (refine SW.block ?_) | ((first | refine SW.region ?_ | refine SW.regionD (Checked.mixed Tryz.checked) (by kernel_rfl) ?_ | refine SW.cond ?_ | refine SW.skip ?_ | refine SW.exit ?_ | refine SW.ret ?_ | refine Call.of_pure (va) ?_ | refine ⟨_, va, ?_⟩ | (refine allF_i fun b hb => ?_; replace hD := And.intro hb hD; clear hb; try simp only [fresh_cons, fresh_nil, and_true, ne_eq, neF] at hD) | simp only [appK, appOsK]); try simp only [go_sem, hD]) | (refine And.intro (by omega) ?_) | (refine ifI (fun hc => ?_) (fun hc => ?_) <;> first | (exfalso; omega) | skip) | ((first | apply hK | ((iterate 1 (clear hK K)); apply hK) | ((iterate 2 (clear hK K)); apply hK) | ((iterate 3 (clear hK K)); apply hK) | ((iterate 4 (clear hK K)); apply hK) | ((iterate 5 (clear hK K)); apply hK)); clear hK K)
  obtain ⟨tb, rfl⟩ : ∃ x, x = b := ⟨_, rfl⟩
  obtain ⟨I, hI⟩ : ∃ I : Nat → St → Prop, ∀ k S, I k S ↔ (∃ (i : Nat) , k = ats.length - i ∧ i ≤ ats.length ∧ S = ⟨[(1, .op tb 0), (5, Str ⟨(linesS ats L i).toArray⟩), (6, I64 i)], [(tb, .svs [Str nm, SL ats, RL l])]⟩) := ⟨fun k S => _, fun _ _ => Iff.rfl⟩
  refine SW.loop' I (ats.length) ((hI _ _).2 ⟨0, rfl, Nat.zero_le _, rfl⟩) (by repeat' (first | exact rfl | exact trivial | exact int_eq (by omega) | exact int_eq (by (rw [i64_wrap] <;> omega)) | constructor)) ?_
  intro k S hIn
  obtain ⟨i, rfl, hi, rfl⟩ := (hI _ _).1 hIn
  clear hIn
  have ie : ((i : Nat) : Int).toNat = i := Int.toNat_natCast _
  have i0 : (0 : Int) ≤ ((i : Nat) : Int) := by omega
  by_cases hlt : i < ats.length
  · have hli : ((i : Nat) : Int) < (((ats.length) : Nat) : Int) := by omega
    have w1 : IntKind.i64.wrap ((i : Int) + 1) = ((i + 1 : Nat) : Int) := by rw [i64_wrap (by omega) (by omega)]; omega
    have oi := oo i hlt
    have hco' := hco (L.getD i co0) (getD_mem co0 (by omega))
    have hl := line_app (linesS ats L i) (ats.getD i ⟨#[]⟩) (L.getD i co0)
    rw [show lineS (linesS ats L i) (ats.getD i ⟨#[]⟩) (L.getD i co0) = linesS ats L (i + 1) from rfl] at hl
    have z0 := hsz i (by omega)
    have z1 : (⟨(linesS ats L i).toArray⟩ : ByteArray).size = (linesS ats L i).length := by simp [ByteArray.size]
    have z2 := hat _ (getD_mem (⟨#[]⟩ : ByteArray) hlt)
    have ta : sF ats i = [Str (ats.getD i ⟨#[]⟩)] := rfl
    obtain ⟨o1, o2, o3, o4, o5, o6, o7, o8, o9⟩ := hco'
    have y1 := num_size wRows _ o1 (by decide)
    have y2 := num_size wNulls _ o2 (by decide)
    have y3 := num_size wDist _ o3 (by decide)
    have y4 := num_size wNums _ o4 (by decide)
    have y5 := num_size wTexts _ o5 (by decide)
    have y6 := num_size wTimes _ o6 (by decide)
    have x1 := fmt_size _ o7.1 o7.2
    have x2 := fmt_size _ o8.1 o8.2
    have x3 := fmt_size _ o9.1 o9.2
    have n1 := number_r wRows (L.getD i co0).rows (by assumption) (by decide)
    have n2 := number_r wNulls (L.getD i co0).nulls (by assumption) (by decide)
    have n3 := number_r wDist (L.getD i co0).distinct (by assumption) (by decide)
    have n4 := number_r wNums (L.getD i co0).numbers (by assumption) (by decide)
    have n5 := number_r wTexts (L.getD i co0).texts (by assumption) (by decide)
    have n6 := number_r wTimes (L.getD i co0).times (by assumption) (by decide)
    have t1 := text_r (L.getD i co0).least.1 (L.getD i co0).least.2.1 (L.getD i co0).least.2.2 o7.2
    have t2 := text_r (L.getD i co0).greatest.1 (L.getD i co0).greatest.2.1 (L.getD i co0).greatest.2.2 o8.2
    have t3 := text_r (L.getD i co0).common.1 (L.getD i co0).common.2.1 (L.getD i co0).common.2.2 o9.2
    repeat' first | (with_reducible refine And.intro (by omega) ?_) | (refine SW.seq_k fun K hK => ?_) | (refine SW.block ?_) | ((first | refine SW.region ?_ | refine SW.regionD (Checked.mixed Tryz.checked) (by kernel_rfl) ?_ | refine SW.cond ?_ | refine SW.skip ?_ | refine SW.exit ?_ | refine SW.ret ?_ | refine Call.of_pure (oi) ?_ | refine ⟨_, oi, ?_⟩ | refine Call.of_pure (n1) ?_ | refine ⟨_, n1, ?_⟩ | refine Call.of_pure (n2) ?_ | refine ⟨_, n2, ?_⟩ | refine Call.of_pure (n3) ?_ | refine ⟨_, n3, ?_⟩ | refine Call.of_pure (n4) ?_ | refine ⟨_, n4, ?_⟩ | refine Call.of_pure (n5) ?_ | refine ⟨_, n5, ?_⟩ | refine Call.of_pure (n6) ?_ | refine ⟨_, n6, ?_⟩ | refine Call.of_pure (t1) ?_ | refine ⟨_, t1, ?_⟩ | refine Call.of_pure (t2) ?_ | refine ⟨_, t2, ?_⟩ | refine Call.of_pure (t3) ?_ | refine ⟨_, t3, ?_⟩ | (refine allF_i fun b hb => ?_; replace hD := And.intro hb hD; clear hb; try simp only [fresh_cons, fresh_nil, and_true, ne_eq, neF] at hD) | simp only [appK, appOsK]); try simp only [go_sem, hD, hli, ie, i0, w1, ta, true_implies]) | (refine And.intro (by omega) ?_) | (refine ifI (fun hc => ?_) (fun hc => ?_) <;> first | (exfalso; omega) | skip) | ((first | apply hK | ((iterate 1 (clear hK K)); apply hK) | ((iterate 2 (clear hK K)); apply hK) | ((iterate 3 (clear hK K)); apply hK) | ((iterate 4 (clear hK K)); apply hK) | ((iterate 5 (clear hK K)); apply hK)); clear hK K)
    all_goals
      rw [hl]
      refine Rnd.le (St.le_only ?_) (Rnd.sub (ats.length - (i + 1)) (by omega) ((hI _ _).2 ⟨i + 1, rfl, by omega, rfl⟩) (by repeat' (first | exact rfl | exact trivial | exact int_eq (by omega) | exact int_eq (by (rw [i64_wrap] <;> omega)) | constructor)))
      repeat (first | exact List.mem_cons_self | apply List.mem_cons_of_mem)
  · have hli : ¬ ((i : Nat) : Int) < (((ats.length) : Nat) : Int) := by omega
    obtain rfl : i = ats.length := by omega
    rw [← hX]
    repeat' first | (with_reducible refine And.intro (by omega) ?_) | (refine SW.seq_k fun K hK => ?_) | (refine SW.block ?_) | ((first | refine SW.region ?_ | refine SW.regionD (Checked.mixed Tryz.checked) (by kernel_rfl) ?_ | refine SW.cond ?_ | refine SW.skip ?_ | refine SW.exit ?_ | refine SW.ret ?_ | (refine allF_i fun b hb => ?_; replace hD := And.intro hb hD; clear hb; try simp only [fresh_cons, fresh_nil, and_true, ne_eq, neF] at hD) | simp only [appK, appOsK]); try simp only [go_sem, hD, hli, true_implies]) | (refine And.intro (by omega) ?_) | (refine ifI (fun hc => ?_) (fun hc => ?_) <;> first | (exfalso; omega) | skip) | ((first | apply hK | ((iterate 1 (clear hK K)); apply hK) | ((iterate 2 (clear hK K)); apply hK) | ((iterate 3 (clear hK K)); apply hK) | ((iterate 4 (clear hK K)); apply hK) | ((iterate 5 (clear hK K)); apply hK)); clear hK K)
    refine ret_pure ?_; simp only [resL_tmp, resL_nil, tupOf, go_sem, hD]
end Go.Proofs.YtddkacbcecedaaaGreatDoor
/- Contracts: Column, Find, slices.Equal. -/
set_option linter.unusedSimpArgs false
set_option linter.unusedVariables false
set_option linter.unusedSectionVars false
namespace Go.Ab.A34
open Go Go.Ab Go.Proofs
def cellR (l : List Int) (j : Nat) : R3 := (((j + 1 : Nat) : Int), [(1, l.getD j 0, ⟨#[]⟩)])
/-- A table with one column of numbers. -/
def colT (l : List Int) : Tb := ⟨⟨#[114]⟩, [⟨#[97]⟩], (List.range l.length).map fun j => cellR l j⟩
end Go.Ab.A34
namespace Go.Proofs.YtddkacbcecedaaaGreatDoor
open Go Go.Ab Go.Ab.A34
variable [Gl] [Tabs]

set_option maxHeartbeats 4000000 in
set_option maxRecDepth 20000 in
theorem col_r (l : List Int) (hl : l.length ≤ 1000) : PCall Tryz.prog 12 [NL l] (TB (colT l)) := by
  unfold colT
  refine Call.enter' (N := 28) (rs := [.cell 2 28]) Tryz.func12 rfl rfl rfl (by decide) rfl ?_; simp only [argT]; have hD : (0 : Nat) = 0 := rfl
  repeat' first | (with_reducible refine And.intro (by omega) ?_) | (refine SW.seq_k fun K hK => ?_) | (refine SW.block ?_) | ((first | refine SW.region ?_ | refine SW.regionD (Checked.mixed Tryz.checked) (by kernel_rfl) ?_ | refine SW.cond ?_ | refine SW.skip ?_ | refine SW.exit ?_ | refine SW.ret ?_ | (refine allF_i fun b hb => ?_; replace hD := And.intro hb hD; clear hb; try simp only [fresh_cons, fresh_nil, and_true, ne_eq, neF] at hD) | simp only [appK, appOsK]); try simp only [go_sem, hD]) | (refine And.intro (by omega) ?_) | (refine ifI (fun hc => ?_) (fun hc => ?_) <;> first | (exfalso; omega) | skip) | ((first | apply hK | ((iterate 1 (clear hK K)); apply hK) | ((iterate 2 (clear hK K)); apply hK) | ((iterate 3 (clear hK K)); apply hK) | ((iterate 4 (clear hK K)); apply hK) | ((iterate 5 (clear hK K)); apply hK)); clear hK K)
  obtain ⟨tb, rfl⟩ : ∃ x, x = b := ⟨_, rfl⟩
  obtain ⟨ab, rfl⟩ : ∃ x, x = b := ⟨_, rfl⟩
  obtain ⟨rb, rfl⟩ : ∃ x, x = b := ⟨_, rfl⟩
  have d1 : ¬ tb = rb := by simp [hD]
  have d2 : ¬ rb = tb := by simp [hD]
  have d5 : ¬ tb = ab := by simp [hD]
  apply Ab.SW.le
  · apply St.le_freezeC (c := tb) (j := 1) (b := ab) (off := 0) (sz := 1) (f := sF [⟨#[97]⟩])
    · rw [find_cons, if_pos rfl]
    · exact d5
    · show 1 < 3
      omega
    · rfl
    · simp [find_cons, d5, hD]; rfl
    · decide
    · intro p hp
      obtain rfl : p = 0 := by omega
      rfl
  simp only [go_sem, hD, d5]
  refine Ab.SW.le (St.le_pick [(tb, .svs [Str ⟨#[114]⟩, SL [⟨#[97]⟩], .sc (.slice none 0 0)]), (rb, .svs [Str ⟨#[]⟩, .sc (.slice none 0 0), .sc (.slice none 0 0)])] ?_ ?_) ?_
  · repeat' (first | exact (fun x hx => (List.not_mem_nil hx).elim) | refine List.forall_mem_cons.2 ⟨?_, ?_⟩ | exact List.mem_cons_self | apply List.mem_cons_of_mem)
  · simp [fresh_cons, fresh_nil, hD]
  clear hD
  have hD := And.intro (eq_false d1) (eq_false d2)
  obtain ⟨I, hI⟩ : ∃ I : Nat → St → Prop, ∀ k S, I k S ↔ (∃ (i : Nat) (h : Heap), k = l.length - i ∧ i ≤ l.length ∧ ((i = 0 ∧ h = [(tb, .svs [Str ⟨#[114]⟩, SL [⟨#[97]⟩], .sc (.slice none 0 0)]), (rb, .svs [Str ⟨#[]⟩, .sc (.slice none 0 0), .sc (.slice none 0 0)])]) ∨ (0 < i ∧ ∃ g, ¬ g = tb ∧ ¬ tb = g ∧ ¬ g = rb ∧ ¬ rb = g ∧ h = [(g, .svs (fC rC ((List.range i).map fun j => cellR l j))), (tb, .svs [Str ⟨#[114]⟩, SL [⟨#[97]⟩], .os g 0 i 2]), (rb, .svs [Str ⟨#[]⟩, .sc (.slice none 0 0), .sc (.slice none 0 0)])])) ∧ S = ⟨[(0, NL l), (2, .op rb 0), (3, .op tb 0), (4, I64 i)], h⟩) := ⟨fun k S => _, fun _ _ => Iff.rfl⟩
  refine SW.loop' I (l.length) ((hI _ _).2 ⟨0, _, rfl, Nat.zero_le _, .inl ⟨rfl, rfl⟩, rfl⟩) (by repeat' (first | exact rfl | exact trivial | exact int_eq (by omega) | exact int_eq (by (rw [i64_wrap] <;> omega)) | constructor)) ?_
  intro k S hIn
  obtain ⟨i, h, rfl, hi, hB, rfl⟩ := (hI _ _).1 hIn
  clear hIn
  have ie : ((i : Nat) : Int).toNat = i := Int.toNat_natCast _
  have i0 : (0 : Int) ≤ ((i : Nat) : Int) := by omega
  have hsl : ((List.range i).map fun j => cellR l j).length = i := by simp
  by_cases hlt : i < l.length
  · have hli : ((i : Nat) : Int) < (((l.length) : Nat) : Int) := by omega
    have w1 : IntKind.i64.wrap ((i : Int) + 1) = ((i + 1 : Nat) : Int) := by rw [i64_wrap (by omega) (by omega)]; omega
    have ba : (i + 1) * 32 ≤ 140737488355328 := by omega
    have hmp : ((List.range (i + 1)).map fun j => cellR l j) = ((List.range i).map fun j => cellR l j) ++ [cellR l i] := by rw [List.range_succ, List.map_append]; rfl
    have hce : cellR l i = (((i + 1 : Nat) : Int), [(1, l.getD i 0, ⟨#[]⟩)]) := rfl
    generalize ((List.range i).map fun j => cellR l j) = Li at *
    obtain ⟨z, hz⟩ : ∃ z, l.getD i 0 = z := ⟨_, rfl⟩
    rw [hz] at hce
    rcases hB with ⟨hi0, rfl⟩ | ⟨hi0, g, u1, u2, u3, u4, rfl⟩
    · have hLn : Li = [] := List.eq_nil_of_length_eq_zero (by omega)
      subst hLn
      repeat' first | (with_reducible refine And.intro (by omega) ?_) | (refine SW.seq_k fun K hK => ?_) | (refine SW.block ?_) | ((first | refine SW.region ?_ | refine SW.regionZ (id := 5) (Checked.mixed Tryz.checked) ((.one 0 [0, 1, 12, 13, 14] (.one 1 [1, 12, 13, 14] (.one 2 [2, 3, 10, 11, 12, 13, 14] (.one 3 [3, 10, 11, 12, 13, 14] (.one 4 [4, 6, 7, 8, 9, 10, 11, 12, 13, 14] (.one 5 [5, 6, 7, 8, 9, 10, 11, 12, 13, 14] (.one 6 [6, 7, 8, 9, 10, 11, 12, 13, 14] (.one 7 [7, 8, 9, 10, 11, 12, 13, 14] (.one 8 [8, 9, 10, 11, 12, 13, 14] (.alt 9 (.one 10 [10, 11, 12, 13, 14] (.alt 11 (.alt 12 (.one 13 [13, 14] (.alt 14 .done .nil)) .nil) .nil)) .nil)))))))))) : OZ) (by kernel_rfl) ?_ | refine SW.regionD (Checked.mixed Tryz.checked) (by kernel_rfl) ?_ | refine SW.cond ?_ | refine SW.skip ?_ | refine SW.exit ?_ | refine SW.ret ?_ | (refine allF_i fun b hb => ?_; replace hD := And.intro hb hD; clear hb; try simp only [fresh_cons, fresh_nil, and_true, ne_eq, neF] at hD) | simp only [appK, appOsK]); try simp only [go_sem, hD, hli, ie, i0, w1, ba, hz, true_implies]) | (refine And.intro (by omega) ?_) | (refine ifI (fun hc => ?_) (fun hc => ?_) <;> first | (exfalso; omega) | skip) | ((first | apply hK | ((iterate 1 (clear hK K)); apply hK) | ((iterate 2 (clear hK K)); apply hK) | ((iterate 3 (clear hK K)); apply hK) | ((iterate 4 (clear hK K)); apply hK) | ((iterate 5 (clear hK K)); apply hK)); clear hK K) | (refine And.intro ?_ ?_)
      all_goals
        subst hi0
        obtain ⟨nb, rfl⟩ : ∃ x, x = b := ⟨_, rfl⟩
        obtain ⟨lb, rfl⟩ : ∃ x, x = b := ⟨_, rfl⟩
        obtain ⟨vb, rfl⟩ : ∃ x, x = b := ⟨_, rfl⟩
        have e1 : ¬ nb = vb := by simp [hD]
        have e2 : ¬ vb = nb := by simp [hD]
        have e3 : ¬ vb = tb := by simp [hD]
        have e4 : ¬ vb = rb := by simp [hD]
        have e5 : ¬ nb = tb := by simp [hD]
        have e6 : ¬ nb = rb := by simp [hD]
        have st : ∀ t, (St.mk t [(nb, .svs [I64 (0 + 1 : Nat), .os vb 0 1 3]), (vb, .svs [I64 1, I64 z, Str ⟨#[]⟩]), (tb, .svs [Str ⟨#[114]⟩, SL [⟨#[97]⟩], .os nb 0 1 2]), (rb, .svs [Str ⟨#[]⟩, .sc (.slice none 0 0), .sc (.slice none 0 0)])]).le ⟨t, [(nb, .svs (fC rC ([] ++ [cellR l 0]))), (tb, .svs [Str ⟨#[114]⟩, SL [⟨#[97]⟩], .os nb 0 1 2]), (rb, .svs [Str ⟨#[]⟩, .sc (.slice none 0 0), .sc (.slice none 0 0)])]⟩ := fun t => by
          have := St.le_freezeC (t := t) (h := [(nb, .svs [I64 (0 + 1 : Nat), .os vb 0 1 3]), (vb, .svs [I64 1, I64 z, Str ⟨#[]⟩]), (tb, .svs [Str ⟨#[114]⟩, SL [⟨#[97]⟩], .os nb 0 1 2]), (rb, .svs [Str ⟨#[]⟩, .sc (.slice none 0 0), .sc (.slice none 0 0)])]) (c := nb) (j := 1) (b := vb) (off := 0) (sz := 3) (len := 1) (k := .svs [I64 1, I64 z, Str ⟨#[]⟩]) (by rw [find_cons, if_pos rfl]) e1 (by show 1 < 2; omega) rfl (by rw [find_cons, if_neg e1, find_cons, if_pos rfl]) (Nat.le_refl 3) (vF [(1, z, ⟨#[]⟩)]) (fun p hp => by have e : p = 0 := (by omega); subst e; rfl)
          simp only [del_cons, upd_cons, if_neg e1, if_pos] at this
          rw [hce]
          exact this
        refine Rnd.le ((St.le_pick [(nb, .svs [I64 (0 + 1 : Nat), .os vb 0 1 3]), (vb, .svs [I64 1, I64 z, Str ⟨#[]⟩]), (tb, .svs [Str ⟨#[114]⟩, SL [⟨#[97]⟩], .os nb 0 1 2]), (rb, .svs [Str ⟨#[]⟩, .sc (.slice none 0 0), .sc (.slice none 0 0)])] ?_ ?_).trans (st _)) ?_
        · repeat' (first | exact (fun x hx => (List.not_mem_nil hx).elim) | refine List.forall_mem_cons.2 ⟨?_, ?_⟩ | exact List.mem_cons_self | apply List.mem_cons_of_mem)
        · simp [fresh_cons, fresh_nil, hD]
        refine Rnd.sub (l.length - (0 + 1)) (by omega) ((hI _ _).2 ⟨0 + 1, _, rfl, by omega, .inr ⟨by omega, nb, e5, by simp [hD], e6, by simp [hD], by rw [hmp]⟩, rfl⟩) (by repeat' (first | exact rfl | exact trivial | exact int_eq (by omega) | exact int_eq (by (rw [i64_wrap] <;> omega)) | constructor))
    · have hD := And.intro (And.intro (eq_false u1) (eq_false u2)) (And.intro (And.intro (eq_false u3) (eq_false u4)) hD)
      have hfc : (fC rC Li).length = i * 2 := by rw [← fC_len (enc := rC) (k := 2) (fun _ => rfl), hsl]
      repeat' first | (with_reducible refine And.intro (by omega) ?_) | (refine SW.seq_k fun K hK => ?_) | (refine SW.block ?_) | ((first | refine SW.region ?_ | refine SW.regionZ (id := 5) (Checked.mixed Tryz.checked) ((.one 0 [0, 1, 12, 13, 14] (.one 1 [1, 12, 13, 14] (.one 2 [2, 3, 10, 11, 12, 13, 14] (.one 3 [3, 10, 11, 12, 13, 14] (.one 4 [4, 6, 7, 8, 9, 10, 11, 12, 13, 14] (.one 5 [5, 6, 7, 8, 9, 10, 11, 12, 13, 14] (.one 6 [6, 7, 8, 9, 10, 11, 12, 13, 14] (.one 7 [7, 8, 9, 10, 11, 12, 13, 14] (.one 8 [8, 9, 10, 11, 12, 13, 14] (.alt 9 (.one 10 [10, 11, 12, 13, 14] (.alt 11 (.alt 12 (.one 13 [13, 14] (.alt 14 .done .nil)) .nil) .nil)) .nil)))))))))) : OZ) (by kernel_rfl) ?_ | refine SW.regionD (Checked.mixed Tryz.checked) (by kernel_rfl) ?_ | refine SW.cond ?_ | refine SW.skip ?_ | refine SW.exit ?_ | refine SW.ret ?_ | (refine allF_i fun b hb => ?_; replace hD := And.intro hb hD; clear hb; try simp only [fresh_cons, fresh_nil, and_true, ne_eq, neF] at hD) | simp only [appK, appOsK]); try simp only [go_sem, hD, hli, ie, i0, w1, ba, hz, hfc, true_implies]) | (refine And.intro (by omega) ?_) | (refine ifI (fun hc => ?_) (fun hc => ?_) <;> first | (exfalso; omega) | skip) | ((first | apply hK | ((iterate 1 (clear hK K)); apply hK) | ((iterate 2 (clear hK K)); apply hK) | ((iterate 3 (clear hK K)); apply hK) | ((iterate 4 (clear hK K)); apply hK) | ((iterate 5 (clear hK K)); apply hK)); clear hK K) | (refine And.intro ?_ ?_)
      all_goals
        obtain ⟨nb, rfl⟩ : ∃ x, x = b := ⟨_, rfl⟩
        obtain ⟨lb, rfl⟩ : ∃ x, x = b := ⟨_, rfl⟩
        obtain ⟨vb, rfl⟩ : ∃ x, x = b := ⟨_, rfl⟩
        have e1 : ¬ nb = vb := by simp [hD]
        have e2 : ¬ vb = nb := by simp [hD]
        have e3 : ¬ vb = tb := by simp [hD]
        have e4 : ¬ vb = rb := by simp [hD]
        have e5 : ¬ nb = tb := by simp [hD]
        have e6 : ¬ nb = rb := by simp [hD]
        have st : ∀ t, (St.mk t [(nb, .svs (fC rC Li ++ [I64 (i + 1 : Nat), .os vb 0 1 3])), (vb, .svs [I64 1, I64 z, Str ⟨#[]⟩]), (tb, .svs [Str ⟨#[114]⟩, SL [⟨#[97]⟩], .os nb 0 (i + 1) 2]), (rb, .svs [Str ⟨#[]⟩, .sc (.slice none 0 0), .sc (.slice none 0 0)])]).le ⟨t, [(nb, .svs (fC rC (Li ++ [cellR l i]))), (tb, .svs [Str ⟨#[114]⟩, SL [⟨#[97]⟩], .os nb 0 (i + 1) 2]), (rb, .svs [Str ⟨#[]⟩, .sc (.slice none 0 0), .sc (.slice none 0 0)])]⟩ := fun t => by
          have := St.le_freezeC (t := t) (h := [(nb, .svs (fC rC Li ++ [I64 (i + 1 : Nat), .os vb 0 1 3])), (vb, .svs [I64 1, I64 z, Str ⟨#[]⟩]), (tb, .svs [Str ⟨#[114]⟩, SL [⟨#[97]⟩], .os nb 0 (i + 1) 2]), (rb, .svs [Str ⟨#[]⟩, .sc (.slice none 0 0), .sc (.slice none 0 0)])]) (c := nb) (j := i * 2 + 1) (b := vb) (off := 0) (sz := 3) (len := 1) (k := .svs [I64 1, I64 z, Str ⟨#[]⟩]) (by rw [find_cons, if_pos rfl]) e1 (by rw [List.length_append, hfc]; show i * 2 + 1 < i * 2 + 2; omega) (by rw [List.getD_eq_getElem?_getD, List.getElem?_append_right (by omega), hfc, Nat.add_sub_cancel_left]; rfl) (by rw [find_cons, if_neg e1, find_cons, if_pos rfl]) (Nat.le_refl 3) (vF [(1, z, ⟨#[]⟩)]) (fun p hp => by have e : p = 0 := (by omega); subst e; rfl)
          simp only [del_cons, upd_cons, if_neg e1, if_pos] at this
          rw [List.set_append_right _ _ (by omega), hfc, Nat.add_sub_cancel_left] at this
          rw [hce, ← fC_snoc]
          exact this
        refine Rnd.le ((St.le_pick [(nb, .svs (fC rC Li ++ [I64 (i + 1 : Nat), .os vb 0 1 3])), (vb, .svs [I64 1, I64 z, Str ⟨#[]⟩]), (tb, .svs [Str ⟨#[114]⟩, SL [⟨#[97]⟩], .os nb 0 (i + 1) 2]), (rb, .svs [Str ⟨#[]⟩, .sc (.slice none 0 0), .sc (.slice none 0 0)])] ?_ ?_).trans (st _)) ?_
        · repeat' (first | exact (fun x hx => (List.not_mem_nil hx).elim) | refine List.forall_mem_cons.2 ⟨?_, ?_⟩ | exact List.mem_cons_self | apply List.mem_cons_of_mem)
        · simp [fresh_cons, fresh_nil, hD]
        refine Rnd.sub (l.length - (i + 1)) (by omega) ((hI _ _).2 ⟨i + 1, _, rfl, by omega, .inr ⟨by omega, nb, e5, by simp [hD], e6, by simp [hD], by rw [hmp]⟩, rfl⟩) (by repeat' (first | exact rfl | exact trivial | exact int_eq (by omega) | exact int_eq (by (rw [i64_wrap] <;> omega)) | constructor))
  · have hli : ¬ ((i : Nat) : Int) < (((l.length) : Nat) : Int) := by omega
    obtain rfl : i = l.length := by omega
    have hce : ∀ t : Tb, TB t = .agg [Str t.name, SL t.attrs, RL t.rows] := fun _ => rfl
    generalize ((List.range l.length).map fun j => cellR l j) = Li at *
    apply Ab.SW.le (S' := ⟨[(0, NL l), (2, .op rb 0), (3, .op tb 0), (4, I64 l.length)], [(tb, .svs [Str ⟨#[114]⟩, SL [⟨#[97]⟩], RL Li]), (rb, .svs [Str ⟨#[]⟩, .sc (.slice none 0 0), .sc (.slice none 0 0)])]⟩)
    · rcases hB with ⟨hi0, rfl⟩ | ⟨hi0, g, u1, u2, u3, u4, rfl⟩
      · have hLn : Li = [] := List.eq_nil_of_length_eq_zero (by omega)
        subst hLn
        have := St.le_nilC (t := [(0, NL l), (2, .op rb 0), (3, .op tb 0), (4, I64 l.length)]) (h := [(tb, .svs [Str ⟨#[114]⟩, SL [⟨#[97]⟩], .sc (.slice none 0 0)]), (rb, .svs [Str ⟨#[]⟩, .sc (.slice none 0 0), .sc (.slice none 0 0)])]) (c := tb) (j := 2) (sz := 2) (f := rF []) (by rw [find_cons, if_pos rfl]) (by show 2 < 3; omega) rfl
        rw [upd_cons, if_pos rfl] at this
        exact this
      · have := St.le_accC (t := [(0, NL l), (2, .op rb 0), (3, .op tb 0), (4, I64 l.length)]) (sz := 2) (n := l.length) (c := tb) (j := 2) (Acc.osH (b := g) (cs := fC rC Li) (h0 := [(tb, .svs [Str ⟨#[114]⟩, SL [⟨#[97]⟩], .os g 0 l.length 2]), (rb, .svs [Str ⟨#[]⟩, .sc (.slice none 0 0), .sc (.slice none 0 0)])]) (by simp [fresh_cons, fresh_nil, u1, u2, u3, u4]) (by rw [← fC_len (k := 2) (fun _ => rfl), hsl])) (by rw [find_cons, if_pos rfl]) (by show 2 < 3; omega) rfl (rF Li) (fun j hj => fC_at (enc := rC) (k := 2) (fun _ => rfl) r0 Li j (by omega))
        rw [upd_cons, if_pos rfl] at this
        unfold RL
        rw [hsl]
        exact this
    · repeat' first | (with_reducible refine And.intro (by omega) ?_) | (refine SW.seq_k fun K hK => ?_) | (refine SW.block ?_) | ((first | refine SW.region ?_ | refine SW.regionD (Checked.mixed Tryz.checked) (by kernel_rfl) ?_ | refine SW.cond ?_ | refine SW.skip ?_ | refine SW.exit ?_ | refine SW.ret ?_ | (refine allF_i fun b hb => ?_; replace hD := And.intro hb hD; clear hb; try simp only [fresh_cons, fresh_nil, and_true, ne_eq, neF] at hD) | simp only [appK, appOsK]); try simp only [go_sem, hD, hli, true_implies]) | (refine And.intro (by omega) ?_) | (refine ifI (fun hc => ?_) (fun hc => ?_) <;> first | (exfalso; omega) | skip) | ((first | apply hK | ((iterate 1 (clear hK K)); apply hK) | ((iterate 2 (clear hK K)); apply hK) | ((iterate 3 (clear hK K)); apply hK) | ((iterate 4 (clear hK K)); apply hK) | ((iterate 5 (clear hK K)); apply hK)); clear hK K)
      apply ret_cell (i := 2) (n := 3); exact rfl; (simp only [go_sem, hD]; try rfl); (first | exact Nat.le_refl _ | decide); simp only [resL_tmp, resL_cellE, resC_ok, resL_nil, tupOf, getN, go_sem, hD]

/-- Where a row stands. -/
def findI (id : Int) : Nat → List R3 → Option Nat
  | _, [] => none
  | i, r :: l => if r.1 = id then some i else findI id (i + 1) l

theorem findI_step {id : Int} {l : List R3} {i : Nat} (h : i < l.length) : findI id i (l.drop i) = if (l.getD i r0).1 = id then some i else findI id (i + 1) (l.drop (i + 1)) := by
  have g : l.getD i r0 = l[i] := by simp [List.getD_eq_getElem?_getD, h]
  rw [List.drop_eq_getElem_cons h, g]
  rfl
def findS (o : Option Nat) : SV := match o with
  | some i => .tup [I64 i, SB true]
  | none => .tup [I64 0, SB false]



theorem eqN_self (l : List Int) (hl : l.length ≤ 1000000) : PCall Tryz.prog 14 [NL l, NL l] (SB true) := by
  refine Call.enter' (N := 26) (rs := [.tmp 4]) Tryz.func14 rfl rfl rfl (by decide) rfl ?_; simp only [argT]; have hD : (0 : Nat) = 0 := rfl
  repeat' first | (with_reducible refine And.intro (by omega) ?_) | (refine SW.seq_k fun K hK => ?_) | (refine SW.block ?_) | ((first | refine SW.region ?_ | refine SW.regionD (Checked.mixed Tryz.checked) (by kernel_rfl) ?_ | refine SW.cond ?_ | refine SW.skip ?_ | refine SW.exit ?_ | refine SW.ret ?_ | (refine allF_i fun b hb => ?_; replace hD := And.intro hb hD; clear hb; try simp only [fresh_cons, fresh_nil, and_true, ne_eq, neF] at hD) | simp only [appK, appOsK]); try simp only [go_sem, hD]) | (refine And.intro (by omega) ?_) | (refine ifI (fun hc => ?_) (fun hc => ?_) <;> first | (exfalso; omega) | skip) | ((first | apply hK | ((iterate 1 (clear hK K)); apply hK) | ((iterate 2 (clear hK K)); apply hK) | ((iterate 3 (clear hK K)); apply hK) | ((iterate 4 (clear hK K)); apply hK) | ((iterate 5 (clear hK K)); apply hK)); clear hK K)
  obtain ⟨I, hI⟩ : ∃ I : Nat → St → Prop, ∀ k S, I k S ↔ (∃ (i : Nat) , k = l.length - i ∧ i ≤ l.length ∧ S = ⟨[(0, NL l), (1, NL l), (12, I64 l.length), (13, I64 i)], []⟩) := ⟨fun k S => _, fun _ _ => Iff.rfl⟩
  refine SW.loop' I (l.length) ((hI _ _).2 ⟨0, rfl, Nat.zero_le _, rfl⟩) (by repeat' (first | exact rfl | exact trivial | exact int_eq (by omega) | exact int_eq (by (rw [i64_wrap] <;> omega)) | constructor)) ?_
  intro k S hIn
  obtain ⟨i, rfl, hi, rfl⟩ := (hI _ _).1 hIn
  clear hIn
  have ie : ((i : Nat) : Int).toNat = i := Int.toNat_natCast _
  have i0 : (0 : Int) ≤ ((i : Nat) : Int) := by omega
  by_cases hlt : i < l.length
  · have hli : ((i : Nat) : Int) < (((l.length) : Nat) : Int) := by omega
    have w1 : IntKind.i64.wrap ((i : Int) + 1) = ((i + 1 : Nat) : Int) := by rw [i64_wrap (by omega) (by omega)]; omega
    repeat' first | (with_reducible refine And.intro (by omega) ?_) | (refine SW.seq_k fun K hK => ?_) | (refine SW.block ?_) | ((first | refine SW.region ?_ | refine SW.regionD (Checked.mixed Tryz.checked) (by kernel_rfl) ?_ | refine SW.cond ?_ | refine SW.skip ?_ | refine SW.exit ?_ | refine SW.ret ?_ | (refine allF_i fun b hb => ?_; replace hD := And.intro hb hD; clear hb; try simp only [fresh_cons, fresh_nil, and_true, ne_eq, neF] at hD) | simp only [appK, appOsK]); try simp only [go_sem, hD, hli, ie, i0, w1]) | (refine And.intro (by omega) ?_) | (refine ifI (fun hc => ?_) (fun hc => ?_) <;> first | (exfalso; omega) | skip) | ((first | apply hK | ((iterate 1 (clear hK K)); apply hK) | ((iterate 2 (clear hK K)); apply hK) | ((iterate 3 (clear hK K)); apply hK) | ((iterate 4 (clear hK K)); apply hK) | ((iterate 5 (clear hK K)); apply hK)); clear hK K)
    refine Rnd.sub (l.length - (i + 1)) (by omega) ((hI _ _).2 ⟨i + 1, rfl, by omega, rfl⟩) (by repeat' (first | exact rfl | exact trivial | exact int_eq (by omega) | exact int_eq (by (rw [i64_wrap] <;> omega)) | constructor))
  · have hli : ¬ ((i : Nat) : Int) < (((l.length) : Nat) : Int) := by omega
    repeat' first | (with_reducible refine And.intro (by omega) ?_) | (refine SW.seq_k fun K hK => ?_) | (refine SW.block ?_) | ((first | refine SW.region ?_ | refine SW.regionD (Checked.mixed Tryz.checked) (by kernel_rfl) ?_ | refine SW.cond ?_ | refine SW.skip ?_ | refine SW.exit ?_ | refine SW.ret ?_ | (refine allF_i fun b hb => ?_; replace hD := And.intro hb hD; clear hb; try simp only [fresh_cons, fresh_nil, and_true, ne_eq, neF] at hD) | simp only [appK, appOsK]); try simp only [go_sem, hD, hli]) | (refine And.intro (by omega) ?_) | (refine ifI (fun hc => ?_) (fun hc => ?_) <;> first | (exfalso; omega) | skip) | ((first | apply hK | ((iterate 1 (clear hK K)); apply hK) | ((iterate 2 (clear hK K)); apply hK) | ((iterate 3 (clear hK K)); apply hK) | ((iterate 4 (clear hK K)); apply hK) | ((iterate 5 (clear hK K)); apply hK)); clear hK K)
    refine ret_pure ?_; simp only [resL_tmp, resL_nil, tupOf, go_sem, hD]



end Go.Proofs.YtddkacbcecedaaaGreatDoor
/- Contracts: Column, whose cells may be written. -/
set_option linter.unusedSimpArgs false
set_option linter.unusedVariables false
set_option linter.unusedSectionVars false
namespace Go.Ab.A34
open Go Go.Ab Go.Proofs
/-- Rows whose values may be written: the blocks of their values, the last one first. -/
def rowsO : List Nat → List SV
  | [] => []
  | v :: r => rowsO r ++ [I64 (r.length + 1 : Nat), .os v 0 1 3]
def valsO (l : List Int) : List Nat → Heap
  | [] => []
  | v :: r => (v, .svs [I64 1, I64 (l.getD r.length 0), Str ⟨#[]⟩]) :: valsO l r
theorem rowsO_len : ∀ vs, (rowsO vs).length = vs.length * 2
  | [] => rfl
  | v :: r => by
    simp only [rowsO, List.length_append, rowsO_len r, List.length_cons, List.length_nil]
    omega
end Go.Ab.A34
namespace Go.Proofs.YtddkacbcecedaaaGreatDoor
open Go Go.Ab Go.Ab.A34
variable [Gl] [Tabs]

set_option maxHeartbeats 4000000 in
set_option maxRecDepth 20000 in
theorem col_o (l : List Int) (hl : l.length ≤ 1000) (hne : 0 < l.length) : Ab.Call Tryz.prog 12 [NL l] [] (fun r h' => ∃ g vs, vs.length = l.length ∧ r = .agg [Str ⟨#[114]⟩, SL [⟨#[97]⟩], .os g 0 l.length 2] ∧ h' = (g, .svs (rowsO vs)) :: valsO l vs) := by
  refine Call.enter' (N := 28) (rs := [.cell 2 28]) Tryz.func12 rfl rfl rfl (by decide) rfl ?_; simp only [argT]; have hD : (0 : Nat) = 0 := rfl
  repeat' first | (with_reducible refine And.intro (by omega) ?_) | (refine SW.seq_k fun K hK => ?_) | (refine SW.block ?_) | ((first | refine SW.region ?_ | refine SW.regionD (Checked.mixed Tryz.checked) (by kernel_rfl) ?_ | refine SW.cond ?_ | refine SW.skip ?_ | refine SW.exit ?_ | refine SW.ret ?_ | (refine allF_i fun b hb => ?_; replace hD := And.intro hb hD; clear hb; try simp only [fresh_cons, fresh_nil, and_true, ne_eq, neF] at hD) | simp only [appK, appOsK]); try simp only [go_sem, hD]) | (refine And.intro (by omega) ?_) | (refine ifI (fun hc => ?_) (fun hc => ?_) <;> first | (exfalso; omega) | skip) | ((first | apply hK | ((iterate 1 (clear hK K)); apply hK) | ((iterate 2 (clear hK K)); apply hK) | ((iterate 3 (clear hK K)); apply hK) | ((iterate 4 (clear hK K)); apply hK) | ((iterate 5 (clear hK K)); apply hK)); clear hK K)
  obtain ⟨tb, rfl⟩ : ∃ x, x = b := ⟨_, rfl⟩
  obtain ⟨ab, rfl⟩ : ∃ x, x = b := ⟨_, rfl⟩
  obtain ⟨rb, rfl⟩ : ∃ x, x = b := ⟨_, rfl⟩
  have d1 : ¬ tb = rb := by simp [hD]
  have d2 : ¬ rb = tb := by simp [hD]
  have d5 : ¬ tb = ab := by simp [hD]
  apply Ab.SW.le
  · apply St.le_freezeC (c := tb) (j := 1) (b := ab) (off := 0) (sz := 1) (f := sF [⟨#[97]⟩])
    · rw [find_cons, if_pos rfl]
    · exact d5
    · show 1 < 3
      omega
    · rfl
    · simp [find_cons, d5, hD]; rfl
    · decide
    · intro p hp
      obtain rfl : p = 0 := by omega
      rfl
  simp only [go_sem, hD, d5]
  refine Ab.SW.le (St.le_pick [(tb, .svs [Str ⟨#[114]⟩, SL [⟨#[97]⟩], .sc (.slice none 0 0)]), (rb, .svs [Str ⟨#[]⟩, .sc (.slice none 0 0), .sc (.slice none 0 0)])] ?_ ?_) ?_
  · repeat' (first | exact (fun x hx => (List.not_mem_nil hx).elim) | refine List.forall_mem_cons.2 ⟨?_, ?_⟩ | exact List.mem_cons_self | apply List.mem_cons_of_mem)
  · simp [fresh_cons, fresh_nil, hD]
  clear hD
  have hD := And.intro (eq_false d1) (eq_false d2)
  obtain ⟨I, hI⟩ : ∃ I : Nat → St → Prop, ∀ k S, I k S ↔ (∃ (i : Nat) (vs : List Nat) (h : Heap), k = l.length - i ∧ i ≤ l.length ∧ vs.length = i ∧ ((i = 0 ∧ h = [(tb, .svs [Str ⟨#[114]⟩, SL [⟨#[97]⟩], .sc (.slice none 0 0)]), (rb, .svs [Str ⟨#[]⟩, .sc (.slice none 0 0), .sc (.slice none 0 0)])]) ∨ (0 < i ∧ ∃ g, ¬ g = tb ∧ ¬ tb = g ∧ ¬ g = rb ∧ ¬ rb = g ∧ h = (g, .svs (rowsO vs)) :: (tb, .svs [Str ⟨#[114]⟩, SL [⟨#[97]⟩], .os g 0 i 2]) :: (rb, .svs [Str ⟨#[]⟩, .sc (.slice none 0 0), .sc (.slice none 0 0)]) :: valsO l vs)) ∧ S = ⟨[(0, NL l), (2, .op rb 0), (3, .op tb 0), (4, I64 i)], h⟩) := ⟨fun k S => _, fun _ _ => Iff.rfl⟩
  refine SW.loop' I (l.length) ((hI _ _).2 ⟨0, [], _, rfl, Nat.zero_le _, rfl, .inl ⟨rfl, rfl⟩, rfl⟩) (by repeat' (first | exact rfl | exact trivial | exact int_eq (by omega) | exact int_eq (by (rw [i64_wrap] <;> omega)) | constructor)) ?_
  intro k S hIn
  obtain ⟨i, vs, h, rfl, hi, hvl, hB, rfl⟩ := (hI _ _).1 hIn
  clear hIn
  have ie : ((i : Nat) : Int).toNat = i := Int.toNat_natCast _
  have i0 : (0 : Int) ≤ ((i : Nat) : Int) := by omega
  by_cases hlt : i < l.length
  · have hli : ((i : Nat) : Int) < (((l.length) : Nat) : Int) := by omega
    have w1 : IntKind.i64.wrap ((i : Int) + 1) = ((i + 1 : Nat) : Int) := by rw [i64_wrap (by omega) (by omega)]; omega
    have ba : (i + 1) * 32 ≤ 140737488355328 := by omega
    obtain ⟨z, hz⟩ : ∃ z, l.getD i 0 = z := ⟨_, rfl⟩
    rcases hB with ⟨hi0, rfl⟩ | ⟨hi0, g, u1, u2, u3, u4, rfl⟩
    · have hvn : vs = [] := List.eq_nil_of_length_eq_zero (by omega)
      subst hvn
      repeat' first | (with_reducible refine And.intro (by omega) ?_) | (refine SW.seq_k fun K hK => ?_) | (refine SW.block ?_) | ((first | refine SW.region ?_ | refine SW.regionZ (id := 5) (Checked.mixed Tryz.checked) ((.one 0 [0, 1, 12, 13, 14] (.one 1 [1, 12, 13, 14] (.one 2 [2, 3, 10, 11, 12, 13, 14] (.one 3 [3, 10, 11, 12, 13, 14] (.one 4 [4, 6, 7, 8, 9, 10, 11, 12, 13, 14] (.one 5 [5, 6, 7, 8, 9, 10, 11, 12, 13, 14] (.one 6 [6, 7, 8, 9, 10, 11, 12, 13, 14] (.one 7 [7, 8, 9, 10, 11, 12, 13, 14] (.one 8 [8, 9, 10, 11, 12, 13, 14] (.alt 9 (.one 10 [10, 11, 12, 13, 14] (.alt 11 (.alt 12 (.one 13 [13, 14] (.alt 14 .done .nil)) .nil) .nil)) .nil)))))))))) : OZ) (by kernel_rfl) ?_ | refine SW.regionD (Checked.mixed Tryz.checked) (by kernel_rfl) ?_ | refine SW.cond ?_ | refine SW.skip ?_ | refine SW.exit ?_ | refine SW.ret ?_ | (refine allF_i fun b hb => ?_; replace hD := And.intro hb hD; clear hb; try simp only [fresh_cons, fresh_nil, and_true, ne_eq, neF] at hD) | simp only [appK, appOsK]); try simp only [go_sem, hD, hli, ie, i0, w1, ba, hz, true_implies]) | (refine And.intro (by omega) ?_) | (refine ifI (fun hc => ?_) (fun hc => ?_) <;> first | (exfalso; omega) | skip) | ((first | apply hK | ((iterate 1 (clear hK K)); apply hK) | ((iterate 2 (clear hK K)); apply hK) | ((iterate 3 (clear hK K)); apply hK) | ((iterate 4 (clear hK K)); apply hK) | ((iterate 5 (clear hK K)); apply hK)); clear hK K) | (refine And.intro ?_ ?_)
      all_goals
        subst hi0
        obtain ⟨nb, rfl⟩ : ∃ x, x = b := ⟨_, rfl⟩
        obtain ⟨lb, rfl⟩ : ∃ x, x = b := ⟨_, rfl⟩
        obtain ⟨vb, rfl⟩ : ∃ x, x = b := ⟨_, rfl⟩
        refine Rnd.le (St.le_pick [(nb, .svs [I64 (0 + 1 : Nat), .os vb 0 1 3]), (tb, .svs [Str ⟨#[114]⟩, SL [⟨#[97]⟩], .os nb 0 1 2]), (rb, .svs [Str ⟨#[]⟩, .sc (.slice none 0 0), .sc (.slice none 0 0)]), (vb, .svs [I64 1, I64 z, Str ⟨#[]⟩])] ?_ ?_) ?_
        · repeat' (first | exact (fun x hx => (List.not_mem_nil hx).elim) | refine List.forall_mem_cons.2 ⟨?_, ?_⟩ | exact List.mem_cons_self | apply List.mem_cons_of_mem)
        · simp [fresh_cons, fresh_nil, hD]
        refine Rnd.sub (l.length - (0 + 1)) (by omega) ((hI _ _).2 ⟨0 + 1, [vb], _, rfl, by omega, rfl, .inr ⟨by omega, nb, by simp [hD], by simp [hD], by simp [hD], by simp [hD], by rw [← hz]; rfl⟩, rfl⟩) (by repeat' (first | exact rfl | exact trivial | exact int_eq (by omega) | exact int_eq (by (rw [i64_wrap] <;> omega)) | constructor))
    · have hD := And.intro (And.intro (eq_false u1) (eq_false u2)) (And.intro (And.intro (eq_false u3) (eq_false u4)) hD)
      have hfc : (rowsO vs).length = i * 2 := by rw [rowsO_len, hvl]
      have hro : ∀ vb, rowsO (vb :: vs) = rowsO vs ++ [I64 (i + 1 : Nat), .os vb 0 1 3] := fun vb => by rw [rowsO, hvl]
      have hvo : ∀ vb, valsO l (vb :: vs) = (vb, .svs [I64 1, I64 z, Str ⟨#[]⟩]) :: valsO l vs := fun vb => by rw [valsO, hvl, hz]
      generalize rowsO vs = RO' at *
      generalize valsO l vs = V at *
      repeat' first | (with_reducible refine And.intro (by omega) ?_) | (refine SW.seq_k fun K hK => ?_) | (refine SW.block ?_) | ((first | refine SW.region ?_ | refine SW.regionZ (id := 5) (Checked.mixed Tryz.checked) ((.one 0 [0, 1, 12, 13, 14] (.one 1 [1, 12, 13, 14] (.one 2 [2, 3, 10, 11, 12, 13, 14] (.one 3 [3, 10, 11, 12, 13, 14] (.one 4 [4, 6, 7, 8, 9, 10, 11, 12, 13, 14] (.one 5 [5, 6, 7, 8, 9, 10, 11, 12, 13, 14] (.one 6 [6, 7, 8, 9, 10, 11, 12, 13, 14] (.one 7 [7, 8, 9, 10, 11, 12, 13, 14] (.one 8 [8, 9, 10, 11, 12, 13, 14] (.alt 9 (.one 10 [10, 11, 12, 13, 14] (.alt 11 (.alt 12 (.one 13 [13, 14] (.alt 14 .done .nil)) .nil) .nil)) .nil)))))))))) : OZ) (by kernel_rfl) ?_ | refine SW.regionD (Checked.mixed Tryz.checked) (by kernel_rfl) ?_ | refine SW.cond ?_ | refine SW.skip ?_ | refine SW.exit ?_ | refine SW.ret ?_ | (refine allF_i fun b hb => ?_; replace hD := And.intro hb hD; clear hb; try simp only [fresh_cons, fresh_nil, and_true, ne_eq, neF] at hD) | simp only [appK, appOsK]); try simp only [go_sem, hD, hli, ie, i0, w1, ba, hz, hfc, true_implies]) | (refine And.intro (by omega) ?_) | (refine ifI (fun hc => ?_) (fun hc => ?_) <;> first | (exfalso; omega) | skip) | ((first | apply hK | ((iterate 1 (clear hK K)); apply hK) | ((iterate 2 (clear hK K)); apply hK) | ((iterate 3 (clear hK K)); apply hK) | ((iterate 4 (clear hK K)); apply hK) | ((iterate 5 (clear hK K)); apply hK)); clear hK K) | (refine And.intro ?_ ?_)
      all_goals
        obtain ⟨nb, rfl⟩ : ∃ x, x = b := ⟨_, rfl⟩
        obtain ⟨lb, rfl⟩ : ∃ x, x = b := ⟨_, rfl⟩
        obtain ⟨vb, rfl⟩ : ∃ x, x = b := ⟨_, rfl⟩
        have x1 : ¬ nb = lb := by simp [hD]
        have P : ((nb, Blk.svs (RO' ++ [I64 (i + 1 : Nat), .os vb 0 1 3])) :: (tb, .svs [Str ⟨#[114]⟩, SL [⟨#[97]⟩], .os nb 0 (i + 1) 2]) :: (rb, .svs [Str ⟨#[]⟩, .sc (.slice none 0 0), .sc (.slice none 0 0)]) :: (vb, .svs [I64 1, I64 z, Str ⟨#[]⟩]) :: V).Perm ((vb, .svs [I64 1, I64 z, Str ⟨#[]⟩]) :: (nb, Blk.svs (RO' ++ [I64 (i + 1 : Nat), .os vb 0 1 3])) :: (tb, .svs [Str ⟨#[114]⟩, SL [⟨#[97]⟩], .os nb 0 (i + 1) 2]) :: (rb, .svs [Str ⟨#[]⟩, .sc (.slice none 0 0), .sc (.slice none 0 0)]) :: V) :=
          ((List.Perm.cons _ (List.Perm.cons _ (List.Perm.swap ..))).trans (List.Perm.cons _ (List.Perm.swap ..))).trans (List.Perm.swap ..)
        refine Rnd.le ((St.le_del' (b := lb) (h' := (vb, .svs [I64 1, I64 z, Str ⟨#[]⟩]) :: (nb, Blk.svs (RO' ++ [I64 (i + 1 : Nat), .os vb 0 1 3])) :: (tb, .svs [Str ⟨#[114]⟩, SL [⟨#[97]⟩], .os nb 0 (i + 1) 2]) :: (rb, .svs [Str ⟨#[]⟩, .sc (.slice none 0 0), .sc (.slice none 0 0)]) :: V) ?_).trans (St.le_perm P)) ?_
        · (simp only [go_sem, hD]) <;> rfl
        refine Rnd.sub (l.length - (i + 1)) (by omega) ((hI _ _).2 ⟨i + 1, vb :: vs, _, rfl, by omega, by rw [List.length_cons, hvl], .inr ⟨by omega, nb, by simp [hD], by simp [hD], by simp [hD], by simp [hD], by rw [hro, hvo]⟩, rfl⟩) (by repeat' (first | exact rfl | exact trivial | exact int_eq (by omega) | exact int_eq (by (rw [i64_wrap] <;> omega)) | constructor))
  · have hli : ¬ ((i : Nat) : Int) < (((l.length) : Nat) : Int) := by omega
    obtain rfl : i = l.length := by omega
    rcases hB with ⟨hi0, rfl⟩ | ⟨hi0, g, u1, u2, u3, u4, rfl⟩
    · omega
    · have hD := And.intro (And.intro (eq_false u1) (eq_false u2)) (And.intro (And.intro (eq_false u3) (eq_false u4)) hD)
      generalize hV : valsO l vs = V at *
      repeat' first | (with_reducible refine And.intro (by omega) ?_) | (refine SW.seq_k fun K hK => ?_) | (refine SW.block ?_) | ((first | refine SW.region ?_ | refine SW.regionD (Checked.mixed Tryz.checked) (by kernel_rfl) ?_ | refine SW.cond ?_ | refine SW.skip ?_ | refine SW.exit ?_ | refine SW.ret ?_ | (refine allF_i fun b hb => ?_; replace hD := And.intro hb hD; clear hb; try simp only [fresh_cons, fresh_nil, and_true, ne_eq, neF] at hD) | simp only [appK, appOsK]); try simp only [go_sem, hD, hli, true_implies]) | (refine And.intro (by omega) ?_) | (refine ifI (fun hc => ?_) (fun hc => ?_) <;> first | (exfalso; omega) | skip) | ((first | apply hK | ((iterate 1 (clear hK K)); apply hK) | ((iterate 2 (clear hK K)); apply hK) | ((iterate 3 (clear hK K)); apply hK) | ((iterate 4 (clear hK K)); apply hK) | ((iterate 5 (clear hK K)); apply hK)); clear hK K)
      refine retQ_le (((St.le_freezeP (i := 2) (b := rb) (off := 0) (n := 3) (k := .svs [Str ⟨#[114]⟩, SL [⟨#[97]⟩], .os g 0 l.length 2]) ?_ ?_ ?_).trans (St.le_del' (b := tb) (h' := (g, .svs (rowsO vs)) :: V) ?_))) ?_
      · exact rfl
      · simp [find_cons, hD]
      · exact Nat.le_refl 3
      · (simp only [go_sem, hD]) <;> rfl
      · simp only [resL_tmp, resL_cellE, resC_ok, resL_nil, tupOf, getN, go_sem, hD]
        exact ⟨g, vs, hvl, rfl, by rw [hV]⟩
end Go.Proofs.YtddkacbcecedaaaGreatDoor
/- awake answers true: the plain part. -/
set_option linter.unusedSimpArgs false
set_option linter.unusedVariables false
set_option linter.unusedSectionVars false
namespace Go.Ab.A34
open Go Go.Ab Go.Proofs Go.Proofs.YtddkacbcecedaaaGreatDoor
def num (n : Int) : V3 := (1, n, ⟨#[]⟩)
/-- The table of the example. -/
def awT : Tb := ⟨⟨#[114]⟩, [⟨#[97]⟩], [(1, [num 5]), (2, [num 7]), (3, [v0]), (4, [num 5])]⟩
theorem emp_nil : emp ⟨#[]⟩ = true := barr_eq.2 rfl
theorem okV_num (n : Int) : okV (num n) = true := by
  unfold okV vok num
  simp [emp_nil]
theorem okV_zero : okV v0 = true := by
  unfold okV vok v0
  simp [emp_nil]
theorem name_r1 : nameB (⟨#[114]⟩ : ByteArray).data.toList = true := by decide
theorem name_a1 : namesB [⟨#[97]⟩] = true := by decide +kernel
theorem awT_valid : validS awT = 0 := by
  unfold validS awT
  simp only [name_r1, name_a1, if_true, rowsV, okV_num, okV_zero, List.all_cons, List.all_nil, List.length_cons, List.length_nil, Bool.and_self]
  decide
theorem sort_is {l s : List V3} (h : s.Pairwise fun x y => cmp3 x y ≤ 0) (p : l.Perm s) : sortV l = s := sorted_eq (sortV_sorted l) h ((sortV_perm l).trans p)
theorem awT_col : colS awT 0 = [v0, num 5, num 5, num 7] := by
  refine sort_is (by decide +kernel) ?_
  show [num 5, num 7, v0, num 5].Perm [v0, num 5, num 5, num 7]
  exact ((List.Perm.cons _ (List.Perm.swap ..)).trans (List.Perm.swap ..)).trans (List.Perm.cons _ (List.Perm.cons _ (List.Perm.swap ..)))
def awC : Co := ⟨4, 1, 3, num 5, num 7, num 5, 2, 3, 0⟩
theorem awT_prof : profS awT 0 = awC := by
  unfold profS
  rw [awT_col]
  kernel_rfl
def awText : List UInt8 := [97, 32, 114, 111, 119, 115, 32, 52, 32, 110, 117, 108, 108, 115, 32, 49, 32, 100, 105, 115, 116, 105, 110, 99, 116, 32, 51, 32, 110, 117, 109, 98, 101, 114, 115, 32, 51, 32, 116, 101, 120, 116, 115, 32, 48, 32, 108, 101, 97, 115, 116, 32, 53, 32, 103, 114, 101, 97, 116, 101, 115, 116, 32, 55, 32, 99, 111, 109, 109, 111, 110, 32, 53, 32, 116, 105, 109, 101, 115, 32, 50, 10]
theorem aw_fmt (n : Int) : fmtV (num n).1 (num n).2.1 (num n).2.2 = (itoaS n, 0) := by
  have h := okV_num n
  unfold okV at h
  unfold fmtV
  rw [if_pos h]
  rfl
theorem aw_text : linesS [⟨#[97]⟩] [awC] 1 = awText := by
  unfold linesS linesS lineS txtS
  simp only [List.getD_cons_zero, awC, aw_fmt]
  decide +kernel
theorem aw_comp : compS awT 1 = (3, 4, 0) := by
  unfold compS nulS
  rw [if_pos awT_valid]
  have hm : memS 1 = [0] := by decide
  rw [hm]
  simp only [List.map_cons, List.map_nil, Int.toNat_zero, awT_prof]
  decide +kernel
def out6 : List Int := [2, 9, 3, 1, 3, 2]
theorem out6_col : colS (colT out6) 0 = [num 1, num 2, num 2, num 3, num 3, num 9] := by
  refine sort_is (by decide +kernel) ?_
  show [num 2, num 9, num 3, num 1, num 3, num 2].Perm [num 1, num 2, num 2, num 3, num 3, num 9]
  have a1 : [num 9, num 3, num 1, num 3, num 2].Perm (num 1 :: [num 9, num 3, num 3, num 2]) := List.perm_middle (l₁ := [num 9, num 3])
  have a2 : [num 9, num 3, num 3, num 2].Perm (num 2 :: [num 9, num 3, num 3]) := List.perm_middle (l₁ := [num 9, num 3, num 3])
  have a3 : [num 9, num 3, num 3].Perm [num 3, num 3, num 9] := (List.Perm.swap ..).trans (List.Perm.cons _ (List.Perm.swap ..))
  exact (List.Perm.cons _ a1).trans ((List.Perm.swap ..).trans (List.Perm.cons _ (List.Perm.cons _ (a2.trans (List.Perm.cons _ a3)))))
theorem out6_nums : numsOf (colS (colT out6) 0) = [1, 2, 2, 3, 3, 9] := by rw [out6_col]; decide
theorem out6_out : outS (colT out6) 0 = [2] := by
  unfold outS
  rw [out6_nums]
  decide
theorem okV_num' (l : List Int) (j : Nat) : okV (1, l.getD j 0, ⟨#[]⟩) = true := okV_num (l.getD j 0)
theorem colT_valid (l : List Int) (h : l.length ≤ 1000) : validS (colT l) = 0 := by
  have hr : ∀ (k j : Nat) (p : Int), p = j → j + k ≤ 1000000 → rowsV 1 p ((List.range' j k).map fun j => cellR l j) = 0 := fun k => by
    induction k with
    | zero => intro j p _ _; rfl
    | succ k ih =>
      intro j p hp hj
      rw [List.range'_succ, List.map_cons, rowsV, if_neg (by show ¬ ((j + 1 : Nat) : Int) ≤ p; omega), if_neg (by simp [cellR]), if_pos (by show (okV (1, l.getD j 0, ⟨#[]⟩) && true) = true; rw [okV_num' l j]; rfl)]
      exact ih (j + 1) _ rfl (by omega)
  have hlen : (colT l).rows.length = l.length := by simp [colT]
  unfold validS
  rw [if_pos (show nameB (colT l).name.data.toList = true from name_r1), if_neg (show ¬ (16 < (colT l).attrs.length ∨ 1000 < (colT l).rows.length) by rw [hlen]; show ¬ (16 < 1 ∨ 1000 < l.length); omega), if_pos (show namesB (colT l).attrs = true from name_a1)]
  show rowsV 1 0 ((List.range l.length).map fun j => cellR l j) = 0
  rw [List.range_eq_range']
  exact hr l.length 0 0 rfl (by omega)
end Go.Ab.A34
/- awake answers true. -/
set_option linter.unusedSimpArgs false
set_option linter.unusedVariables false
set_option linter.unusedSectionVars false
namespace Go.Proofs.YtddkacbcecedaaaGreatDoor
open Go Go.Ab Go.Ab.A34
variable [Gl] [Tabs] [Bru]

theorem colT_64 (l : List Int) (h : ∀ n ∈ l, In64 n) : ∀ r ∈ (colT l).rows, ∀ v ∈ r.2, In64 v.2.1 := by
  intro r hr v hv
  unfold colT at hr
  obtain ⟨j, hj, rfl⟩ := List.mem_map.1 hr
  rw [List.mem_singleton.1 hv]
  exact h _ (getD_mem 0 (List.mem_range.1 hj))
theorem awT_64 : ∀ r ∈ awT.rows, ∀ v ∈ r.2, In64 v.2.1 := by
  intro r hr v hv
  unfold awT num v0 at hr
  simp only [List.mem_cons, List.not_mem_nil, or_false] at hr
  unfold In64
  rcases hr with rfl | rfl | rfl | rfl <;> rw [List.mem_singleton.1 hv] <;> decide

set_option maxHeartbeats 2000000 in
set_option maxRecDepth 20000 in
theorem awake_c : PCall Tryz.prog 6 [] (SB true) := by
  have c1 := col_o [5, 7, 0, 5] (by decide) (by decide)
  have c2 := col_r out6 (by decide)
  have fm := format_c ⟨#[114]⟩ [⟨#[97]⟩] awT.rows [awC] rfl (by decide) (by decide) (by
    intro c hc
    rw [List.mem_singleton.1 hc, ← awT_prof]
    exact prof_co awT 0 awT_valid (by decide) awT_64) (by
    have := all_p awT awT_valid
    have e : (List.range awT.attrs.length).map (profS awT) = [awC] := by
      show [profS awT 0] = [awC]
      rw [awT_prof]
    rw [e] at this
    exact this)
  rw [show linesS [⟨#[97]⟩] [awC] [awC].length = awText from aw_text] at fm
  have cp := comp_p awT 1 (by decide) (by decide) awT_64
  rw [aw_comp] at cp
  replace cp : PCall Tryz.prog 9 [TB awT, U32 1] (FR (3, 4, 0)) := cp
  have op := out_p (colT out6) 0 (by unfold chkS; rw [if_pos (colT_valid out6 (by decide))]; rfl) (colT_64 out6 (by unfold In64 out6; decide))
  rw [out6_out] at op
  replace op : PCall Tryz.prog 13 [TB (colT out6), I64 0] (.tup [NL [2], I64 0]) := op
  have eq1 := eqN_self [2] (by decide)
  generalize colT out6 = T6 at *
  refine Call.enter' (N := 57) (rs := [.tmp 0]) Tryz.func6 rfl rfl rfl (by decide) rfl ?_; simp only [argT]; have hD : (0 : Nat) = 0 := rfl
  refine SW.seq_k fun K0 hK0 => ?_
  repeat' first | (with_reducible refine And.intro (by omega) ?_) | (refine SW.seq_k fun K hK => ?_) | (refine SW.block ?_) | ((first | refine SW.region ?_ | refine SW.regionD (Checked.mixed Tryz.checked) (by kernel_rfl) ?_ | refine SW.cond ?_ | refine SW.skip ?_ | refine SW.exit ?_ | refine SW.ret ?_ | (refine allF_i fun b hb => ?_; replace hD := And.intro hb hD; clear hb; try simp only [fresh_cons, fresh_nil, and_true, ne_eq, neF] at hD) | simp only [appK, appOsK]); try simp only [go_sem, hD]) | (refine And.intro (by omega) ?_) | (refine ifI (fun hc => ?_) (fun hc => ?_) <;> first | (exfalso; omega) | skip) | ((first | apply hK | ((iterate 1 (clear hK K)); apply hK) | ((iterate 2 (clear hK K)); apply hK) | ((iterate 3 (clear hK K)); apply hK) | ((iterate 4 (clear hK K)); apply hK) | ((iterate 5 (clear hK K)); apply hK)); clear hK K)
  refine hK0 _ ?_
  clear hK0
  refine SW.seq_k fun K1 hK1 => ?_
  repeat' first | (with_reducible refine And.intro (by omega) ?_) | (refine SW.seq_k fun K hK => ?_) | (refine SW.block ?_) | ((first | refine SW.region ?_ | refine SW.regionD (Checked.mixed Tryz.checked) (by kernel_rfl) ?_ | refine SW.cond ?_ | refine SW.skip ?_ | refine SW.exit ?_ | refine SW.ret ?_ | (refine allF_i fun b hb => ?_; replace hD := And.intro hb hD; clear hb; try simp only [fresh_cons, fresh_nil, and_true, ne_eq, neF] at hD) | simp only [appK, appOsK]); try simp only [go_sem, hD]) | (refine And.intro (by omega) ?_) | (refine ifI (fun hc => ?_) (fun hc => ?_) <;> first | (exfalso; omega) | skip) | ((first | apply hK | ((iterate 1 (clear hK K)); apply hK) | ((iterate 2 (clear hK K)); apply hK) | ((iterate 3 (clear hK K)); apply hK) | ((iterate 4 (clear hK K)); apply hK) | ((iterate 5 (clear hK K)); apply hK)); clear hK K)
  refine Call.freeze_ints 0 .i64 [5, 7, 0, 5] (by simp) rfl rfl (by rw [find_cons, if_pos rfl]) rfl ?_
  rw [del_head]
  refine Call.mono (Call.frameN (h1 := []) (h2 := []) c1) ?_
  intro r h' hx
  obtain ⟨h1', rfl, ⟨g, vs, hvs, rfl, rfl⟩, hnd⟩ := hx
  obtain ⟨v3, v2, v1, va, rfl⟩ : ∃ a b c d, vs = [a, b, c, d] := by
    match vs, hvs with
    | [a, b, c, d], _ => exact ⟨a, b, c, d, rfl⟩
  simp only [rowsO, valsO, List.append_nil, List.map_cons, List.map_nil, List.nodup_cons, List.mem_cons, List.not_mem_nil, or_false, not_or, not_false_eq_true, and_true, List.nodup_nil] at hnd
  obtain ⟨⟨n1, n2, n3, n4⟩, ⟨n5, n6, n7⟩, ⟨n8, n9⟩, n10⟩ := hnd
  have hD := And.intro (And.intro (eq_false n1) (eq_false (Ne.symm n1))) (And.intro (And.intro (eq_false n2) (eq_false (Ne.symm n2))) (And.intro (And.intro (eq_false n3) (eq_false (Ne.symm n3))) (And.intro (And.intro (eq_false n4) (eq_false (Ne.symm n4))) (And.intro (And.intro (eq_false n5) (eq_false (Ne.symm n5))) (And.intro (And.intro (eq_false n6) (eq_false (Ne.symm n6))) (And.intro (And.intro (eq_false n7) (eq_false (Ne.symm n7))) (And.intro (And.intro (eq_false n8) (eq_false (Ne.symm n8))) (And.intro (And.intro (eq_false n9) (eq_false (Ne.symm n9))) (And.intro (eq_false n10) (eq_false (Ne.symm n10)))))))))))
  simp only [rowsO, valsO, List.append_nil, List.nil_append, List.cons_append]
  repeat' first | (with_reducible refine And.intro (by omega) ?_) | (refine SW.seq_k fun K hK => ?_) | (refine SW.block ?_) | ((first | refine SW.region ?_ | refine SW.regionD (Checked.mixed Tryz.checked) (by kernel_rfl) ?_ | refine SW.cond ?_ | refine SW.skip ?_ | refine SW.exit ?_ | refine SW.ret ?_ | (refine allF_i fun b hb => ?_; replace hD := And.intro hb hD; clear hb; try simp only [fresh_cons, fresh_nil, and_true, ne_eq, neF] at hD) | simp only [appK, appOsK]); try simp only [go_sem, hD]) | (refine And.intro (by omega) ?_) | (refine ifI (fun hc => ?_) (fun hc => ?_) <;> first | (exfalso; omega) | skip) | ((first | apply hK | ((iterate 1 (clear hK K)); apply hK) | ((iterate 2 (clear hK K)); apply hK) | ((iterate 3 (clear hK K)); apply hK) | ((iterate 4 (clear hK K)); apply hK) | ((iterate 5 (clear hK K)); apply hK)); clear hK K)
  refine hK1 _ ?_
  clear hK1
  obtain ⟨tb, rfl⟩ : ∃ x, x = b := ⟨_, rfl⟩
  refine SW.seq_k fun K2 hK2 => ?_
  repeat' first | (with_reducible refine And.intro (by omega) ?_) | (refine SW.seq_k fun K hK => ?_) | (refine SW.block ?_) | ((first | refine SW.region ?_ | refine SW.regionD (Checked.mixed Tryz.checked) (by kernel_rfl) ?_ | refine SW.cond ?_ | refine SW.skip ?_ | refine SW.exit ?_ | refine SW.ret ?_ | (refine allF_i fun b hb => ?_; replace hD := And.intro hb hD; clear hb; try simp only [fresh_cons, fresh_nil, and_true, ne_eq, neF] at hD) | simp only [appK, appOsK]); try simp only [go_sem, hD]) | (refine And.intro (by omega) ?_) | (refine ifI (fun hc => ?_) (fun hc => ?_) <;> first | (exfalso; omega) | skip) | ((first | apply hK | ((iterate 1 (clear hK K)); apply hK) | ((iterate 2 (clear hK K)); apply hK) | ((iterate 3 (clear hK K)); apply hK) | ((iterate 4 (clear hK K)); apply hK) | ((iterate 5 (clear hK K)); apply hK)); clear hK K)
  refine hK2 _ ?_
  clear hK2
  have st0 : ∀ t, (St.mk t [(tb, .svs [Str ⟨#[114]⟩, SL [⟨#[97]⟩], .os g 0 4 2]), (g, .svs [I64 1, .os va 0 1 3, I64 2, .os v1 0 1 3, I64 3, .os v2 0 1 3, I64 4, .os v3 0 1 3]), (v3, .svs (vC (num 5))), (v2, .svs (vC v0)), (v1, .svs (vC (num 7))), (va, .svs (vC (num 5)))]).le ⟨t, [(tb, .svs [Str ⟨#[114]⟩, SL [⟨#[97]⟩], .os g 0 4 2]), (g, .svs [I64 1, VL [num 5], I64 2, .os v1 0 1 3, I64 3, .os v2 0 1 3, I64 4, .os v3 0 1 3]), (v3, .svs (vC (num 5))), (v2, .svs (vC v0)), (v1, .svs (vC (num 7)))]⟩ := fun t => by
    have := St.le_freezeC (t := t) (h := [(tb, .svs [Str ⟨#[114]⟩, SL [⟨#[97]⟩], .os g 0 4 2]), (g, .svs [I64 1, .os va 0 1 3, I64 2, .os v1 0 1 3, I64 3, .os v2 0 1 3, I64 4, .os v3 0 1 3]), (v3, .svs (vC (num 5))), (v2, .svs (vC v0)), (v1, .svs (vC (num 7))), (va, .svs (vC (num 5)))]) (c := g) (j := 1) (b := va) (off := 0) (sz := 3) (len := 1) (k := .svs (vC (num 5))) (cs := [I64 1, .os va 0 1 3, I64 2, .os v1 0 1 3, I64 3, .os v2 0 1 3, I64 4, .os v3 0 1 3]) (by simp only [go_sem, hD]) (by simp [hD]) (by show 1 < 8; omega) rfl (by simp only [go_sem, hD]) (Nat.le_refl 3) (vF [num 5]) (fun p hp => by have e : p = 0 := (by omega); subst e; rfl)
    simp only [go_sem, hD] at this
    exact this
  have st1 : ∀ t, (St.mk t [(tb, .svs [Str ⟨#[114]⟩, SL [⟨#[97]⟩], .os g 0 4 2]), (g, .svs [I64 1, VL [num 5], I64 2, .os v1 0 1 3, I64 3, .os v2 0 1 3, I64 4, .os v3 0 1 3]), (v3, .svs (vC (num 5))), (v2, .svs (vC v0)), (v1, .svs (vC (num 7)))]).le ⟨t, [(tb, .svs [Str ⟨#[114]⟩, SL [⟨#[97]⟩], .os g 0 4 2]), (g, .svs [I64 1, VL [num 5], I64 2, VL [num 7], I64 3, .os v2 0 1 3, I64 4, .os v3 0 1 3]), (v3, .svs (vC (num 5))), (v2, .svs (vC v0))]⟩ := fun t => by
    have := St.le_freezeC (t := t) (h := [(tb, .svs [Str ⟨#[114]⟩, SL [⟨#[97]⟩], .os g 0 4 2]), (g, .svs [I64 1, VL [num 5], I64 2, .os v1 0 1 3, I64 3, .os v2 0 1 3, I64 4, .os v3 0 1 3]), (v3, .svs (vC (num 5))), (v2, .svs (vC v0)), (v1, .svs (vC (num 7)))]) (c := g) (j := 3) (b := v1) (off := 0) (sz := 3) (len := 1) (k := .svs (vC (num 7))) (cs := [I64 1, VL [num 5], I64 2, .os v1 0 1 3, I64 3, .os v2 0 1 3, I64 4, .os v3 0 1 3]) (by simp only [go_sem, hD]) (by simp [hD]) (by show 3 < 8; omega) rfl (by simp only [go_sem, hD]) (Nat.le_refl 3) (vF [num 7]) (fun p hp => by have e : p = 0 := (by omega); subst e; rfl)
    simp only [go_sem, hD] at this
    exact this
  have st2 : ∀ t, (St.mk t [(tb, .svs [Str ⟨#[114]⟩, SL [⟨#[97]⟩], .os g 0 4 2]), (g, .svs [I64 1, VL [num 5], I64 2, VL [num 7], I64 3, .os v2 0 1 3, I64 4, .os v3 0 1 3]), (v3, .svs (vC (num 5))), (v2, .svs (vC v0))]).le ⟨t, [(tb, .svs [Str ⟨#[114]⟩, SL [⟨#[97]⟩], .os g 0 4 2]), (g, .svs [I64 1, VL [num 5], I64 2, VL [num 7], I64 3, VL [v0], I64 4, .os v3 0 1 3]), (v3, .svs (vC (num 5)))]⟩ := fun t => by
    have := St.le_freezeC (t := t) (h := [(tb, .svs [Str ⟨#[114]⟩, SL [⟨#[97]⟩], .os g 0 4 2]), (g, .svs [I64 1, VL [num 5], I64 2, VL [num 7], I64 3, .os v2 0 1 3, I64 4, .os v3 0 1 3]), (v3, .svs (vC (num 5))), (v2, .svs (vC v0))]) (c := g) (j := 5) (b := v2) (off := 0) (sz := 3) (len := 1) (k := .svs (vC (v0))) (cs := [I64 1, VL [num 5], I64 2, VL [num 7], I64 3, .os v2 0 1 3, I64 4, .os v3 0 1 3]) (by simp only [go_sem, hD]) (by simp [hD]) (by show 5 < 8; omega) rfl (by simp only [go_sem, hD]) (Nat.le_refl 3) (vF [v0]) (fun p hp => by have e : p = 0 := (by omega); subst e; rfl)
    simp only [go_sem, hD] at this
    exact this
  have st3 : ∀ t, (St.mk t [(tb, .svs [Str ⟨#[114]⟩, SL [⟨#[97]⟩], .os g 0 4 2]), (g, .svs [I64 1, VL [num 5], I64 2, VL [num 7], I64 3, VL [v0], I64 4, .os v3 0 1 3]), (v3, .svs (vC (num 5)))]).le ⟨t, [(tb, .svs [Str ⟨#[114]⟩, SL [⟨#[97]⟩], .os g 0 4 2]), (g, .svs [I64 1, VL [num 5], I64 2, VL [num 7], I64 3, VL [v0], I64 4, VL [num 5]])]⟩ := fun t => by
    have := St.le_freezeC (t := t) (h := [(tb, .svs [Str ⟨#[114]⟩, SL [⟨#[97]⟩], .os g 0 4 2]), (g, .svs [I64 1, VL [num 5], I64 2, VL [num 7], I64 3, VL [v0], I64 4, .os v3 0 1 3]), (v3, .svs (vC (num 5)))]) (c := g) (j := 7) (b := v3) (off := 0) (sz := 3) (len := 1) (k := .svs (vC (num 5))) (cs := [I64 1, VL [num 5], I64 2, VL [num 7], I64 3, VL [v0], I64 4, .os v3 0 1 3]) (by simp only [go_sem, hD]) (by simp [hD]) (by show 7 < 8; omega) rfl (by simp only [go_sem, hD]) (Nat.le_refl 3) (vF [num 5]) (fun p hp => by have e : p = 0 := (by omega); subst e; rfl)
    simp only [go_sem, hD] at this
    exact this
  have st4 : ∀ t, (St.mk t [(tb, .svs [Str ⟨#[114]⟩, SL [⟨#[97]⟩], .os g 0 4 2]), (g, .svs [I64 1, VL [num 5], I64 2, VL [num 7], I64 3, VL [v0], I64 4, VL [num 5]])]).le ⟨t, [(tb, .svs [Str ⟨#[114]⟩, SL [⟨#[97]⟩], RL awT.rows])]⟩ := fun t => by
    have := St.le_freezeC (t := t) (h := [(tb, .svs [Str ⟨#[114]⟩, SL [⟨#[97]⟩], .os g 0 4 2]), (g, .svs [I64 1, VL [num 5], I64 2, VL [num 7], I64 3, VL [v0], I64 4, VL [num 5]])]) (c := tb) (j := 2) (b := g) (off := 0) (sz := 2) (len := 4) (k := .svs [I64 1, VL [num 5], I64 2, VL [num 7], I64 3, VL [v0], I64 4, VL [num 5]]) (cs := [Str ⟨#[114]⟩, SL [⟨#[97]⟩], .os g 0 4 2]) (by simp only [go_sem, hD]) (by simp [hD]) (by show 2 < 3; omega) rfl (by simp only [go_sem, hD]) (Nat.le_refl 8) (rF awT.rows) (fun p hp => by
      have e : p = 0 ∨ p = 1 ∨ p = 2 ∨ p = 3 := (by omega)
      rcases e with rfl | rfl | rfl | rfl <;> rfl)
    simp only [go_sem, hD] at this
    exact this
  refine Ab.SW.le (S' := ⟨_, [(tb, .svs [Str ⟨#[114]⟩, SL [⟨#[97]⟩], RL awT.rows])]⟩) ((St.le_pick [(tb, .svs [Str ⟨#[114]⟩, SL [⟨#[97]⟩], .os g 0 4 2]), (g, .svs [I64 1, .os va 0 1 3, I64 2, .os v1 0 1 3, I64 3, .os v2 0 1 3, I64 4, .os v3 0 1 3]), (v3, .svs (vC (num 5))), (v2, .svs (vC v0)), (v1, .svs (vC (num 7))), (va, .svs (vC (num 5)))] ?_ ?_).trans ((st0 _).trans ((st1 _).trans ((st2 _).trans ((st3 _).trans (st4 _)))))) ?_
  · repeat' (first | exact (fun x hx => (List.not_mem_nil hx).elim) | refine List.forall_mem_cons.2 ⟨?_, ?_⟩ | exact List.mem_cons_self | apply List.mem_cons_of_mem)
  · simp [fresh_cons, fresh_nil, hD]
  clear hD
  have hD : (0 : Nat) = 0 := rfl
  repeat' first | (with_reducible refine And.intro (by omega) ?_) | (refine SW.seq_k fun K hK => ?_) | (refine SW.block ?_) | ((first | refine SW.region ?_ | refine SW.regionD (Checked.mixed Tryz.checked) (by kernel_rfl) ?_ | refine SW.cond ?_ | refine SW.skip ?_ | refine SW.exit ?_ | refine SW.ret ?_ | refine Call.of_pure (fm) ?_ | refine ⟨_, fm, ?_⟩ | refine Call.of_pure (cp) ?_ | refine ⟨_, cp, ?_⟩ | (refine allF_i fun b hb => ?_; replace hD := And.intro hb hD; clear hb; try simp only [fresh_cons, fresh_nil, and_true, ne_eq, neF] at hD) | simp only [appK, appOsK]); try simp only [go_sem, hD, true_implies]) | (refine And.intro (by omega) ?_) | (refine ifI (fun hc => ?_) (fun hc => ?_) <;> first | (exfalso; omega) | skip) | ((first | apply hK | ((iterate 1 (clear hK K)); apply hK) | ((iterate 2 (clear hK K)); apply hK) | ((iterate 3 (clear hK K)); apply hK) | ((iterate 4 (clear hK K)); apply hK) | ((iterate 5 (clear hK K)); apply hK)); clear hK K)
  refine Call.freeze_ints 0 .i64 out6 (by simp) rfl rfl (by simp only [go_sem, hD]; rfl) rfl ?_
  simp only [List.set_cons_zero, go_sem, hD]
  repeat' first | (with_reducible refine And.intro (by omega) ?_) | (refine SW.seq_k fun K hK => ?_) | (refine SW.block ?_) | ((first | refine SW.region ?_ | refine SW.regionD (Checked.mixed Tryz.checked) (by kernel_rfl) ?_ | refine SW.cond ?_ | refine SW.skip ?_ | refine SW.exit ?_ | refine SW.ret ?_ | refine Call.of_pure (c2) ?_ | refine ⟨_, c2, ?_⟩ | refine Call.of_pure (op) ?_ | refine ⟨_, op, ?_⟩ | (refine allF_i fun b hb => ?_; replace hD := And.intro hb hD; clear hb; try simp only [fresh_cons, fresh_nil, and_true, ne_eq, neF] at hD) | simp only [appK, appOsK]); try simp only [go_sem, hD, true_implies]) | (refine And.intro (by omega) ?_) | (refine ifI (fun hc => ?_) (fun hc => ?_) <;> first | (exfalso; omega) | skip) | ((first | apply hK | ((iterate 1 (clear hK K)); apply hK) | ((iterate 2 (clear hK K)); apply hK) | ((iterate 3 (clear hK K)); apply hK) | ((iterate 4 (clear hK K)); apply hK) | ((iterate 5 (clear hK K)); apply hK)); clear hK K)
  · refine Call.freeze_ints 1 .i64 [2] (by simp) rfl rfl (by simp only [go_sem, hD]; rfl) rfl ?_
    simp only [List.set_cons_zero, List.set_cons_succ, go_sem, hD]
    repeat' first | (with_reducible refine And.intro (by omega) ?_) | (refine SW.seq_k fun K hK => ?_) | (refine SW.block ?_) | ((first | refine SW.region ?_ | refine SW.regionD (Checked.mixed Tryz.checked) (by kernel_rfl) ?_ | refine SW.cond ?_ | refine SW.skip ?_ | refine SW.exit ?_ | refine SW.ret ?_ | refine Call.of_pure (eq1) ?_ | refine ⟨_, eq1, ?_⟩ | (refine allF_i fun b hb => ?_; replace hD := And.intro hb hD; clear hb; try simp only [fresh_cons, fresh_nil, and_true, ne_eq, neF] at hD) | simp only [appK, appOsK]); try simp only [go_sem, hD, true_implies]) | (refine And.intro (by omega) ?_) | (refine ifI (fun hc => ?_) (fun hc => ?_) <;> first | (exfalso; omega) | skip) | ((first | apply hK | ((iterate 1 (clear hK K)); apply hK) | ((iterate 2 (clear hK K)); apply hK) | ((iterate 3 (clear hK K)); apply hK) | ((iterate 4 (clear hK K)); apply hK) | ((iterate 5 (clear hK K)); apply hK)); clear hK K)
    refine ret_pure ?_; simp only [resL_tmp, resL_nil, tupOf, go_sem, hD]
  · exact absurd (barr_eq.2 rfl) hc
end Go.Proofs.YtddkacbcecedaaaGreatDoor
/- (seat ZD's numbers) What spoiled returns; the law of Format. -/
set_option linter.unusedSimpArgs false
set_option linter.unusedVariables false
set_option linter.unusedSectionVars false
namespace Go.Proofs.YtddkacbcecedaaaGreatDoor
open Go Go.Ab Go.Ab.A34 Go.Ab.A01
variable [Gl] [Tabs] [Bru]

theorem code_64 (c : Int) : In64 (codeV c).2.1 := by
  unfold In64 codeV
  repeat' split
  all_goals decide
/-- A table of this kind. -/
def Tame (t : Tb) : Prop := (∀ r ∈ t.rows, r.2.length ≤ 5 ∧ ∀ v ∈ r.2, In64 v.2.1) ∧ t.attrs.length ≤ 5 ∧ ∀ a ∈ t.attrs, 1 ≤ a.size ∧ a.size ≤ 24
theorem tab_tame (x : Rc) : Tame (tabS x) := by
  refine ⟨fun r hr => ?_, ?_, fun a ha => ?_⟩
  · unfold tabS wideS at hr
    obtain ⟨j, hj, rfl⟩ := List.mem_map.1 hr
    unfold rowS
    refine ⟨by simp only [List.length_map, List.length_range]; omega, fun v hv => ?_⟩
    obtain ⟨k, _, rfl⟩ := List.mem_map.1 hv
    exact code_64 _
  · show (nm8.take (x.attrs % 6).toNat).length ≤ 5
    rw [List.length_take]
    omega
  · have h1 : ∀ a ∈ nm8, 1 ≤ a.size ∧ a.size ≤ 24 := by decide +kernel
    exact h1 a (List.mem_of_mem_take ha)
theorem bad_tame (x : Rc) : Tame (badS (tabS x)) := by
  obtain ⟨h1, h2, h3⟩ := tab_tame x
  refine ⟨fun r hr => ?_, h2, h3⟩
  unfold badS at hr
  rcases List.mem_append.1 hr with hr | hr
  · exact h1 r hr
  · rw [List.mem_singleton.1 hr]
    exact ⟨Nat.zero_le _, fun v hv => by cases hv⟩
theorem spoiled_d (x : Rc) (hx : okRc x) (q : Bool) : PCall Tryz.prog 5 [RC x, SB q] (.tup [TZ, SB false]) ∨ ∃ t, Tame t ∧ PCall Tryz.prog 5 [RC x, SB q] (.tup [TB t, SB true]) := by
  by_cases h : 12 < x.rows.length
  · exact .inl (spoiled_big x q h)
  · cases q with
    | false => exact .inr ⟨_, tab_tame x, spoiled_ok x hx (by omega)⟩
    | true => exact .inr ⟨_, bad_tame x, spoiled_bad x hx (by omega)⟩
theorem fmt_both (t : Tb) (ht : Tame t) : ∃ s e, PCall Tryz.prog 7 [TB t] (.tup [Str s, I64 e]) ∧ PCall Tryz.prog 8 [TB t] (.tup [Str s, I64 e]) := by
  obtain ⟨h1, h2, h3⟩ := ht
  by_cases h : validS t = 0
  · have hco : ∀ c ∈ (List.range t.attrs.length).map (profS t), OkCo c := fun c hc => by
      obtain ⟨a, ha, rfl⟩ := List.mem_map.1 hc
      exact prof_co t a h (List.mem_range.1 ha) (fun r hr => (h1 r hr).2)
    have fp := format_c t.name t.attrs t.rows ((List.range t.attrs.length).map (profS t)) (by simp) (by omega) h3 hco (all_p t h)
    have fr := formatR_r t h _ rfl hco h3
    rw [show ((List.range t.attrs.length).map (profS t)).length = t.attrs.length by simp] at fp
    exact ⟨_, _, fp, fr⟩
  · exact ⟨_, _, format_bad t h, formatR_bad t (fun r hr => by have := (h1 r hr).1; omega) h⟩

set_option maxHeartbeats 1000000 in
set_option maxRecDepth 20000 in
theorem law_format (x : Rc) (hx : okRc x) (q : Bool) : PCall Tryz.prog 3 [RC x, SB q] (SB true) := by
  have aw := awake_c
  have bs : ∀ s : ByteArray, (s.toList == s.toList) = true := fun s => by simp
  rcases spoiled_d x hx q with sp | ⟨t, ht, sp⟩
  · refine Call.enter' (N := 42) (rs := [.tmp 4]) Tryz.func3 rfl rfl rfl (by decide) rfl ?_; simp only [argT]; have hD : (0 : Nat) = 0 := rfl
    repeat' first | (with_reducible refine And.intro (by omega) ?_) | (refine SW.seq_k fun K hK => ?_) | (refine SW.block ?_) | ((first | refine SW.region ?_ | refine SW.regionD (Checked.mixed Tryz.checked) (by kernel_rfl) ?_ | refine SW.cond ?_ | refine SW.skip ?_ | refine SW.exit ?_ | refine SW.ret ?_ | refine Call.of_pure (sp) ?_ | refine ⟨_, sp, ?_⟩ | refine Call.of_pure (aw) ?_ | refine ⟨_, aw, ?_⟩ | (refine allF_i fun b hb => ?_; replace hD := And.intro hb hD; clear hb; try simp only [fresh_cons, fresh_nil, and_true, ne_eq, neF] at hD) | simp only [appK, appOsK]); try simp only [go_sem, hD]) | (refine And.intro (by omega) ?_) | (refine ifI (fun hc => ?_) (fun hc => ?_) <;> first | (exfalso; omega) | skip) | ((first | apply hK | ((iterate 1 (clear hK K)); apply hK) | ((iterate 2 (clear hK K)); apply hK) | ((iterate 3 (clear hK K)); apply hK) | ((iterate 4 (clear hK K)); apply hK) | ((iterate 5 (clear hK K)); apply hK)); clear hK K)
    refine ret_pure ?_; simp only [resL_tmp, resL_nil, tupOf, go_sem, hD]
  · obtain ⟨s, e, o1, o2⟩ := fmt_both t ht
    refine Call.enter' (N := 42) (rs := [.tmp 4]) Tryz.func3 rfl rfl rfl (by decide) rfl ?_; simp only [argT]; have hD : (0 : Nat) = 0 := rfl
    repeat' first | (with_reducible refine And.intro (by omega) ?_) | (refine SW.seq_k fun K hK => ?_) | (refine SW.block ?_) | ((first | refine SW.region ?_ | refine SW.regionD (Checked.mixed Tryz.checked) (by kernel_rfl) ?_ | refine SW.cond ?_ | refine SW.skip ?_ | refine SW.exit ?_ | refine SW.ret ?_ | refine Call.of_pure (sp) ?_ | refine ⟨_, sp, ?_⟩ | refine Call.of_pure (aw) ?_ | refine ⟨_, aw, ?_⟩ | refine Call.of_pure (o1) ?_ | refine ⟨_, o1, ?_⟩ | refine Call.of_pure (o2) ?_ | refine ⟨_, o2, ?_⟩ | (refine allF_i fun b hb => ?_; replace hD := And.intro hb hD; clear hb; try simp only [fresh_cons, fresh_nil, and_true, ne_eq, neF] at hD) | simp only [appK, appOsK]); try simp only [go_sem, hD, bs]) | (refine And.intro (by omega) ?_) | (refine ifI (fun hc => ?_) (fun hc => ?_) <;> first | (exfalso; omega) | skip) | ((first | apply hK | ((iterate 1 (clear hK K)); apply hK) | ((iterate 2 (clear hK K)); apply hK) | ((iterate 3 (clear hK K)); apply hK) | ((iterate 4 (clear hK K)); apply hK) | ((iterate 5 (clear hK K)); apply hK)); clear hK K)
    refine ret_pure ?_; simp only [resL_tmp, resL_nil, tupOf, go_sem, hD]
end Go.Proofs.YtddkacbcecedaaaGreatDoor
/- Contracts of the fractions of the reference: words of 128 bits. -/
set_option linter.unusedSimpArgs false
set_option linter.unusedVariables false
set_option linter.unusedSectionVars false
namespace Go.Ab
open Go
/-- A number of 128 bits, its high word ahead. -/
abbrev Wd (x : Nat) : SV := .agg [U64 (x / 18446744073709551616 : Nat), U64 (x % 18446744073709551616 : Nat)]
theorem Wd_eq {a b : Int} {x : Nat} (h1 : a = (x / 18446744073709551616 : Nat)) (h2 : b = (x % 18446744073709551616 : Nat)) : SV.agg [U64 a, U64 b] = Wd x := by rw [h1, h2]
end Go.Ab
namespace Go.Proofs.YtddkacbcecedaaaGreatDoor
open Go Go.Ab
variable [Gl]

theorem add64 (x y c : Nat) (hc : c ≤ 1) : PCall Tryz.prog 110 [U64 x, U64 y, U64 c] (.tup [U64 ((x + y + c) % 18446744073709551616 : Nat), U64 ((x + y + c) / 18446744073709551616 : Nat)]) := by
  refine PCall.native fun E w vs hr => ?_
  obtain rfl := reps3 hr
  refine ⟨_, ?_, fun E' => rep_tup2 _ _⟩
  rw [run_callFunc_extern Tryz.func110 (by kernel_rfl) (by kernel_rfl) (by kernel_rfl) (e := add64Entry) (by kernel_rfl), run_add64 x y c (by omega) (by omega) (by omega) (by omega)]
  simp only [Result.andThen]
  congr 5 <;> omega

theorem sub64 (x y b : Nat) (hb : b ≤ 1) : PCall Tryz.prog 111 [U64 x, U64 y, U64 b] (.tup [U64 ((x + 18446744073709551616 - y - b) % 18446744073709551616 : Nat), U64 (if x < y + b then 1 else 0 : Nat)]) := by
  refine PCall.native fun E w vs hr => ?_
  obtain rfl := reps3 hr
  refine ⟨_, ?_, fun E' => rep_tup2 _ _⟩
  rw [run_callFunc_extern Tryz.func111 (by kernel_rfl) (by kernel_rfl) (by kernel_rfl) (e := sub64Entry) (by kernel_rfl), run_sub64 x y b hb]
  rfl

theorem plus_r (x y : Nat) (hx : x < 340282366920938463463374607431768211456) (hy : y < 340282366920938463463374607431768211456) : PCall Tryz.prog 89 [Wd x, Wd y] (Wd ((x + y) % 340282366920938463463374607431768211456)) := by
  refine Call.enter' (N := 29) (rs := [.cell 4 108]) Tryz.func89 rfl rfl rfl (by decide) rfl ?_; simp only [argT]; have hD : (0 : Nat) = 0 := rfl
  have a1 := add64 (x % 18446744073709551616) (y % 18446744073709551616) 0 (by omega)
  have a2 := add64 (x / 18446744073709551616) (y / 18446744073709551616) ((x % 18446744073709551616 + y % 18446744073709551616 + 0) / 18446744073709551616) (by omega)
  repeat' first | (with_reducible refine And.intro (by omega) ?_) | (refine SW.seq_k fun K hK => ?_) | (refine SW.block ?_) | ((first | refine SW.region ?_ | refine SW.regionD (Checked.mixed Tryz.checked) (by kernel_rfl) ?_ | refine SW.cond ?_ | refine SW.skip ?_ | refine SW.exit ?_ | refine SW.ret ?_ | refine Call.of_pure (a1) ?_ | refine ⟨_, a1, ?_⟩ | refine Call.of_pure (a2) ?_ | refine ⟨_, a2, ?_⟩ | (refine allF_i fun b hb => ?_; replace hD := And.intro hb hD; clear hb; try simp only [fresh_cons, fresh_nil, and_true, ne_eq, neF] at hD) | simp only [appK, appOsK]); try simp only [go_sem, hD]) | (refine And.intro (by omega) ?_) | (refine ifI (fun hc => ?_) (fun hc => ?_) <;> first | (exfalso; omega) | skip) | ((first | apply hK | ((iterate 1 (clear hK K)); apply hK) | ((iterate 2 (clear hK K)); apply hK) | ((iterate 3 (clear hK K)); apply hK) | ((iterate 4 (clear hK K)); apply hK) | ((iterate 5 (clear hK K)); apply hK)); clear hK K)
  apply ret_cell (i := 4) (n := 2); exact rfl; (simp only [go_sem, hD]; try rfl); (first | exact Nat.le_refl _ | decide); simp only [resL_tmp, resL_cellE, resC_ok, resL_nil, tupOf, getN, go_sem, hD]
  exact Wd_eq (by omega) (by omega)

theorem minus_r (x y : Nat) (hx : x < 340282366920938463463374607431768211456) (hy : y < 340282366920938463463374607431768211456) (hle : y ≤ x) : PCall Tryz.prog 90 [Wd x, Wd y] (Wd (x - y)) := by
  refine Call.enter' (N := 29) (rs := [.cell 4 108]) Tryz.func90 rfl rfl rfl (by decide) rfl ?_; simp only [argT]; have hD : (0 : Nat) = 0 := rfl
  have a1 := sub64 (x % 18446744073709551616) (y % 18446744073709551616) 0 (by omega)
  have a2 := sub64 (x / 18446744073709551616) (y / 18446744073709551616) (if x % 18446744073709551616 < y % 18446744073709551616 + 0 then 1 else 0) (by split <;> omega)
  repeat' first | (with_reducible refine And.intro (by omega) ?_) | (refine SW.seq_k fun K hK => ?_) | (refine SW.block ?_) | ((first | refine SW.region ?_ | refine SW.regionD (Checked.mixed Tryz.checked) (by kernel_rfl) ?_ | refine SW.cond ?_ | refine SW.skip ?_ | refine SW.exit ?_ | refine SW.ret ?_ | refine Call.of_pure (a1) ?_ | refine ⟨_, a1, ?_⟩ | refine Call.of_pure (a2) ?_ | refine ⟨_, a2, ?_⟩ | (refine allF_i fun b hb => ?_; replace hD := And.intro hb hD; clear hb; try simp only [fresh_cons, fresh_nil, and_true, ne_eq, neF] at hD) | simp only [appK, appOsK]); try simp only [go_sem, hD]) | (refine And.intro (by omega) ?_) | (refine ifI (fun hc => ?_) (fun hc => ?_) <;> first | (exfalso; omega) | skip) | ((first | apply hK | ((iterate 1 (clear hK K)); apply hK) | ((iterate 2 (clear hK K)); apply hK) | ((iterate 3 (clear hK K)); apply hK) | ((iterate 4 (clear hK K)); apply hK) | ((iterate 5 (clear hK K)); apply hK)); clear hK K)
  apply ret_cell (i := 4) (n := 2); exact rfl; (simp only [go_sem, hD]; try rfl); (first | exact Nat.le_refl _ | decide); simp only [resL_tmp, resL_cellE, resC_ok, resL_nil, tupOf, getN, go_sem, hD]
  exact Wd_eq (by split <;> omega) (by omega)

theorem less_r (x y : Nat) (hx : x < 340282366920938463463374607431768211456) (hy : y < 340282366920938463463374607431768211456) : PCall Tryz.prog 76 [Wd x, Wd y] (SB (decide (x < y))) := by
  refine Call.enter' (N := 24) (rs := [.tmp 4]) Tryz.func76 rfl rfl rfl (by decide) rfl ?_; simp only [argT]; have hD : (0 : Nat) = 0 := rfl
  repeat' first | (with_reducible refine And.intro (by omega) ?_) | (refine SW.seq_k fun K hK => ?_) | (refine SW.block ?_) | ((first | refine SW.region ?_ | refine SW.regionD (Checked.mixed Tryz.checked) (by kernel_rfl) ?_ | refine SW.cond ?_ | refine SW.skip ?_ | refine SW.exit ?_ | refine SW.ret ?_ | (refine allF_i fun b hb => ?_; replace hD := And.intro hb hD; clear hb; try simp only [fresh_cons, fresh_nil, and_true, ne_eq, neF] at hD) | simp only [appK, appOsK]); try simp only [go_sem, hD]) | (refine And.intro (by omega) ?_) | (refine ifI (fun hc => ?_) (fun hc => ?_) <;> first | (exfalso; omega) | skip) | ((first | apply hK | ((iterate 1 (clear hK K)); apply hK) | ((iterate 2 (clear hK K)); apply hK) | ((iterate 3 (clear hK K)); apply hK) | ((iterate 4 (clear hK K)); apply hK) | ((iterate 5 (clear hK K)); apply hK)); clear hK K)
  all_goals
    refine ret_pure ?_; simp only [resL_tmp, resL_nil, tupOf, go_sem, hD]
    refine bool_eq ?_
    first
      | (rw [decide_eq_decide]; omega)
      | (symm; rw [decide_eq_true_eq]; omega)
      | (symm; rw [decide_eq_false_iff_not]; omega)

theorem size_r (n : Int) (h0 : -9223372036854775808 ≤ n) (h1 : n ≤ 9223372036854775807) : PCall Tryz.prog 58 [I64 n] (.agg [U64 0, U64 n.natAbs]) := by
  refine Call.enter' (N := 12) (rs := [.cell 2 108]) Tryz.func58 rfl rfl rfl (by decide) rfl ?_; simp only [argT]; have hD : (0 : Nat) = 0 := rfl
  repeat' first | (with_reducible refine And.intro (by omega) ?_) | (refine SW.seq_k fun K hK => ?_) | (refine SW.block ?_) | ((first | refine SW.region ?_ | refine SW.regionD (Checked.mixed Tryz.checked) (by kernel_rfl) ?_ | refine SW.cond ?_ | refine SW.skip ?_ | refine SW.exit ?_ | refine SW.ret ?_ | (refine allF_i fun b hb => ?_; replace hD := And.intro hb hD; clear hb; try simp only [fresh_cons, fresh_nil, and_true, ne_eq, neF] at hD) | simp only [appK, appOsK]); try simp only [go_sem, hD]) | (refine And.intro (by omega) ?_) | (refine ifI (fun hc => ?_) (fun hc => ?_) <;> first | (exfalso; omega) | skip) | ((first | apply hK | ((iterate 1 (clear hK K)); apply hK) | ((iterate 2 (clear hK K)); apply hK) | ((iterate 3 (clear hK K)); apply hK) | ((iterate 4 (clear hK K)); apply hK) | ((iterate 5 (clear hK K)); apply hK)); clear hK K)
  · apply ret_cell (i := 2) (n := 2); exact rfl; (simp only [go_sem, hD]; try rfl); (first | exact Nat.le_refl _ | decide); simp only [resL_tmp, resL_cellE, resC_ok, resL_nil, tupOf, getN, go_sem, hD]
    rw [absw_neg h0 (by omega)]
  · apply ret_cell (i := 2) (n := 2); exact rfl; (simp only [go_sem, hD]; try rfl); (first | exact Nat.le_refl _ | decide); simp only [resL_tmp, resL_cellE, resC_ok, resL_nil, tupOf, getN, go_sem, hD]
    rw [absw_pos (by omega) h1]

theorem zero_r (x : Nat) (hx : x < 340282366920938463463374607431768211456) : PCall Tryz.prog 74 [Wd x] (SB (decide (x = 0))) := by
  refine Call.enter' (N := 11) (rs := [.tmp 2]) Tryz.func74 rfl rfl rfl (by decide) rfl ?_; simp only [argT]; have hD : (0 : Nat) = 0 := rfl
  repeat' first | (with_reducible refine And.intro (by omega) ?_) | (refine SW.seq_k fun K hK => ?_) | (refine SW.block ?_) | ((first | refine SW.region ?_ | refine SW.regionD (Checked.mixed Tryz.checked) (by kernel_rfl) ?_ | refine SW.cond ?_ | refine SW.skip ?_ | refine SW.exit ?_ | refine SW.ret ?_ | (refine allF_i fun b hb => ?_; replace hD := And.intro hb hD; clear hb; try simp only [fresh_cons, fresh_nil, and_true, ne_eq, neF] at hD) | simp only [appK, appOsK]); try simp only [go_sem, hD]) | (refine And.intro (by omega) ?_) | (refine ifI (fun hc => ?_) (fun hc => ?_) <;> first | (exfalso; omega) | skip) | ((first | apply hK | ((iterate 1 (clear hK K)); apply hK) | ((iterate 2 (clear hK K)); apply hK) | ((iterate 3 (clear hK K)); apply hK) | ((iterate 4 (clear hK K)); apply hK) | ((iterate 5 (clear hK K)); apply hK)); clear hK K)
  all_goals
    refine ret_pure ?_; simp only [resL_tmp, resL_nil, tupOf, go_sem, hD]
    refine bool_eq ?_
    first
      | (rw [decide_eq_decide]; omega)
      | (symm; rw [decide_eq_true_eq]; omega)
      | (symm; rw [decide_eq_false_iff_not]; omega)
end Go.Proofs.YtddkacbcecedaaaGreatDoor
/- Contracts of the reference: division bit by bit. -/
set_option linter.unusedSimpArgs false
set_option linter.unusedVariables false
set_option linter.unusedSectionVars false
namespace Go.Ab
open Go
/-- One bit of a number. -/
theorem bit_hi {a i : Nat} (h1 : 64 ≤ i) : a / 18446744073709551616 / 2 ^ (i % 64) = a / 2 ^ (64 + i % 64) := by
  rw [Nat.div_div_eq_div_mul, Nat.pow_add]
theorem bit_lo {a i : Nat} (h : i < 64) : a % 18446744073709551616 / 2 ^ i % 2 = a / 2 ^ i % 2 := by
  have e : 18446744073709551616 = 2 ^ i * (2 * 2 ^ (63 - i)) := by
    rw [← Nat.mul_assoc, ← Nat.pow_succ, ← Nat.pow_add, show i + 1 + (63 - i) = 64 by omega]
  rw [e, Nat.mod_mul_right_div_self, Nat.mod_mul_right_mod]
theorem fdiv_pow (x k : Nat) : Int.fdiv (x : Int) (2 ^ k) = ((x / 2 ^ k : Nat) : Int) := by
  rw [Int.fdiv_eq_ediv_of_nonneg _ (by exact Int.pow_nonneg (by decide))]
  rw [Int.natCast_ediv, Int.natCast_pow]; rfl
/-- One step of a division. -/
theorem div_step {A b q r t : Nat} (hb : 0 < b) (hq : q = A / b) (hr : r = A % b) (ht : t < 2) :
    (b ≤ 2 * r + t → (2 * A + t) / b = 2 * q + 1 ∧ (2 * A + t) % b = 2 * r + t - b) ∧ (2 * r + t < b → (2 * A + t) / b = 2 * q ∧ (2 * A + t) % b = 2 * r + t) := by
  have h0 : A = b * q + r := by rw [hq, hr]; exact (Nat.div_add_mod A b).symm
  have hlt : r < b := by rw [hr]; exact Nat.mod_lt _ hb
  have e2 : 2 * (b * q) = b * (2 * q) := by rw [Nat.mul_left_comm]
  refine ⟨fun h => ?_, fun h => ?_⟩
  · have e : 2 * A + t = (2 * r + t - b) + b * (2 * q + 1) := by rw [Nat.mul_add, Nat.mul_one]; omega
    rw [e, Nat.add_mul_div_left _ _ hb, Nat.add_mul_mod_self_left, Nat.div_eq_of_lt (by omega), Nat.mod_eq_of_lt (by omega)]
    omega
  · have e : 2 * A + t = (2 * r + t) + b * (2 * q) := by omega
    rw [e, Nat.add_mul_div_left _ _ hb, Nat.add_mul_mod_self_left, Nat.div_eq_of_lt h, Nat.mod_eq_of_lt h]
    omega
end Go.Ab
namespace Go.Proofs.YtddkacbcecedaaaGreatDoor
open Go Go.Ab
variable [Gl]

set_option maxHeartbeats 4000000 in
theorem parts_r (a d : Nat) (ha : a < 340282366920938463463374607431768211456) (hd0 : 0 < d) (hd1 : d ≤ 170141183460469231731687303715884105728) : PCall Tryz.prog 75 [Wd a, Wd d] (.tup [Wd (a / d), Wd (a % d)]) := by
  have hd2 : d < 340282366920938463463374607431768211456 := by omega
  refine Call.enter' (N := 48) (rs := [.cell 4 108, .cell 5 108]) Tryz.func75 rfl rfl rfl (by decide) rfl ?_; simp only [argT]; have hD : (0 : Nat) = 0 := rfl
  repeat' first | (with_reducible refine And.intro (by omega) ?_) | (refine SW.seq_k fun K hK => ?_) | (refine SW.block ?_) | ((first | refine SW.region ?_ | refine SW.regionD (Checked.mixed Tryz.checked) (by kernel_rfl) ?_ | refine SW.cond ?_ | refine SW.skip ?_ | refine SW.exit ?_ | refine SW.ret ?_ | (refine allF_i fun b hb => ?_; replace hD := And.intro hb hD; clear hb; try simp only [fresh_cons, fresh_nil, and_true, ne_eq, neF] at hD) | simp only [appK, appOsK]); try simp only [go_sem, hD]) | (refine And.intro (by omega) ?_) | (refine ifI (fun hc => ?_) (fun hc => ?_) <;> first | (exfalso; omega) | skip) | ((first | apply hK | ((iterate 1 (clear hK K)); apply hK) | ((iterate 2 (clear hK K)); apply hK) | ((iterate 3 (clear hK K)); apply hK) | ((iterate 4 (clear hK K)); apply hK) | ((iterate 5 (clear hK K)); apply hK)); clear hK K)
  rename_i b2 b3 b4 b5 b6
  obtain ⟨I, hI⟩ : ∃ I : Nat → St → Prop, ∀ n S, I n S ↔ (∃ (q r : Nat) (x1 x2 y1 y2 : Int), n ≤ 128 ∧ q = a / 2 ^ n / d ∧ r = a / 2 ^ n % d ∧ x1 = (q / 18446744073709551616 : Nat) ∧ x2 = (q % 18446744073709551616 : Nat) ∧ y1 = (r / 18446744073709551616 : Nat) ∧ y2 = (r % 18446744073709551616 : Nat) ∧
    S = ⟨[(8, I64 ((n : Int) - 1)), (2, .op b2 0), (3, .op b3 0), (4, .op b4 0), (5, .op b5 0), (6, .op b6 0), (7, .op b 0)], [(b, .svs [U64 y1, U64 y2]), (b6, .svs [U64 x1, U64 x2]), (b5, .svs [U64 0, U64 0]), (b4, .svs [U64 0, U64 0]), (b3, .svs [U64 (d / 18446744073709551616 : Nat), U64 (d % 18446744073709551616 : Nat)]), (b2, .svs [U64 (a / 18446744073709551616 : Nat), U64 (a % 18446744073709551616 : Nat)])]⟩) := ⟨fun n S => _, fun _ _ => Iff.rfl⟩
  have hz : a / 2 ^ 128 = 0 := Nat.div_eq_of_lt (Nat.lt_of_lt_of_le ha (by decide))
  refine SW.loop' I 128 ((hI _ _).2 ⟨0, 0, 0, 0, 0, 0, Nat.le_refl _, by rw [hz, Nat.zero_div], by rw [hz, Nat.zero_mod], rfl, rfl, rfl, rfl, rfl⟩) (by repeat' (first | exact rfl | exact trivial | exact int_eq (by omega) | exact int_eq (by (rw [i64_wrap] <;> omega)) | constructor)) ?_
  intro n S hIn
  obtain ⟨q, r, _, _, _, _, hn, hq, hr, rfl, rfl, rfl, rfl, rfl⟩ := (hI _ _).1 hIn
  clear hIn
  cases n with
  | zero =>
    repeat' first | (with_reducible refine And.intro (by omega) ?_) | (refine SW.seq_k fun K hK => ?_) | (refine SW.block ?_) | ((first | refine SW.region ?_ | refine SW.cond ?_ | refine SW.skip ?_ | refine SW.exit ?_ | refine SW.ret ?_ | (refine allF_i fun b hb => ?_; replace hD := And.intro hb hD; clear hb; try simp only [fresh_cons, fresh_nil, and_true, ne_eq, neF] at hD) | simp only [appK, appOsK]); try simp only [go_sem, hD]) | (refine And.intro (by omega) ?_) | (refine ifI (fun hc => ?_) (fun hc => ?_) <;> first | (exfalso; omega) | skip) | ((first | apply hK | ((iterate 1 (clear hK K)); apply hK) | ((iterate 2 (clear hK K)); apply hK) | ((iterate 3 (clear hK K)); apply hK) | ((iterate 4 (clear hK K)); apply hK) | ((iterate 5 (clear hK K)); apply hK)); clear hK K)
    refine SW.regionT (Checked.mixed Tryz.checked) ((.alt 0 (.alt 1 (.alt 2 (.alt 3 .done .nil) .nil) (.alt 2 (.alt 1 (.alt 3 .done .nil) .nil) .nil)) (.alt 1 (.alt 0 (.alt 2 (.alt 3 .done .nil) .nil) .nil) .nil)) : OT) (by kernel_rfl) ?_; simp only [go_sem, hD]
    rw [Nat.pow_zero, Nat.div_one] at hq hr
    subst hq hr
    refine ⟨⟨?_, ?_⟩, ?_⟩
    all_goals
      repeat' first | (with_reducible refine And.intro (by omega) ?_) | (refine SW.seq_k fun K hK => ?_) | (refine SW.block ?_) | ((first | refine SW.region ?_ | refine SW.regionD (Checked.mixed Tryz.checked) (by kernel_rfl) ?_ | refine SW.cond ?_ | refine SW.skip ?_ | refine SW.exit ?_ | refine SW.ret ?_ | (refine allF_i fun b hb => ?_; replace hD := And.intro hb hD; clear hb; try simp only [fresh_cons, fresh_nil, and_true, ne_eq, neF] at hD) | simp only [appK, appOsK]); try simp only [go_sem, hD]) | (refine And.intro (by omega) ?_) | (refine ifI (fun hc => ?_) (fun hc => ?_) <;> first | (exfalso; omega) | skip) | ((first | apply hK | ((iterate 1 (clear hK K)); apply hK) | ((iterate 2 (clear hK K)); apply hK) | ((iterate 3 (clear hK K)); apply hK) | ((iterate 4 (clear hK K)); apply hK) | ((iterate 5 (clear hK K)); apply hK)); clear hK K)
      apply ret_cell2 (i := 4) (n := 2) (j := 5) (m := 2); exact rfl; exact rfl; decide; (simp only [go_sem, hD]; try rfl); (simp only [go_sem, hD]; try rfl); (first | exact Nat.le_refl _ | decide); (first | exact Nat.le_refl _ | decide); simp only [resL_tmp, resL_cellE, resC_ok, resL_nil, tupOf, getN, go_sem, hD]
  | succ i =>
    have e0 : ((i + 1 : Nat) : Int) - 1 = (i : Int) := by omega
    rw [e0]
    have hA : a / 2 ^ i = 2 * (a / 2 ^ (i + 1)) + a / 2 ^ i % 2 := by
      rw [Nat.pow_succ, ← Nat.div_div_eq_div_mul]; omega
    have hAle : a / 2 ^ (i + 1) ≤ a / 2 := Nat.div_le_div_left (by rw [Nat.pow_succ]; have := Nat.two_pow_pos i; omega) (by decide)
    have hqle : q ≤ a / 2 ^ (i + 1) := by rw [hq]; exact Nat.div_le_self _ _
    have hrlt : r < d := by rw [hr]; exact Nat.mod_lt _ hd0
    have hthi : 64 ≤ i → a / 18446744073709551616 / 2 ^ (i % 64) % 2 = a / 2 ^ i % 2 := fun h => by
      rw [bit_hi h, show 64 + i % 64 = i by omega]
    have htlo : i < 64 → a % 18446744073709551616 / 2 ^ (i % 64) % 2 = a / 2 ^ i % 2 := fun h => by
      rw [Nat.mod_eq_of_lt h, bit_lo h]
    have htb : a / 2 ^ i % 2 < 2 := Nat.mod_lt _ (by decide)
    generalize ht : a / 2 ^ i % 2 = t at hA hthi htlo htb
    obtain ⟨hs1, hs2⟩ := div_step (A := a / 2 ^ (i + 1)) hd0 hq hr htb
    rw [← hA] at hs1 hs2
    have em : Int.tmod (i : Int) 64 = ((i % 64 : Nat) : Int) := (Int.ofNat_tmod i 64).symm
    have emin : min (i % 64) 64 = i % 64 := Nat.min_eq_left (by have := Nat.mod_lt i (show 64 > 0 by decide); exact Nat.le_of_lt this)
    have er : ∀ X : Nat, Int.tmod (X : Int) 2 = ((X % 2 : Nat) : Int) := fun X => (Int.ofNat_tmod X 2).symm
    have eR1 : (r + r) % 340282366920938463463374607431768211456 / 18446744073709551616 = (2 * r + t) / 18446744073709551616 := by omega
    have eR2 : IntKind.u64.wrap (((r + r) % 340282366920938463463374607431768211456 % 18446744073709551616 : Nat) + (t : Int)) = ((2 * r + t) % 18446744073709551616 : Nat) := by rw [u64n] <;> omega
    have eQ : (q + q) % 340282366920938463463374607431768211456 = 2 * q := by omega
    have p1 := plus_r r r (by omega) (by omega)
    have p2 := plus_r q q (by omega) (by omega)
    rw [eQ] at p2
    have p3 := less_r (2 * r + t) d (by omega) hd2
    have fin : ∀ (q' r' : Nat) (x1 x2 y1 y2 : Int) (st : List (Nat × SV)), a / 2 ^ i / d = q' → a / 2 ^ i % d = r' → x1 = (q' / 18446744073709551616 : Nat) → x2 = (q' % 18446744073709551616 : Nat) → y1 = (r' / 18446744073709551616 : Nat) → y2 = (r' % 18446744073709551616 : Nat) →
        sub ⟨st, []⟩ [(8, I64 ((i : Int) - 1)), (2, .op b2 0), (3, .op b3 0), (4, .op b4 0), (5, .op b5 0), (6, .op b6 0), (7, .op b 0)] →
        Rnd I (i + 1) ⟨st, [(b, .svs [U64 y1, U64 y2]), (b6, .svs [U64 x1, U64 x2]), (b5, .svs [U64 0, U64 0]), (b4, .svs [U64 0, U64 0]), (b3, .svs [U64 (d / 18446744073709551616 : Nat), U64 (d % 18446744073709551616 : Nat)]), (b2, .svs [U64 (a / 18446744073709551616 : Nat), U64 (a % 18446744073709551616 : Nat)])]⟩ := fun q' r' x1 x2 y1 y2 st h1 h2 h3 h4 h5 h6 hsub =>
      Rnd.sub i (by omega) ((hI _ _).2 ⟨q', r', x1, x2, y1, y2, by omega, h1.symm, h2.symm, h3, h4, h5, h6, rfl⟩) hsub
    have ei : IntKind.i64.wrap ((i : Int) - 1) = (i : Int) - 1 := i64_wrap (by omega) (by omega)
    by_cases h64 : 64 ≤ i
    · have et := hthi h64
      repeat' first | (with_reducible refine And.intro (by omega) ?_) | (refine SW.seq_k fun K hK => ?_) | (refine SW.block ?_) | ((first | refine SW.region ?_ | refine SW.regionD (Checked.mixed Tryz.checked) (by kernel_rfl) ?_ | refine SW.cond ?_ | refine SW.skip ?_ | refine SW.exit ?_ | refine SW.ret ?_ | refine Call.of_pure (p1) ?_ | refine ⟨_, p1, ?_⟩ | refine Call.of_pure (p2) ?_ | refine ⟨_, p2, ?_⟩ | refine Call.of_pure (p3) ?_ | refine ⟨_, p3, ?_⟩ | (refine allF_i fun b hb => ?_; replace hD := And.intro hb hD; clear hb; try simp only [fresh_cons, fresh_nil, and_true, ne_eq, neF] at hD) | simp only [appK, appOsK]); try simp only [go_sem, hD, em, emin, er, eR1, eR2, eQ, fdiv_pow, et, ei]) | (refine And.intro (by omega) ?_) | (refine ifI (fun hc => ?_) (fun hc => ?_) <;> first | (exfalso; omega) | skip) | ((first | apply hK | ((iterate 1 (clear hK K)); apply hK) | ((iterate 2 (clear hK K)); apply hK) | ((iterate 3 (clear hK K)); apply hK) | ((iterate 4 (clear hK K)); apply hK) | ((iterate 5 (clear hK K)); apply hK)); clear hK K)
      · have hle : d ≤ 2 * r + t := by omega
        have p4 := minus_r (2 * r + t) d (by omega) hd2 hle
        refine Call.of_pure p4 ?_
        try simp only [go_sem, hD, ei]
        repeat' first | (with_reducible refine And.intro (by omega) ?_) | (refine SW.seq_k fun K hK => ?_) | (refine SW.block ?_) | ((first | refine SW.region ?_ | refine SW.regionD (Checked.mixed Tryz.checked) (by kernel_rfl) ?_ | refine SW.cond ?_ | refine SW.skip ?_ | refine SW.exit ?_ | refine SW.ret ?_ | (refine allF_i fun b hb => ?_; replace hD := And.intro hb hD; clear hb; try simp only [fresh_cons, fresh_nil, and_true, ne_eq, neF] at hD) | simp only [appK, appOsK]); try simp only [go_sem, hD, ei]) | (refine And.intro (by omega) ?_) | (refine ifI (fun hc => ?_) (fun hc => ?_) <;> first | (exfalso; omega) | skip) | ((first | apply hK | ((iterate 1 (clear hK K)); apply hK) | ((iterate 2 (clear hK K)); apply hK) | ((iterate 3 (clear hK K)); apply hK) | ((iterate 4 (clear hK K)); apply hK) | ((iterate 5 (clear hK K)); apply hK)); clear hK K)
        exact fin _ _ _ _ _ _ _ (hs1 hle).1 (hs1 hle).2 (by omega) (by first | omega | (rw [u64n] <;> omega)) (by omega) (by omega) (by repeat' (first | exact rfl | exact trivial | exact int_eq (by omega) | exact int_eq (by (rw [i64_wrap] <;> omega)) | constructor))
      · have hlt : 2 * r + t < d := by omega
        exact fin _ _ _ _ _ _ _ (hs2 hlt).1 (hs2 hlt).2 (by omega) (by omega) (by omega) (by omega) (by repeat' (first | exact rfl | exact trivial | exact int_eq (by omega) | exact int_eq (by (rw [i64_wrap] <;> omega)) | constructor))
    · have et := htlo (by omega)
      repeat' first | (with_reducible refine And.intro (by omega) ?_) | (refine SW.seq_k fun K hK => ?_) | (refine SW.block ?_) | ((first | refine SW.region ?_ | refine SW.regionD (Checked.mixed Tryz.checked) (by kernel_rfl) ?_ | refine SW.cond ?_ | refine SW.skip ?_ | refine SW.exit ?_ | refine SW.ret ?_ | refine Call.of_pure (p1) ?_ | refine ⟨_, p1, ?_⟩ | refine Call.of_pure (p2) ?_ | refine ⟨_, p2, ?_⟩ | refine Call.of_pure (p3) ?_ | refine ⟨_, p3, ?_⟩ | (refine allF_i fun b hb => ?_; replace hD := And.intro hb hD; clear hb; try simp only [fresh_cons, fresh_nil, and_true, ne_eq, neF] at hD) | simp only [appK, appOsK]); try simp only [go_sem, hD, em, emin, er, eR1, eR2, eQ, fdiv_pow, et, ei]) | (refine And.intro (by omega) ?_) | (refine ifI (fun hc => ?_) (fun hc => ?_) <;> first | (exfalso; omega) | skip) | ((first | apply hK | ((iterate 1 (clear hK K)); apply hK) | ((iterate 2 (clear hK K)); apply hK) | ((iterate 3 (clear hK K)); apply hK) | ((iterate 4 (clear hK K)); apply hK) | ((iterate 5 (clear hK K)); apply hK)); clear hK K)
      · have hle : d ≤ 2 * r + t := by omega
        have p4 := minus_r (2 * r + t) d (by omega) hd2 hle
        refine Call.of_pure p4 ?_
        try simp only [go_sem, hD, ei]
        repeat' first | (with_reducible refine And.intro (by omega) ?_) | (refine SW.seq_k fun K hK => ?_) | (refine SW.block ?_) | ((first | refine SW.region ?_ | refine SW.regionD (Checked.mixed Tryz.checked) (by kernel_rfl) ?_ | refine SW.cond ?_ | refine SW.skip ?_ | refine SW.exit ?_ | refine SW.ret ?_ | (refine allF_i fun b hb => ?_; replace hD := And.intro hb hD; clear hb; try simp only [fresh_cons, fresh_nil, and_true, ne_eq, neF] at hD) | simp only [appK, appOsK]); try simp only [go_sem, hD, ei]) | (refine And.intro (by omega) ?_) | (refine ifI (fun hc => ?_) (fun hc => ?_) <;> first | (exfalso; omega) | skip) | ((first | apply hK | ((iterate 1 (clear hK K)); apply hK) | ((iterate 2 (clear hK K)); apply hK) | ((iterate 3 (clear hK K)); apply hK) | ((iterate 4 (clear hK K)); apply hK) | ((iterate 5 (clear hK K)); apply hK)); clear hK K)
        exact fin _ _ _ _ _ _ _ (hs1 hle).1 (hs1 hle).2 (by omega) (by first | omega | (rw [u64n] <;> omega)) (by omega) (by omega) (by repeat' (first | exact rfl | exact trivial | exact int_eq (by omega) | exact int_eq (by (rw [i64_wrap] <;> omega)) | constructor))
      · have hlt : 2 * r + t < d := by omega
        exact fin _ _ _ _ _ _ _ (hs2 hlt).1 (hs2 hlt).2 (by omega) (by omega) (by omega) (by omega) (by repeat' (first | exact rfl | exact trivial | exact int_eq (by omega) | exact int_eq (by (rw [i64_wrap] <;> omega)) | constructor))
end Go.Proofs.YtddkacbcecedaaaGreatDoor
/- Contracts of the reference: build. -/
set_option linter.unusedSimpArgs false
set_option linter.unusedVariables false
set_option linter.unusedSectionVars false
namespace Go.Ab
open Go
theorem Wd_small {x : Nat} (h : x < 18446744073709551616) : Wd x = .agg [U64 0, U64 x] := by
  have h1 : x / 18446744073709551616 = 0 := Nat.div_eq_of_lt h
  have h2 : x % 18446744073709551616 = x := Nat.mod_eq_of_lt h
  unfold Wd
  rw [h1, h2]; rfl
end Go.Ab
namespace Go.Proofs.YtddkacbcecedaaaGreatDoor
open Go Go.Ab
variable [Gl]

/-- Five different blocks. -/
def Ds5 (a b c d e : Nat) : Prop := (((a = b) = False ∧ (b = a) = False) ∧ ((a = c) = False ∧ (c = a) = False) ∧ ((a = d) = False ∧ (d = a) = False) ∧ ((a = e) = False ∧ (e = a) = False)) ∧ (((b = c) = False ∧ (c = b) = False) ∧ ((b = d) = False ∧ (d = b) = False) ∧ ((b = e) = False ∧ (e = b) = False)) ∧ (((c = d) = False ∧ (d = c) = False) ∧ ((c = e) = False ∧ (e = c) = False)) ∧ ((d = e) = False ∧ (e = d) = False)
theorem Ds5.nodup {a b c d e : Nat} (h : Ds5 a b c d e) : [a, b, c, d, e].Nodup := by
  unfold Ds5 at h
  simp [h]

/-- The beginning of build: two new words. -/
def bld1 (bn bd br : Nat) (neg : Bool) (n d : Nat) (S : St) : Prop := ∃ b8 b9 : Nat, Ds5 b8 b9 bn bd br ∧
  S.le ⟨[(0, SB neg), (4, .op bn 0), (5, .op bd 0), (6, .op br 0), (8, .op b8 0), (9, .op b9 0)], [(b8, .svs [U64 (n / 18446744073709551616 : Nat), U64 (n % 18446744073709551616 : Nat)]), (b9, .svs [U64 (d / 18446744073709551616 : Nat), U64 (d % 18446744073709551616 : Nat)]), (bn, .svs [U64 (n / 18446744073709551616 : Nat), U64 (n % 18446744073709551616 : Nat)]), (bd, .svs [U64 (d / 18446744073709551616 : Nat), U64 (d % 18446744073709551616 : Nat)]), (br, .svs [I64 0, I64 0])]⟩

theorem le_find5 {t l : List (Nat × SV)} {h : Heap} {a b c d e : Nat} {ka kb kc kd ke : Blk} (hs : sub ⟨t, h⟩ l) (fa : h.find a = some ka) (fb : h.find b = some kb) (fc : h.find c = some kc) (fd : h.find d = some kd) (fe : h.find e = some ke) (hn : [a, b, c, d, e].Nodup) :
    (St.mk t h).le ⟨l, [(a, ka), (b, kb), (c, kc), (d, kd), (e, ke)]⟩ := by
  refine (St.le_sub hs).trans (St.le_sublist (fun x hx => ?_) (fun _ => by simpa using hn))
  simp only [List.mem_cons, List.not_mem_nil, or_false] at hx
  rcases hx with rfl | rfl | rfl | rfl | rfl
  · exact Heap.find_mem fa
  · exact Heap.find_mem fb
  · exact Heap.find_mem fc
  · exact Heap.find_mem fd
  · exact Heap.find_mem fe

theorem bld1_i {bn bd br : Nat} {neg : Bool} {n d : Nat} {t : List (Nat × SV)} {h : Heap} {b8 b9 : Nat} (hs : sub ⟨t, h⟩ [(0, SB neg), (4, .op bn 0), (5, .op bd 0), (6, .op br 0), (8, .op b8 0), (9, .op b9 0)])
    (f8 : h.find b8 = some (.svs [U64 (n / 18446744073709551616 : Nat), U64 (n % 18446744073709551616 : Nat)])) (f9 : h.find b9 = some (.svs [U64 (d / 18446744073709551616 : Nat), U64 (d % 18446744073709551616 : Nat)])) (fn : h.find bn = some (.svs [U64 (n / 18446744073709551616 : Nat), U64 (n % 18446744073709551616 : Nat)])) (fd : h.find bd = some (.svs [U64 (d / 18446744073709551616 : Nat), U64 (d % 18446744073709551616 : Nat)])) (fr : h.find br = some (.svs [I64 0, I64 0]))
    (hd : Ds5 b8 b9 bn bd br) : bld1 bn bd br neg n d ⟨t, h⟩ := ⟨b8, b9, hd, le_find5 hs f8 f9 fn fd fr hd.nodup⟩

set_option maxRecDepth 20000 in
set_option maxHeartbeats 4000000 in
theorem build_r (neg : Bool) (n d : Nat) (hn : n < 340282366920938463463374607431768211456) (hd0 : 0 < d) (hd1 : d ≤ 170141183460469231731687303715884105728) : PCall Tryz.prog 57 [SB neg, Wd n, Wd d] (FR (bldR neg n d)) := by
  refine Call.enter' (N := 60) (rs := [.cell 6 38, .tmp 7]) Tryz.func57 rfl rfl rfl (by decide) rfl ?_; simp only [argT]; have hD : (0 : Nat) = 0 := rfl
  repeat' first | (with_reducible refine And.intro (by omega) ?_) | (refine SW.seq_k fun K hK => ?_) | (refine SW.block ?_) | ((first | refine SW.region ?_ | refine SW.cond ?_ | refine SW.skip ?_ | refine SW.exit ?_ | refine SW.ret ?_ | (refine allF_i fun b hb => ?_; replace hD := And.intro hb hD; clear hb; try simp only [fresh_cons, fresh_nil, and_true, ne_eq, neF] at hD) | simp only [appK, appOsK]); try simp only [go_sem, hD]) | (refine And.intro (by omega) ?_) | (refine ifI (fun hc => ?_) (fun hc => ?_) <;> first | (exfalso; omega) | skip) | ((first | apply hK | ((iterate 1 (clear hK K)); apply hK) | ((iterate 2 (clear hK K)); apply hK) | ((iterate 3 (clear hK K)); apply hK) | ((iterate 4 (clear hK K)); apply hK) | ((iterate 5 (clear hK K)); apply hK)); clear hK K)
  rename_i bn bd
  rename Nat => br
  refine SW.cut (bld1 bn bd br neg n d) ?_ ?_
  · refine SW.regionT (Checked.mixed Tryz.checked) ((.alt 0 (.alt 1 (.alt 2 (.alt 3 (.alt 4 (.alt 5 .done .nil) .nil) .nil) (.alt 3 (.alt 2 (.alt 4 (.alt 5 .done .nil) .nil) .nil) .nil)) (.alt 2 (.alt 1 (.alt 3 (.alt 4 (.alt 5 .done .nil) .nil) .nil) (.alt 3 (.alt 1 (.alt 4 (.alt 5 .done .nil) .nil) (.alt 4 (.alt 1 (.alt 5 .done .nil) .nil) .nil)) .nil)) (.alt 3 (.alt 1 (.alt 2 (.alt 4 (.alt 5 .done .nil) .nil) .nil) (.alt 2 (.alt 1 (.alt 4 (.alt 5 .done .nil) .nil) (.alt 4 (.alt 1 (.alt 5 .done .nil) .nil) .nil)) .nil)) .nil))) (.alt 1 (.alt 0 (.alt 2 (.alt 3 (.alt 4 (.alt 5 .done .nil) .nil) .nil) (.alt 3 (.alt 2 (.alt 4 (.alt 5 .done .nil) .nil) .nil) .nil)) (.alt 2 (.alt 0 (.alt 3 (.alt 4 (.alt 5 .done .nil) .nil) .nil) (.alt 3 (.alt 0 (.alt 4 (.alt 5 .done .nil) .nil) .nil) .nil)) (.alt 3 (.alt 0 (.alt 2 (.alt 4 (.alt 5 .done .nil) .nil) .nil) (.alt 2 (.alt 0 (.alt 4 (.alt 5 .done .nil) .nil) .nil) .nil)) .nil))) (.alt 2 (.alt 0 (.alt 1 (.alt 3 (.alt 4 (.alt 5 .done .nil) .nil) .nil) (.alt 3 (.alt 1 (.alt 4 (.alt 5 .done .nil) .nil) (.alt 4 (.alt 1 (.alt 5 .done .nil) .nil) .nil)) .nil)) (.alt 1 (.alt 0 (.alt 3 (.alt 4 (.alt 5 .done .nil) .nil) .nil) (.alt 3 (.alt 0 (.alt 4 (.alt 5 .done .nil) .nil) .nil) .nil)) (.alt 3 (.alt 0 (.alt 1 (.alt 4 (.alt 5 .done .nil) .nil) (.alt 4 (.alt 1 (.alt 5 .done .nil) .nil) .nil)) (.alt 1 (.alt 0 (.alt 4 (.alt 5 .done .nil) .nil) .nil) .nil)) .nil))) (.alt 3 (.alt 0 (.alt 1 (.alt 2 (.alt 4 (.alt 5 .done .nil) .nil) .nil) (.alt 2 (.alt 1 (.alt 4 (.alt 5 .done .nil) .nil) (.alt 4 (.alt 1 (.alt 5 .done .nil) .nil) .nil)) .nil)) (.alt 1 (.alt 0 (.alt 2 (.alt 4 (.alt 5 .done .nil) .nil) .nil) (.alt 2 (.alt 0 (.alt 4 (.alt 5 .done .nil) .nil) .nil) .nil)) (.alt 2 (.alt 0 (.alt 1 (.alt 4 (.alt 5 .done .nil) .nil) (.alt 4 (.alt 1 (.alt 5 .done .nil) .nil) .nil)) (.alt 1 (.alt 0 (.alt 4 (.alt 5 .done .nil) .nil) .nil) .nil)) .nil))) .nil)))) : OT) (by kernel_rfl) ?_; simp only [go_sem, hD]
    repeat' (first
      | (refine And.intro ?_ ?_)
      | (refine allF_i fun b hb => ?_; replace hD := And.intro hb hD; clear hb; simp only [fresh_cons, fresh_nil, and_true, ne_eq, neF] at hD; try simp only [go_sem, hD]))
    all_goals
      refine nrm_i (bld1_i (by repeat' (first | exact rfl | exact trivial | exact int_eq (by omega) | exact int_eq (by (rw [i64_wrap] <;> omega)) | constructor)) ?_ ?_ ?_ ?_ ?_ ?_)
      all_goals first | (simp only [go_sem, hD]; done) | (unfold Ds5; simp only [go_sem, hD]; done) | skip
  · rintro S' ⟨b8, b9, hne, hle⟩
    unfold Ds5 at hne
    replace hD := And.intro hne hD
    clear hne
    try simp only [go_sem, hD]
    (first | apply hK | ((iterate 1 (clear hK K)); apply hK) | ((iterate 2 (clear hK K)); apply hK) | ((iterate 3 (clear hK K)); apply hK) | ((iterate 4 (clear hK K)); apply hK) | ((iterate 5 (clear hK K)); apply hK)); clear hK K
    refine Ab.SW.le hle ?_
    clear hle
    repeat' first | (with_reducible refine And.intro (by omega) ?_) | (refine SW.seq_k fun K hK => ?_) | (refine SW.block ?_) | ((first | refine SW.region ?_ | refine SW.cond ?_ | refine SW.skip ?_ | refine SW.exit ?_ | refine SW.ret ?_ | (refine allF_i fun b hb => ?_; replace hD := And.intro hb hD; clear hb; try simp only [fresh_cons, fresh_nil, and_true, ne_eq, neF] at hD) | simp only [appK, appOsK]); try simp only [go_sem, hD]) | (refine And.intro (by omega) ?_) | (refine ifI (fun hc => ?_) (fun hc => ?_) <;> first | (exfalso; omega) | skip) | ((first | apply hK | ((iterate 1 (clear hK K)); apply hK) | ((iterate 2 (clear hK K)); apply hK) | ((iterate 3 (clear hK K)); apply hK) | ((iterate 4 (clear hK K)); apply hK) | ((iterate 5 (clear hK K)); apply hK)); clear hK K)
    obtain ⟨I, hI⟩ : ∃ I : Nat → St → Prop, ∀ k S, I k S ↔ (∃ x : Nat, x < 340282366920938463463374607431768211456 ∧ k ≤ 170141183460469231731687303715884105728 ∧ (k = 0 → x = Nat.gcd n d) ∧ Nat.gcd x k = Nat.gcd n d ∧
      S = ⟨[(0, SB neg), (4, .op bn 0), (5, .op bd 0), (6, .op br 0), (8, .op b8 0), (9, .op b9 0)], [(b8, .svs [U64 (x / 18446744073709551616 : Nat), U64 (x % 18446744073709551616 : Nat)]), (b9, .svs [U64 (k / 18446744073709551616 : Nat), U64 (k % 18446744073709551616 : Nat)]), (bn, .svs [U64 (n / 18446744073709551616 : Nat), U64 (n % 18446744073709551616 : Nat)]), (bd, .svs [U64 (d / 18446744073709551616 : Nat), U64 (d % 18446744073709551616 : Nat)]), (br, .svs [I64 0, I64 0])]⟩) := ⟨fun n S => _, fun _ _ => Iff.rfl⟩
    refine SW.loop' I d ((hI _ _).2 ⟨n, hn, hd1, fun h => by omega, rfl, rfl⟩) (by repeat' (first | exact rfl | exact trivial | exact int_eq (by omega) | exact int_eq (by (rw [i64_wrap] <;> omega)) | constructor)) ?_
    intro k S hIn
    obtain ⟨x, hx, hk, hx0, hg, rfl⟩ := (hI _ _).1 hIn
    clear hIn
    have hz := zero_r k (by omega)
    by_cases hk0 : k = 0
    · subst hk0
      obtain rfl := hx0 rfl
      have hgp : 0 < Nat.gcd n d := Nat.gcd_pos_of_pos_right _ hd0
      have hgle : Nat.gcd n d ≤ 170141183460469231731687303715884105728 := Nat.le_trans (Nat.gcd_le_right _ hd0) hd1
      have hbr : bldR neg n d = ofR neg (n / Nat.gcd n d) (d / Nat.gcd n d) := rfl
      clear hg hx0
      generalize Nat.gcd n d = g at *
      have hnd := Nat.div_le_self n g
      have hdd := Nat.div_le_self d g
      have hp1 := parts_r n g hn hgp hgle
      have hp2 := parts_r d g (by omega) hgp hgle
      have hl1 : PCall Tryz.prog 76 [.agg [U64 0, U64 9223372036854775807], Wd (n / g)] (SB (decide (9223372036854775807 < n / g))) := less_r 9223372036854775807 (n / g) (by decide) (by omega)
      have hl2 : PCall Tryz.prog 76 [.agg [U64 0, U64 9223372036854775807], Wd (d / g)] (SB (decide (9223372036854775807 < d / g))) := less_r 9223372036854775807 (d / g) (by decide) (by omega)
      generalize n / g = a at *
      generalize d / g = c at *
      repeat' first | (with_reducible refine And.intro (by omega) ?_) | (refine SW.seq_k fun K hK => ?_) | (refine SW.block ?_) | ((first | refine SW.region ?_ | refine SW.regionD (Checked.mixed Tryz.checked) (by kernel_rfl) ?_ | refine SW.cond ?_ | refine SW.skip ?_ | refine SW.exit ?_ | refine SW.ret ?_ | refine Call.of_pure (hz) ?_ | refine ⟨_, hz, ?_⟩ | refine Call.of_pure (hp1) ?_ | refine ⟨_, hp1, ?_⟩ | refine Call.of_pure (hp2) ?_ | refine ⟨_, hp2, ?_⟩ | refine Call.of_pure (hl1) ?_ | refine ⟨_, hl1, ?_⟩ | refine Call.of_pure (hl2) ?_ | refine ⟨_, hl2, ?_⟩ | (refine allF_i fun b hb => ?_; replace hD := And.intro hb hD; clear hb; try simp only [fresh_cons, fresh_nil, and_true, ne_eq, neF] at hD) | simp only [appK, appOsK]); try simp only [go_sem, hD]) | (refine And.intro (by omega) ?_) | (refine ifI (fun hc => ?_) (fun hc => ?_) <;> first | (exfalso; omega) | skip) | ((first | apply hK | ((iterate 1 (clear hK K)); apply hK) | ((iterate 2 (clear hK K)); apply hK) | ((iterate 3 (clear hK K)); apply hK) | ((iterate 4 (clear hK K)); apply hK) | ((iterate 5 (clear hK K)); apply hK)); clear hK K)
      · apply ret_cell (i := 6) (n := 2); exact rfl; (simp only [go_sem, hD]; try rfl); (first | exact Nat.le_refl _ | decide); simp only [resL_tmp, resL_cellE, resC_ok, resL_nil, tupOf, getN, go_sem, hD]
        rw [hbr, ofR, if_neg (by omega)]
      · apply ret_cell (i := 6) (n := 2); exact rfl; (simp only [go_sem, hD]; try rfl); (first | exact Nat.le_refl _ | decide); simp only [resL_tmp, resL_cellE, resC_ok, resL_nil, tupOf, getN, go_sem, hD]
        rw [hbr, ofR, if_neg (by omega)]
      · have ea : IntKind.i64.wrap ((a % 18446744073709551616 : Nat) : Int) = (a : Int) := by rw [i64_wrap] <;> omega
        have ec : IntKind.i64.wrap ((c % 18446744073709551616 : Nat) : Int) = (c : Int) := by rw [i64_wrap] <;> omega
        have en : IntKind.i64.wrap (0 - (a : Int)) = -(a : Int) := by rw [i64_wrap] <;> omega
        apply ret_cell (i := 6) (n := 2); exact rfl; (simp only [go_sem, hD]; try rfl); (first | exact Nat.le_refl _ | decide); simp only [resL_tmp, resL_cellE, resC_ok, resL_nil, tupOf, getN, go_sem, hD]
        rw [hbr, ofR, if_pos (by omega), if_pos (by assumption), ea, ec, en]
      · have ea : IntKind.i64.wrap ((a % 18446744073709551616 : Nat) : Int) = (a : Int) := by rw [i64_wrap] <;> omega
        have ec : IntKind.i64.wrap ((c % 18446744073709551616 : Nat) : Int) = (c : Int) := by rw [i64_wrap] <;> omega
        apply ret_cell (i := 6) (n := 2); exact rfl; (simp only [go_sem, hD]; try rfl); (first | exact Nat.le_refl _ | decide); simp only [resL_tmp, resL_cellE, resC_ok, resL_nil, tupOf, getN, go_sem, hD]
        rw [hbr, ofR, if_pos (by omega), if_neg (by assumption), ea, ec]
    · have hp := parts_r x k hx (by omega) hk
      have hml : x % k < k := Nat.mod_lt _ (by omega)
      have hgs : Nat.gcd k (x % k) = Nat.gcd n d := by rw [← hg, Nat.gcd_comm, ← Nat.gcd_rec, Nat.gcd_comm]
      repeat' first | (with_reducible refine And.intro (by omega) ?_) | (refine SW.seq_k fun K hK => ?_) | (refine SW.block ?_) | ((first | refine SW.region ?_ | refine SW.cond ?_ | refine SW.skip ?_ | refine SW.exit ?_ | refine SW.ret ?_ | refine Call.of_pure (hz) ?_ | refine ⟨_, hz, ?_⟩ | refine Call.of_pure (hp) ?_ | refine ⟨_, hp, ?_⟩ | (refine allF_i fun b hb => ?_; replace hD := And.intro hb hD; clear hb; try simp only [fresh_cons, fresh_nil, and_true, ne_eq, neF] at hD) | simp only [appK, appOsK]); try simp only [go_sem, hD]) | (refine And.intro (by omega) ?_) | (refine ifI (fun hc => ?_) (fun hc => ?_) <;> first | (exfalso; omega) | skip) | ((first | apply hK | ((iterate 1 (clear hK K)); apply hK) | ((iterate 2 (clear hK K)); apply hK) | ((iterate 3 (clear hK K)); apply hK) | ((iterate 4 (clear hK K)); apply hK) | ((iterate 5 (clear hK K)); apply hK)); clear hK K)
      refine SW.regionT (Checked.mixed Tryz.checked) ((.alt 0 (.alt 1 (.alt 2 (.alt 3 .done .nil) .nil) (.alt 2 (.alt 1 (.alt 3 .done .nil) .nil) .nil)) (.alt 1 (.alt 0 (.alt 2 (.alt 3 .done .nil) .nil) .nil) .nil)) : OT) (by kernel_rfl) ?_; simp only [go_sem, hD]
      refine ⟨⟨?_, ?_⟩, ?_⟩
      all_goals
        repeat' first | (with_reducible refine And.intro (by omega) ?_) | (refine SW.seq_k fun K hK => ?_) | (refine SW.block ?_) | ((first | refine SW.region ?_ | refine SW.regionD (Checked.mixed Tryz.checked) (by kernel_rfl) ?_ | refine SW.cond ?_ | refine SW.skip ?_ | refine SW.exit ?_ | refine SW.ret ?_ | (refine allF_i fun b hb => ?_; replace hD := And.intro hb hD; clear hb; try simp only [fresh_cons, fresh_nil, and_true, ne_eq, neF] at hD) | simp only [appK, appOsK]); try simp only [go_sem, hD]) | (refine And.intro (by omega) ?_) | (refine ifI (fun hc => ?_) (fun hc => ?_) <;> first | (exfalso; omega) | skip) | ((first | apply hK | ((iterate 1 (clear hK K)); apply hK) | ((iterate 2 (clear hK K)); apply hK) | ((iterate 3 (clear hK K)); apply hK) | ((iterate 4 (clear hK K)); apply hK) | ((iterate 5 (clear hK K)); apply hK)); clear hK K)
        refine Rnd.le (le_find5 (l := [(0, SB neg), (4, .op bn 0), (5, .op bd 0), (6, .op br 0), (8, .op b8 0), (9, .op b9 0)]) (by repeat' (first | exact rfl | exact trivial | exact int_eq (by omega) | exact int_eq (by (rw [i64_wrap] <;> omega)) | constructor)) (a := b8) (b := b9) (c := bn) (d := bd) (e := br) (by simp only [go_sem, hD]; rfl) (by simp only [go_sem, hD]; rfl) (by simp only [go_sem, hD]; rfl) (by simp only [go_sem, hD]; rfl) (by simp only [go_sem, hD]; rfl) (Ds5.nodup (by unfold Ds5; simp only [go_sem, hD]))) ?_
        exact Rnd.sub (x % k) hml ((hI _ _).2 ⟨k, by omega, by omega, fun h => by rw [h, Nat.gcd_zero_right] at hgs; exact hgs, hgs, rfl⟩) (by repeat' (first | exact rfl | exact trivial | exact int_eq (by omega) | exact int_eq (by (rw [i64_wrap] <;> omega)) | constructor))

set_option maxRecDepth 20000 in
theorem make_r (num den : Int) (h0 : -9223372036854775808 ≤ num) (h1 : num ≤ 9223372036854775807) (h2 : -9223372036854775808 ≤ den) (h3 : den ≤ 9223372036854775807) : PCall Tryz.prog 33 [I64 num, I64 den] (FR (mkR num den)) := by
  have a1 := size_r num h0 h1
  have a2 := size_r den h2 h3
  refine Call.enter' (N := 21) (rs := [.cell 4 38, .tmp 5]) Tryz.func33 rfl rfl rfl (by decide) rfl ?_; simp only [argT]; have hD : (0 : Nat) = 0 := rfl
  by_cases hz : den = 0
  · repeat' first | (with_reducible refine And.intro (by omega) ?_) | (refine SW.seq_k fun K hK => ?_) | (refine SW.block ?_) | ((first | refine SW.region ?_ | refine SW.regionD (Checked.mixed Tryz.checked) (by kernel_rfl) ?_ | refine SW.cond ?_ | refine SW.skip ?_ | refine SW.exit ?_ | refine SW.ret ?_ | (refine allF_i fun b hb => ?_; replace hD := And.intro hb hD; clear hb; try simp only [fresh_cons, fresh_nil, and_true, ne_eq, neF] at hD) | simp only [appK, appOsK]); try simp only [go_sem, hD]) | (refine And.intro (by omega) ?_) | (refine ifI (fun hc => ?_) (fun hc => ?_) <;> first | (exfalso; omega) | skip) | ((first | apply hK | ((iterate 1 (clear hK K)); apply hK) | ((iterate 2 (clear hK K)); apply hK) | ((iterate 3 (clear hK K)); apply hK) | ((iterate 4 (clear hK K)); apply hK) | ((iterate 5 (clear hK K)); apply hK)); clear hK K)
    apply ret_cell (i := 4) (n := 2); exact rfl; (simp only [go_sem, hD]; try rfl); (first | exact Nat.le_refl _ | decide); simp only [resL_tmp, resL_cellE, resC_ok, resL_nil, tupOf, getN, go_sem, hD]
    rw [mkR, if_pos hz]
  · have ho := build_r (!(decide (num < 0) == decide (den < 0))) num.natAbs den.natAbs (by omega) (by omega) (by omega)
    rw [Wd_small (by omega), Wd_small (by omega)] at ho
    have hm : mkR num den = bldR (!(decide (num < 0) == decide (den < 0))) num.natAbs den.natAbs := by rw [mkR, if_neg hz]
    repeat' first | (with_reducible refine And.intro (by omega) ?_) | (refine SW.seq_k fun K hK => ?_) | (refine SW.block ?_) | ((first | refine SW.region ?_ | refine SW.regionD (Checked.mixed Tryz.checked) (by kernel_rfl) ?_ | refine SW.cond ?_ | refine SW.skip ?_ | refine SW.exit ?_ | refine SW.ret ?_ | refine Call.of_pure (a1) ?_ | refine ⟨_, a1, ?_⟩ | refine Call.of_pure (a2) ?_ | refine ⟨_, a2, ?_⟩ | refine Call.of_pure (ho) ?_ | refine ⟨_, ho, ?_⟩ | (refine allF_i fun b hb => ?_; replace hD := And.intro hb hD; clear hb; try simp only [fresh_cons, fresh_nil, and_true, ne_eq, neF] at hD) | simp only [appK, appOsK]); try simp only [go_sem, hD]) | (refine And.intro (by omega) ?_) | (refine ifI (fun hc => ?_) (fun hc => ?_) <;> first | (exfalso; omega) | skip) | ((first | apply hK | ((iterate 1 (clear hK K)); apply hK) | ((iterate 2 (clear hK K)); apply hK) | ((iterate 3 (clear hK K)); apply hK) | ((iterate 4 (clear hK K)); apply hK) | ((iterate 5 (clear hK K)); apply hK)); clear hK K)
    apply ret_cell (i := 4) (n := 2); exact rfl; (simp only [go_sem, hD]; try rfl); (first | exact Nat.le_refl _ | decide); simp only [resL_tmp, resL_cellE, resC_ok, resL_nil, tupOf, getN, go_sem, hD]
    rw [hm]
end Go.Proofs.YtddkacbcecedaaaGreatDoor
/- A histogram's numbers and values; the table of a reversed recipe. -/
set_option linter.unusedSimpArgs false
set_option linter.unusedVariables false
set_option linter.unusedSectionVars false
namespace Go.Proofs.YtddkacbcecedaaaGreatDoor
open Go Go.Ab Go.Ab.A34
theorem sum_snoc (l : List Int) (n : Int) : (l ++ [n]).sum = l.sum + n := by
  rw [List.sum_append]
  simp
theorem hAdd_sum (acc : List (V3 × Int)) (v : V3) : (nums (hAdd acc v)).sum = (nums acc).sum + 1 := by
  rcases List.eq_nil_or_concat acc with rfl | ⟨R, ⟨u, n⟩, e⟩
  · rfl
  · rw [List.concat_eq_append] at e
    subst e
    by_cases h : u = v
    · subst h
      rw [hAdd_same]
      unfold nums
      rw [List.map_append, List.map_append, List.map_cons, List.map_nil, List.map_cons, List.map_nil, sum_snoc, sum_snoc]
      omega
    · rw [hAdd_new _ _ _ _ h]
      unfold nums
      rw [List.map_append, List.map_cons, List.map_nil, sum_snoc]
theorem hist_sum (l : List V3) : ∀ acc, (nums (l.foldl hAdd acc)).sum = (nums acc).sum + l.length := by
  induction l with
  | nil => intro acc; simp
  | cons v r ih =>
    intro acc
    rw [List.foldl_cons, ih, hAdd_sum, List.length_cons]
    omega
theorem cmp3_lt {x y z : V3} (h1 : cmp3 x y < 0) (h2 : cmp3 y z < 0) : cmp3 x z < 0 := by
  have := cmp3_tr x y z (by omega) (by omega)
  have h3 := this.1
  have h4 := this.2
  by_cases h : cmp3 x z = 0
  · have := h4 h
    omega
  · omega
theorem hist_asc (l : List V3) : ∀ acc, (l.Pairwise fun x y => cmp3 x y ≤ 0) → (∀ p ∈ acc, ∀ v ∈ l, cmp3 p.1 v ≤ 0) → ((vals acc).Pairwise fun x y => cmp3 x y < 0) → ((vals (l.foldl hAdd acc)).Pairwise fun x y => cmp3 x y < 0) := by
  induction l with
  | nil => intro acc _ _ h; exact h
  | cons v r ih =>
    intro acc hs hp ha
    rw [List.foldl_cons]
    have hs' := List.pairwise_cons.1 hs
    rcases List.eq_nil_or_concat acc with rfl | ⟨R, ⟨u, n⟩, e⟩
    · refine ih _ hs'.2 (fun p hp' w hw => ?_) ?_
      · rw [show hAdd [] v = [(v, 1)] from rfl] at hp'
        rw [List.mem_singleton.1 hp']
        exact hs'.1 w hw
      · exact List.pairwise_singleton _ _
    · rw [List.concat_eq_append] at e
      subst e
      by_cases h : u = v
      · subst h
        rw [hAdd_same]
        refine ih _ hs'.2 (fun p hp' w hw => ?_) ?_
        · rcases List.mem_append.1 hp' with h1 | h1
          · exact hp p (List.mem_append_left _ h1) w (List.mem_cons_of_mem _ hw)
          · rw [List.mem_singleton.1 h1]
            exact hs'.1 w hw
        · unfold vals at *
          rw [List.map_append] at *
          exact ha
      · rw [hAdd_new _ _ _ _ h]
        refine ih _ hs'.2 (fun p hp' w hw => ?_) ?_
        · rcases List.mem_append.1 hp' with h1 | h1
          · exact hp p h1 w (List.mem_cons_of_mem _ hw)
          · rw [List.mem_singleton.1 h1]
            exact hs'.1 w hw
        · have hu : cmp3 u v < 0 := by
            have h1 := hp (u, n) (List.mem_append_right _ List.mem_cons_self) v List.mem_cons_self
            have h2 : cmp3 u v ≠ 0 := fun e => h ((cmp3_eq u v).1 e)
            simp only at h1
            omega
          unfold vals at ha ⊢
          have ha2 := ha
          rw [List.map_append, List.pairwise_append] at ha2
          rw [List.map_append, List.pairwise_append]
          refine ⟨ha, List.pairwise_singleton _ _, fun x hx y hy => ?_⟩
          obtain rfl : y = v := by simpa using hy
          rw [List.map_append, List.mem_append] at hx
          rcases hx with hx | hx
          · exact cmp3_lt (ha2.2.2 x hx u (by simp)) hu
          · obtain rfl : x = u := by simpa using hx
            exact hu
theorem prof_fold (L : List (V3 × Int)) : ∀ c, (L.foldl stepC c).rows = c.rows ∧ (L.foldl stepC c).distinct = c.distinct ∧ (L.foldl stepC c).times = (nums L).foldl max c.times := by
  induction L with
  | nil => intro c; exact ⟨rfl, rfl, rfl⟩
  | cons p r ih =>
    intro c
    rw [List.foldl_cons]
    have := ih (stepC c p)
    refine ⟨this.1, this.2.1, this.2.2.trans ?_⟩
    unfold nums
    rw [List.map_cons, List.foldl_cons]
    congr 1
    show (if c.times < p.2 then p.2 else c.times) = max c.times p.2
    omega
def back (x : Rc) : Rc := ⟨x.attrs, x.gap, x.rows.reverse⟩
theorem tab_col (x : Rc) (a : Nat) (ha : a < (x.attrs % 6).toNat) : (tabS x).rows.map (fun r => r.2.getD a v0) = x.rows.map fun r => codeV (r.getD a 0) := by
  unfold tabS wideS
  simp only [List.map_map]
  refine List.ext_getElem (by simp) fun i h1 h2 => ?_
  have h3 : i < x.rows.length := by simpa using h2
  simp [rowS, List.getD_eq_getElem?_getD, ha, h3]
theorem back_col (x : Rc) (a : Nat) (ha : a < (x.attrs % 6).toNat) : colS (tabS (back x)) a = colS (tabS x) a := by
  unfold colS
  rw [tab_col x a ha, tab_col (back x) a ha]
  refine sort_is (sortV_sorted _) (List.Perm.trans ?_ (sortV_perm _).symm)
  exact (List.reverse_perm x.rows).map _
theorem back_prof (x : Rc) (a : Nat) (ha : a < (x.attrs % 6).toNat) : profS (tabS (back x)) a = profS (tabS x) a := by
  unfold profS
  rw [back_col x a ha]
  have e : (tabS (back x)).rows.length = (tabS x).rows.length := by simp [tabS, wideS, back]
  rw [e]
theorem code_okV (c : Int) : okV (codeV c) = true := by
  have e := emp_nil
  unfold codeV
  repeat' split
  all_goals (unfold okV vok; simp [e])
  all_goals decide
theorem nm_ok : ∀ n, n < 6 → namesB (nm8.take n) = true := by decide +kernel
theorem tab_valid (x : Rc) (h : x.rows.length ≤ 1000) : validS (tabS x) = 0 := by
  have hn : (x.attrs % 6).toNat < 6 := by omega
  have hal : (nm8.take (x.attrs % 6).toNat).length = (x.attrs % 6).toNat := by
    rw [List.length_take]
    have : nm8.length = 8 := rfl
    omega
  obtain ⟨g, hg⟩ : ∃ g, g = 1 + x.gap % 3 := ⟨_, rfl⟩
  have hg1 : 1 ≤ g := by omega
  have hr : ∀ (k j : Nat) (p : Int), p < 1 + (j : Int) * g → rowsV (x.attrs % 6).toNat p ((List.range' j k).map fun i => rowS x.gap (x.attrs % 6).toNat i (x.rows.getD i [])) = 0 := fun k => by
    induction k with
    | zero => intro j p _; rfl
    | succ k ih =>
      intro j p hp
      have e1 : (rowS x.gap (x.attrs % 6).toNat j (x.rows.getD j [])).1 = 1 + (j : Int) * g := by rw [hg]; rfl
      rw [List.range'_succ, List.map_cons, rowsV, e1, if_neg (by omega), if_neg (by simp [rowS]), if_pos (by
        rw [List.all_eq_true]
        intro v hv
        unfold rowS at hv
        obtain ⟨c, _, rfl⟩ := List.mem_map.1 hv
        exact code_okV _)]
      refine ih (j + 1) _ ?_
      have : ((j + 1 : Nat) : Int) * g = (j : Int) * g + g := by rw [Int.natCast_add, Int.add_mul]; simp
      rw [this]
      omega
  have hlen : (tabS x).rows.length = x.rows.length := by simp [tabS, wideS]
  unfold validS
  rw [if_pos (show nameB (tabS x).name.data.toList = true from name_r1), if_neg (show ¬ (16 < (tabS x).attrs.length ∨ 1000 < (tabS x).rows.length) by rw [hlen]; show ¬ (16 < (nm8.take (x.attrs % 6).toNat).length ∨ _); rw [hal]; omega), if_pos (show namesB (tabS x).attrs = true from nm_ok _ hn)]
  show rowsV (nm8.take (x.attrs % 6).toNat).length 0 ((List.range x.rows.length).map fun i => rowS x.gap (x.attrs % 6).toNat i (x.rows.getD i [])) = 0
  rw [List.range_eq_range', hal]
  exact hr _ 0 0 (by omega)
end Go.Proofs.YtddkacbcecedaaaGreatDoor
/- (seat ZD's numbers) The cells of a table that are not Null (plain). -/
set_option linter.unusedSimpArgs false
set_option linter.unusedVariables false
set_option linter.unusedSectionVars false
namespace Go.Proofs.YtddkacbcecedaaaGreatDoor
open Go Go.Ab Go.Ab.A34
/-- The numbers of a histogram's entries of kind Null. -/
def n0 (H : List (V3 × Int)) : Int := (H.map fun p => if p.1.1 = 0 then p.2 else 0).sum
theorem n0_snoc (R : List (V3 × Int)) (p : V3 × Int) : n0 (R ++ [p]) = n0 R + if p.1.1 = 0 then p.2 else 0 := by
  unfold n0
  rw [List.map_append, List.map_cons, List.map_nil, sum_snoc]
theorem hAdd_n0 (acc : List (V3 × Int)) (v : V3) : n0 (hAdd acc v) = n0 acc + if v.1 = 0 then 1 else 0 := by
  rcases List.eq_nil_or_concat acc with rfl | ⟨R, ⟨u, n⟩, e⟩
  · show n0 [(v, 1)] = _
    rw [show [(v, (1 : Int))] = [] ++ [(v, 1)] from rfl, n0_snoc]
  · rw [List.concat_eq_append] at e
    subst e
    by_cases h : u = v
    · subst h
      rw [hAdd_same, n0_snoc, n0_snoc]
      simp only
      split <;> omega
    · rw [hAdd_new _ _ _ _ h, n0_snoc]
theorem hist_n0 (l : List V3) : ∀ acc, n0 (l.foldl hAdd acc) = n0 acc + (l.countP fun v => decide (v.1 = 0) : Nat) := by
  induction l with
  | nil => intro acc; simp
  | cons v r ih =>
    intro acc
    rw [List.foldl_cons, ih, hAdd_n0, List.countP_cons]
    by_cases h : v.1 = 0
    · simp [h]; omega
    · simp [h]
theorem fold_null0 : ∀ (H : List (V3 × Int)) (c : Co), (∀ p ∈ H, ¬ p.1.1 = 0) → (H.foldl stepC c).nulls = c.nulls ∧ n0 H = 0
  | [], c, _ => ⟨rfl, rfl⟩
  | p :: H, c, h => by
    have h1 := fold_null0 H (stepC c p) (fun q hq => h q (List.mem_cons_of_mem _ hq))
    have h2 := h p List.mem_cons_self
    refine ⟨?_, ?_⟩
    · rw [List.foldl_cons, h1.1]
      show (if p.1.1 = 0 then p.2 else c.nulls) = c.nulls
      rw [if_neg h2]
    · have := h1.2
      unfold n0 at this ⊢
      rw [List.map_cons, List.sum_cons, if_neg h2, this]; rfl
theorem fold_null : ∀ (H : List (V3 × Int)) (c : Co), c.nulls = 0 → (H.Pairwise fun p q => p.1.1 = 0 → ¬ q.1.1 = 0) → (H.foldl stepC c).nulls = n0 H
  | [], c, h, _ => h
  | p :: H, c, h, hp => by
    have hp' := List.pairwise_cons.1 hp
    rw [List.foldl_cons]
    by_cases h0 : p.1.1 = 0
    · have h1 := fold_null0 H (stepC c p) (fun q hq => hp'.1 q hq h0)
      rw [h1.1]
      have h2 := h1.2
      unfold n0 at h2 ⊢
      rw [List.map_cons, List.sum_cons, h2, if_pos h0]
      show (if p.1.1 = 0 then p.2 else c.nulls) = _
      rw [if_pos h0]; omega
    · rw [fold_null H _ (by show (if p.1.1 = 0 then p.2 else c.nulls) = 0; rw [if_neg h0, h]) hp'.2]
      unfold n0
      rw [List.map_cons, List.sum_cons, if_neg h0]; omega
theorem null_v0 {v : V3} (h : okV v = true) (h0 : v.1 = 0) : v = v0 := by
  obtain ⟨k, n, s⟩ := v
  simp only at h0
  subst h0
  unfold okV vok at h
  simp at h
  obtain ⟨h1, h2⟩ := h
  rw [show s = ⟨#[]⟩ from barr_eq.1 h2, h1]; rfl
/-- A cell that is not Null. -/
def nn (vs : List V3) (k : Nat) : Bool := decide (¬ (vs.getD k v0).1 = 0)
variable [Gl] [Tabs] [Bru]
theorem nulls_count (t : Tb) (a : Nat) (h : validS t = 0) (ha : a < t.attrs.length) : (profS t a).nulls = (t.rows.countP fun r => !nn r.2 a : Nat) := by
  obtain ⟨r1, r2, r3⟩ := valid_rows h
  have hok : ∀ v ∈ colS t a, okV v = true := fun v hv => by
    unfold colS at hv
    have := (sortV_perm _).mem_iff.1 hv
    obtain ⟨r, hr, rfl⟩ := List.mem_map.1 this
    exact (r3 r hr).2 _ (getD_mem v0 (by have := (r3 r hr).1; omega))
  have hv := hist_mem (colS t a) (fun v => okV v = true) hok
  have ha2 := hist_asc (colS t a) [] (sortV_sorted _) (fun p hp => by cases hp) List.Pairwise.nil
  have hpw : (histS (colS t a)).Pairwise fun p q => p.1.1 = 0 → ¬ q.1.1 = 0 := by
    have h3 : (histS (colS t a)).Pairwise fun p q => cmp3 p.1 q.1 < 0 := List.pairwise_map.1 ha2
    refine List.Pairwise.imp_of_mem (fun {p q} hp hq hpq e1 e2 => ?_) h3
    rw [null_v0 (hv p hp) e1, null_v0 (hv q hq) e2] at hpq
    have : cmp3 v0 v0 = 0 := (cmp3_eq v0 v0).2 rfl
    omega
  unfold profS
  rw [fold_null _ _ rfl hpw]
  unfold histS
  rw [hist_n0]
  have e0 : n0 [] = 0 := rfl
  rw [e0, Int.zero_add]
  congr 1
  unfold colS
  rw [(sortV_perm _).countP_eq, List.countP_map]
  congr 1
  funext r
  unfold nn
  simp
/-- The members of a set below a number. -/
def bF (s a : Nat) : List Nat := (List.range a).filter fun k => decide (s / 2 ^ k % 2 = 1)
theorem bF_step (s a : Nat) : bF s (a + 1) = bF s a ++ if s / 2 ^ a % 2 = 1 then [a] else [] := by
  unfold bF
  rw [List.range_succ, List.filter_append]
  congr 1
  by_cases h : s / 2 ^ a % 2 = 1 <;> simp [h]
theorem bF_le (s a : Nat) : (bF s a).length ≤ a := by
  unfold bF
  refine Nat.le_trans (List.length_filter_le _ _) (by rw [List.length_range]; omega)
theorem bF_mem : ∀ s : Fin 32, ∀ n : Fin 6, s.val < 2 ^ n.val → memS s.val = (bF s.val n.val).map fun k => ((k : Nat) : Int) := by decide
/-- The cells of a row that are not Null. -/
def rN (s n : Nat) (vs : List V3) : Nat := ((bF s n).filter (nn vs)).length
theorem rN_step (s n : Nat) (vs : List V3) : rN s (n + 1) vs = rN s n vs + if s / 2 ^ n % 2 = 1 ∧ nn vs n = true then 1 else 0 := by
  unfold rN
  rw [bF_step, List.filter_append, List.length_append]
  by_cases h : s / 2 ^ n % 2 = 1 <;> by_cases h2 : nn vs n = true <;> simp [h, h2]
theorem rN_le (s n : Nat) (vs : List V3) : rN s n vs ≤ n := Nat.le_trans (List.length_filter_le _ _) (bF_le s n)
/-- The cells of rows that are not Null. -/
def fN (s n : Nat) (l : List R3) : Nat := (l.map fun r => rN s n r.2).sum
theorem sum_add (L : List Nat) (f g : Nat → Nat) : (L.map fun k => f k + g k).sum = (L.map f).sum + (L.map g).sum := by
  induction L with
  | nil => rfl
  | cons k L ih => simp only [List.map_cons, List.sum_cons, ih]; omega
theorem sum_one (L : List Nat) (p : Nat → Bool) : (L.map fun k => if p k = true then 1 else 0).sum = (L.filter p).length := by
  induction L with
  | nil => rfl
  | cons k L ih =>
    rw [List.map_cons, List.sum_cons, ih, List.filter_cons]
    split <;> simp <;> omega
theorem fil_len (L : List Nat) (p : Nat → Bool) : (L.filter p).length + (L.filter fun k => !p k).length = L.length := by
  induction L with
  | nil => rfl
  | cons k L ih =>
    rw [List.filter_cons, List.filter_cons, List.length_cons]
    cases p k <;> simp <;> omega
theorem fN_col (s n : Nat) (l : List R3) : fN s n l + ((bF s n).map fun k => l.countP fun r => !nn r.2 k).sum = (bF s n).length * l.length := by
  induction l with
  | nil =>
    have : ∀ L : List Nat, (L.map fun k => ([] : List R3).countP fun r => !nn r.2 k).sum = 0 := fun L => by
      induction L with
      | nil => rfl
      | cons k L ih => rw [List.map_cons, List.sum_cons, ih]; rfl
    rw [this]; rfl
  | cons r l ih =>
    have e : ((bF s n).map fun k => (r :: l).countP fun r => !nn r.2 k).sum = ((bF s n).map fun k => l.countP fun r => !nn r.2 k).sum + ((bF s n).filter fun k => !nn r.2 k).length := by
      rw [← sum_one, ← sum_add]
      congr 1
      refine List.map_congr_left fun k _ => ?_
      rw [List.countP_cons]
    have h := fil_len (bF s n) (nn r.2)
    unfold fN at ih ⊢
    rw [List.map_cons, List.sum_cons, e, List.length_cons, Nat.mul_add, Nat.mul_one]
    unfold rN at ih ⊢
    omega
theorem sum_cast (L : List Nat) (f : Nat → Nat) : (L.map fun k => ((f k : Nat) : Int)).sum = ((L.map f).sum : Nat) := by
  induction L with
  | nil => rfl
  | cons k L ih => rw [List.map_cons, List.map_cons, List.sum_cons, List.sum_cons, ih, Int.natCast_add]
/-- Completeness, counted. -/
theorem comp_count (t : Tb) (s : Nat) (h : validS t = 0) (h5 : t.attrs.length ≤ 5) (hs : s < 2 ^ t.attrs.length) :
    (memS s).length = (bF s t.attrs.length).length ∧ (((memS s).length * t.rows.length : Nat) : Int) - nulS t (memS s) = (fN s t.attrs.length t.rows : Nat) := by
  have hs32 : s < 32 := Nat.lt_of_lt_of_le hs (Nat.pow_le_pow_right (n := 2) (by omega) h5)
  have hm := bF_mem ⟨s, hs32⟩ ⟨t.attrs.length, by omega⟩ hs
  simp only at hm
  have hl : (memS s).length = (bF s t.attrs.length).length := by rw [hm, List.length_map]
  refine ⟨hl, ?_⟩
  have hc := fN_col s t.attrs.length t.rows
  have e : nulS t (memS s) = (((bF s t.attrs.length).map fun k => t.rows.countP fun r => !nn r.2 k).sum : Nat) := by
    unfold nulS
    rw [hm, List.map_map, ← sum_cast]
    congr 1
    refine List.map_congr_left fun k hk => ?_
    have hk2 : k < t.attrs.length := List.mem_range.1 (List.mem_filter.1 hk).1
    exact nulls_count t k h hk2
  rw [e, hl]
  omega
end Go.Proofs.YtddkacbcecedaaaGreatDoor
/- (seat ZD's numbers) The reference's Completeness, and the law. -/
set_option linter.unusedSimpArgs false
set_option linter.unusedVariables false
set_option linter.unusedSectionVars false
namespace Go.Proofs.YtddkacbcecedaaaGreatDoor
open Go Go.Ab Go.Ab.A34 Go.Ab.A01
variable [Gl] [Tabs] [Bru]

theorem sub_r (a b : Nat) (ha : a < 4294967296) (hb : b < 4294967296) : PCall Tryz.prog 30 [U32 a, U32 b] (SB (decide (a &&& b = a))) := by
  have e := and32 a b ha hb
  refine Call.enter' (N := 10) (rs := [.tmp 4]) Tryz.func30 rfl rfl rfl (by decide) rfl ?_; simp only [argT]; have hD : (0 : Nat) = 0 := rfl
  repeat' first | (with_reducible refine And.intro (by omega) ?_) | (refine SW.seq_k fun K hK => ?_) | (refine SW.block ?_) | ((first | refine SW.region ?_ | refine SW.regionD (Checked.mixed Tryz.checked) (by kernel_rfl) ?_ | refine SW.cond ?_ | refine SW.skip ?_ | refine SW.exit ?_ | refine SW.ret ?_ | (refine allF_i fun b hb => ?_; replace hD := And.intro hb hD; clear hb; try simp only [fresh_cons, fresh_nil, and_true, ne_eq, neF] at hD) | simp only [appK, appOsK]); try simp only [go_sem, hD, e]) | (refine And.intro (by omega) ?_) | (refine ifI (fun hc => ?_) (fun hc => ?_) <;> first | (exfalso; omega) | skip) | ((first | apply hK | ((iterate 1 (clear hK K)); apply hK) | ((iterate 2 (clear hK K)); apply hK) | ((iterate 3 (clear hK K)); apply hK) | ((iterate 4 (clear hK K)); apply hK) | ((iterate 5 (clear hK K)); apply hK)); clear hK K)
  refine ret_pure ?_; simp only [resL_tmp, resL_nil, tupOf, go_sem, hD]
  refine bool_eq ?_
  rw [decide_eq_decide]
  omega

theorem full_r (n : Nat) (hn : n ≤ 31) : PCall Tryz.prog 31 [I64 n] (U32 (2 ^ n - 1 : Nat)) := by
  refine Call.enter' (N := 19) (rs := [.tmp 2]) Tryz.func31 rfl rfl rfl (by decide) rfl ?_; simp only [argT]; have hD : (0 : Nat) = 0 := rfl
  repeat' first | (with_reducible refine And.intro (by omega) ?_) | (refine SW.seq_k fun K hK => ?_) | (refine SW.block ?_) | ((first | refine SW.region ?_ | refine SW.regionD (Checked.mixed Tryz.checked) (by kernel_rfl) ?_ | refine SW.cond ?_ | refine SW.skip ?_ | refine SW.exit ?_ | refine SW.ret ?_ | (refine allF_i fun b hb => ?_; replace hD := And.intro hb hD; clear hb; try simp only [fresh_cons, fresh_nil, and_true, ne_eq, neF] at hD) | simp only [appK, appOsK]); try simp only [go_sem, hD]) | (refine And.intro (by omega) ?_) | (refine ifI (fun hc => ?_) (fun hc => ?_) <;> first | (exfalso; omega) | skip) | ((first | apply hK | ((iterate 1 (clear hK K)); apply hK) | ((iterate 2 (clear hK K)); apply hK) | ((iterate 3 (clear hK K)); apply hK) | ((iterate 4 (clear hK K)); apply hK) | ((iterate 5 (clear hK K)); apply hK)); clear hK K)
  obtain ⟨I, hI⟩ : ∃ I : Nat → St → Prop, ∀ k S, I k S ↔ (∃ (i : Nat) , k = n - i ∧ i ≤ n ∧ S = ⟨[(0, I64 n), (3, U32 (2 ^ i - 1 : Nat)), (4, I64 i)], []⟩) := ⟨fun k S => _, fun _ _ => Iff.rfl⟩
  refine SW.loop' I (n) ((hI _ _).2 ⟨0, rfl, Nat.zero_le _, rfl⟩) (by repeat' (first | exact rfl | exact trivial | exact int_eq (by omega) | exact int_eq (by (rw [i64_wrap] <;> omega)) | constructor)) ?_
  intro k S hIn
  obtain ⟨i, rfl, hi, rfl⟩ := (hI _ _).1 hIn
  clear hIn
  have ie : ((i : Nat) : Int).toNat = i := Int.toNat_natCast _
  have i0 : (0 : Int) ≤ ((i : Nat) : Int) := by omega
  by_cases hlt : i < n
  · have hli : ((i : Nat) : Int) < (((n) : Nat) : Int) := by omega
    have w1 : IntKind.i64.wrap ((i : Int) + 1) = ((i + 1 : Nat) : Int) := by rw [i64_wrap (by omega) (by omega)]; omega
    have h32 : (i : Int) < 32 := by omega
    have sh := shl32 i (by omega)
    have hp : 2 ^ (i + 1) ≤ 2 ^ 31 := Nat.pow_le_pow_right (by omega) (by omega)
    have hp2 : 2 ^ (i + 1) = 2 * 2 ^ i := by rw [Nat.pow_succ, Nat.mul_comm]
    have fs := full_step i
    have e := or32 (2 ^ i - 1) (2 ^ i) (by omega) (by omega)
    rw [fs] at e
    repeat' first | (with_reducible refine And.intro (by omega) ?_) | (refine SW.seq_k fun K hK => ?_) | (refine SW.block ?_) | ((first | refine SW.region ?_ | refine SW.regionD (Checked.mixed Tryz.checked) (by kernel_rfl) ?_ | refine SW.cond ?_ | refine SW.skip ?_ | refine SW.exit ?_ | refine SW.ret ?_ | (refine allF_i fun b hb => ?_; replace hD := And.intro hb hD; clear hb; try simp only [fresh_cons, fresh_nil, and_true, ne_eq, neF] at hD) | simp only [appK, appOsK]); try simp only [go_sem, hD, hli, h32, i0, ie, sh, e, w1]) | (refine And.intro (by omega) ?_) | (refine ifI (fun hc => ?_) (fun hc => ?_) <;> first | (exfalso; omega) | skip) | ((first | apply hK | ((iterate 1 (clear hK K)); apply hK) | ((iterate 2 (clear hK K)); apply hK) | ((iterate 3 (clear hK K)); apply hK) | ((iterate 4 (clear hK K)); apply hK) | ((iterate 5 (clear hK K)); apply hK)); clear hK K)
    refine Rnd.sub (n - (i + 1)) (by omega) ((hI _ _).2 ⟨i + 1, rfl, by omega, rfl⟩) (by repeat' (first | exact rfl | exact trivial | exact int_eq (by omega) | exact int_eq (by (rw [i64_wrap] <;> omega)) | constructor))
  · have hli : ¬ ((i : Nat) : Int) < (((n) : Nat) : Int) := by omega
    obtain rfl : i = n := by omega
    repeat' first | (with_reducible refine And.intro (by omega) ?_) | (refine SW.seq_k fun K hK => ?_) | (refine SW.block ?_) | ((first | refine SW.region ?_ | refine SW.regionD (Checked.mixed Tryz.checked) (by kernel_rfl) ?_ | refine SW.cond ?_ | refine SW.skip ?_ | refine SW.exit ?_ | refine SW.ret ?_ | (refine allF_i fun b hb => ?_; replace hD := And.intro hb hD; clear hb; try simp only [fresh_cons, fresh_nil, and_true, ne_eq, neF] at hD) | simp only [appK, appOsK]); try simp only [go_sem, hD, hli]) | (refine And.intro (by omega) ?_) | (refine ifI (fun hc => ?_) (fun hc => ?_) <;> first | (exfalso; omega) | skip) | ((first | apply hK | ((iterate 1 (clear hK K)); apply hK) | ((iterate 2 (clear hK K)); apply hK) | ((iterate 3 (clear hK K)); apply hK) | ((iterate 4 (clear hK K)); apply hK) | ((iterate 5 (clear hK K)); apply hK)); clear hK K)
    refine ret_pure ?_; simp only [resL_tmp, resL_nil, tupOf, go_sem, hD]

theorem has_r (s a : Nat) (hs : s < 4294967296) (ha : a < 32) : PCall Tryz.prog 32 [U32 s, I64 a] (SB (decide (s / 2 ^ a % 2 = 1))) := by
  have a0 : (0 : Int) ≤ ((a : Nat) : Int) := by omega
  have a1 : ((a : Nat) : Int) < 32 := by omega
  have ae : ((a : Nat) : Int).toNat = a := Int.toNat_natCast _
  have am : min a 32 = a := Nat.min_eq_left (by omega)
  have sh := shr32 s a
  have hle : s / 2 ^ a < 4294967296 := Nat.lt_of_le_of_lt (Nat.div_le_self _ _) hs
  have e := and32 (s / 2 ^ a) 1 hle (by omega)
  rw [Nat.and_one_is_mod] at e
  have e2 : bits .and .u32 ((s / 2 ^ a : Nat) : Int) 1 = ((s / 2 ^ a % 2 : Nat) : Int) := e
  refine Call.enter' (N := 18) (rs := [.tmp 4]) Tryz.func32 rfl rfl rfl (by decide) rfl ?_; simp only [argT]; have hD : (0 : Nat) = 0 := rfl
  repeat' first | (with_reducible refine And.intro (by omega) ?_) | (refine SW.seq_k fun K hK => ?_) | (refine SW.block ?_) | ((first | refine SW.region ?_ | refine SW.regionD (Checked.mixed Tryz.checked) (by kernel_rfl) ?_ | refine SW.cond ?_ | refine SW.skip ?_ | refine SW.exit ?_ | refine SW.ret ?_ | (refine allF_i fun b hb => ?_; replace hD := And.intro hb hD; clear hb; try simp only [fresh_cons, fresh_nil, and_true, ne_eq, neF] at hD) | simp only [appK, appOsK]); try simp only [go_sem, hD, a0, a1, ae, am, sh, e2]) | (refine And.intro (by omega) ?_) | (refine ifI (fun hc => ?_) (fun hc => ?_) <;> first | (exfalso; omega) | skip) | ((first | apply hK | ((iterate 1 (clear hK K)); apply hK) | ((iterate 2 (clear hK K)); apply hK) | ((iterate 3 (clear hK K)); apply hK) | ((iterate 4 (clear hK K)); apply hK) | ((iterate 5 (clear hK K)); apply hK)); clear hK K)
  refine ret_pure ?_; simp only [resL_tmp, resL_nil, tupOf, go_sem, hD]
  refine bool_eq ?_
  rw [decide_eq_decide]
  omega

theorem sub_full {s n : Nat} : (s &&& (2 ^ n - 1) = s) ↔ s < 2 ^ n := by
  rw [Nat.and_two_pow_sub_one_eq_mod]
  have := Nat.two_pow_pos n
  constructor
  · intro h
    rw [← h]
    exact Nat.mod_lt _ this
  · exact Nat.mod_eq_of_lt

set_option maxHeartbeats 2000000 in
set_option maxRecDepth 20000 in
theorem compl_r (t : Tb) (s : Nat) (hs : s < 4294967296) (h5 : t.attrs.length ≤ 5) (hv : ∀ r ∈ t.rows, r.2.length ≤ 9223372036854775807) : PCall Tryz.prog 10 [TB t, U32 s] (FR (compS t s)) := by
  have va := valid_tr t hv
  obtain ⟨X, hX⟩ : ∃ X, X = compS t s := ⟨_, rfl⟩
  rw [← hX]
  unfold compS at hX
  by_cases h0 : validS t = 0
  · rw [if_pos h0] at hX
    rw [h0] at va
    obtain ⟨r1, r2, r3⟩ := valid_rows h0
    have hp : 2 ^ t.attrs.length ≤ 2 ^ 5 := Nat.pow_le_pow_right (by omega) h5
    have fu := full_r t.attrs.length (by omega)
    have su := sub_r s (2 ^ t.attrs.length - 1) hs (by omega)
    by_cases h2 : s < 2 ^ t.attrs.length
    · rw [if_pos h2] at hX
      rw [decide_eq_true (sub_full.2 h2)] at su
      obtain ⟨c1, c2⟩ := comp_count t s h0 h5 h2
      rw [c2, c1] at hX
      clear c1 c2 h0 hp
      have hmk : mkR 1 1 = (1, 1, 0) := by decide
      rw [hmk] at hX
      have bl := bF_le s t.attrs.length
      have mr := make_r
      obtain ⟨nm, ats, l⟩ := t
      simp only at *
      obtain ⟨n, hn⟩ : ∃ n, n = ats.length := ⟨_, rfl⟩
      have e0 : fN s n (l.take 0) = 0 := by simp [fN]
      have e1 : (bF s n).length * 0 = 0 := rfl
      refine Call.enter' (N := 66) (rs := [.cell 4 38, .tmp 5]) Tryz.func10 rfl rfl rfl (by decide) rfl ?_; simp only [argT]; have hD : (0 : Nat) = 0 := rfl
      repeat' first | (with_reducible refine And.intro (by omega) ?_) | (refine SW.seq_k fun K hK => ?_) | (refine SW.block ?_) | ((first | refine SW.region ?_ | refine SW.regionD (Checked.mixed Tryz.checked) (by kernel_rfl) ?_ | refine SW.cond ?_ | refine SW.skip ?_ | refine SW.exit ?_ | refine SW.ret ?_ | refine Call.of_pure (va) ?_ | refine ⟨_, va, ?_⟩ | refine Call.of_pure (fu) ?_ | refine ⟨_, fu, ?_⟩ | refine Call.of_pure (su) ?_ | refine ⟨_, su, ?_⟩ | (refine allF_i fun b hb => ?_; replace hD := And.intro hb hD; clear hb; try simp only [fresh_cons, fresh_nil, and_true, ne_eq, neF] at hD) | simp only [appK, appOsK]); try simp only [go_sem, hD]) | (refine And.intro (by omega) ?_) | (refine ifI (fun hc => ?_) (fun hc => ?_) <;> first | (exfalso; omega) | skip) | ((first | apply hK | ((iterate 1 (clear hK K)); apply hK) | ((iterate 2 (clear hK K)); apply hK) | ((iterate 3 (clear hK K)); apply hK) | ((iterate 4 (clear hK K)); apply hK) | ((iterate 5 (clear hK K)); apply hK)); clear hK K)
      obtain ⟨rb, rfl⟩ : ∃ x, x = b := ⟨_, rfl⟩
      obtain ⟨tb, rfl⟩ : ∃ x, x = b := ⟨_, rfl⟩
      obtain ⟨I, hI⟩ : ∃ I : Nat → St → Prop, ∀ k S, I k S ↔ (∃ (i : Nat) (xf xa : Nat), k = l.length - i ∧ i ≤ l.length ∧ xf = fN s n (l.take i) ∧ xa = (bF s n).length * i ∧ S = ⟨[(1, U32 s), (2, .op tb 0), (4, .op rb 0), (7, I64 xf), (8, I64 xa), (9, I64 i)], [(rb, .svs [I64 0, I64 0]), (tb, .svs [Str nm, SL ats, RL l])]⟩) := ⟨fun k S => _, fun _ _ => Iff.rfl⟩
      refine SW.loop' I (l.length) ((hI _ _).2 ⟨0, 0, 0, rfl, Nat.zero_le _, e0.symm, e1.symm, rfl⟩) (by repeat' (first | exact rfl | exact trivial | exact int_eq (by omega) | exact int_eq (by (rw [i64_wrap] <;> omega)) | constructor)) ?_
      intro k S hIn
      obtain ⟨i, xf, xa, rfl, hi, hf, ha, rfl⟩ := (hI _ _).1 hIn
      clear hIn
      have ie : ((i : Nat) : Int).toNat = i := Int.toNat_natCast _
      have i0 : (0 : Int) ≤ ((i : Nat) : Int) := by omega
      have hfb : fN s n (l.take i) ≤ (bF s n).length * i := by
        have := fN_col s n (l.take i)
        rw [List.length_take, Nat.min_eq_left hi] at this
        omega
      have hab : (bF s n).length * i ≤ 5 * 1000 := Nat.mul_le_mul (by rw [hn]; omega) (by omega)
      by_cases hlt : i < l.length
      · have hli : ((i : Nat) : Int) < (((l.length) : Nat) : Int) := by omega
        have w1 : IntKind.i64.wrap ((i : Int) + 1) = ((i + 1 : Nat) : Int) := by rw [i64_wrap (by omega) (by omega)]; omega
        have hg : l.getD i r0 = l[i] := by simp [List.getD_eq_getElem?_getD, hlt]
        have har := r3 _ (List.getElem_mem hlt)
        rw [← hg] at har
        have hst : fN s n (l.take (i + 1)) = fN s n (l.take i) + rN s n (l.getD i r0).2 := by
          unfold fN
          rw [List.take_add_one, List.getElem?_eq_getElem hlt, List.map_append, List.sum_append, hg]
          simp
        obtain ⟨id, vs, hr⟩ : ∃ id vs, l.getD i r0 = (id, vs) := ⟨_, _, rfl⟩
        have tf : rF l i = [I64 id, VL vs] := by unfold rF; rw [hr]; rfl
        rw [hr] at har hst
        simp only at har hst
        have f0 : xf = xf + rN s 0 vs := rfl
        have f1 : xa = xa + (bF s 0).length := rfl
        have hIo := hI
        have hio := i0
        have heo := ie
        rw [f0, f1]
        repeat' first | (with_reducible refine And.intro (by omega) ?_) | (refine SW.seq_k fun K hK => ?_) | (refine SW.block ?_) | ((first | refine SW.region ?_ | refine SW.regionD (Checked.mixed Tryz.checked) (by kernel_rfl) ?_ | refine SW.cond ?_ | refine SW.skip ?_ | refine SW.exit ?_ | refine SW.ret ?_ | (refine allF_i fun b hb => ?_; replace hD := And.intro hb hD; clear hb; try simp only [fresh_cons, fresh_nil, and_true, ne_eq, neF] at hD) | simp only [appK, appOsK]); try simp only [go_sem, hD, hli, ie, i0, w1, tf]) | (refine And.intro (by omega) ?_) | (refine ifI (fun hc => ?_) (fun hc => ?_) <;> first | (exfalso; omega) | skip) | ((first | apply hK | ((iterate 1 (clear hK K)); apply hK) | ((iterate 2 (clear hK K)); apply hK) | ((iterate 3 (clear hK K)); apply hK) | ((iterate 4 (clear hK K)); apply hK) | ((iterate 5 (clear hK K)); apply hK)); clear hK K)
        obtain ⟨I, hI⟩ : ∃ I : Nat → St → Prop, ∀ k S, I k S ↔ (∃ (a : Nat) , k = n - a ∧ a ≤ n ∧ S = ⟨[(1, U32 s), (2, .op tb 0), (4, .op rb 0), (7, I64 (xf + rN s a vs : Nat)), (8, I64 (xa + (bF s a).length : Nat)), (9, I64 i), (10, I64 a)], [(rb, .svs [I64 0, I64 0]), (tb, .svs [Str nm, SL ats, RL l])]⟩) := ⟨fun k S => _, fun _ _ => Iff.rfl⟩
        refine SW.loop' I (n) ((hI _ _).2 ⟨0, rfl, Nat.zero_le _, rfl⟩) (by repeat' (first | exact rfl | exact trivial | exact int_eq (by omega) | exact int_eq (by (rw [i64_wrap] <;> omega)) | constructor)) ?_
        intro k S hIn
        obtain ⟨a, rfl, hi, rfl⟩ := (hI _ _).1 hIn
        clear hIn
        have ie : ((a : Nat) : Int).toNat = a := Int.toNat_natCast _
        have i0 : (0 : Int) ≤ ((a : Nat) : Int) := by omega
        have b1 := bF_le s a
        have b2 := rN_le s a vs
        by_cases hla : a < n
        · have hal : ((a : Nat) : Int) < ((ats.length : Nat) : Int) := by omega
          have hvl : ((a : Nat) : Int) < ((vs.length : Nat) : Int) := by omega
          have wa : IntKind.i64.wrap ((a : Int) + 1) = ((a + 1 : Nat) : Int) := by rw [i64_wrap (by omega) (by omega)]; omega
          have wf : IntKind.i64.wrap (((xf + rN s a vs : Nat) : Int) + 1) = ((xf + rN s a vs + 1 : Nat) : Int) := by rw [i64_wrap (by omega) (by omega)]; omega
          have wx : IntKind.i64.wrap (((xa + (bF s a).length : Nat) : Int) + 1) = ((xa + (bF s a).length + 1 : Nat) : Int) := by rw [i64_wrap (by omega) (by omega)]; omega
          have hh := has_r s a hs (by omega)
          have st1 := bF_step s a
          have st2 := rN_step s a vs
          obtain ⟨vk, vn, vt, hvv⟩ : ∃ k n t, vs.getD a v0 = (k, n, t) := ⟨_, _, _, rfl⟩
          have tv : vF vs a = [I64 vk, I64 vn, Str vt] := by unfold vF; rw [hvv]
          have hnn : nn vs a = decide (¬ vk = 0) := by unfold nn; rw [hvv]
          by_cases hb : s / 2 ^ a % 2 = 1
          · rw [decide_eq_true hb] at hh
            rw [if_pos hb] at st1
            have st1' : (bF s (a + 1)).length = (bF s a).length + 1 := by rw [st1, List.length_append]; rfl
            by_cases hk : vk = 0
            · rw [if_neg (by rw [hnn]; simp [hk])] at st2
              repeat' first | (with_reducible refine And.intro (by omega) ?_) | (refine SW.seq_k fun K hK => ?_) | (refine SW.block ?_) | ((first | refine SW.region ?_ | refine SW.regionD (Checked.mixed Tryz.checked) (by kernel_rfl) ?_ | refine SW.cond ?_ | refine SW.skip ?_ | refine SW.exit ?_ | refine SW.ret ?_ | refine Call.of_pure (hh) ?_ | refine ⟨_, hh, ?_⟩ | (refine allF_i fun b hb => ?_; replace hD := And.intro hb hD; clear hb; try simp only [fresh_cons, fresh_nil, and_true, ne_eq, neF] at hD) | simp only [appK, appOsK]); try simp only [go_sem, hD, hal, hvl, wa, wf, wx, tf, tv, hk, hlt, hio, heo, ie, i0, hli]) | (refine And.intro (by omega) ?_) | (refine ifI (fun hc => ?_) (fun hc => ?_) <;> first | (exfalso; omega) | skip) | ((first | apply hK | ((iterate 1 (clear hK K)); apply hK) | ((iterate 2 (clear hK K)); apply hK) | ((iterate 3 (clear hK K)); apply hK) | ((iterate 4 (clear hK K)); apply hK) | ((iterate 5 (clear hK K)); apply hK)); clear hK K)
              refine Rnd.sub (n - (a + 1)) (by omega) ((hI _ _).2 ⟨a + 1, rfl, by omega, rfl⟩) (by repeat' (first | exact rfl | exact trivial | exact int_eq (by omega) | exact int_eq (by (rw [i64_wrap] <;> omega)) | constructor))
            · rw [if_pos ⟨hb, by rw [hnn]; simp [hk]⟩] at st2
              repeat' first | (with_reducible refine And.intro (by omega) ?_) | (refine SW.seq_k fun K hK => ?_) | (refine SW.block ?_) | ((first | refine SW.region ?_ | refine SW.regionD (Checked.mixed Tryz.checked) (by kernel_rfl) ?_ | refine SW.cond ?_ | refine SW.skip ?_ | refine SW.exit ?_ | refine SW.ret ?_ | refine Call.of_pure (hh) ?_ | refine ⟨_, hh, ?_⟩ | (refine allF_i fun b hb => ?_; replace hD := And.intro hb hD; clear hb; try simp only [fresh_cons, fresh_nil, and_true, ne_eq, neF] at hD) | simp only [appK, appOsK]); try simp only [go_sem, hD, hal, hvl, wa, wf, wx, tf, tv, hk, hlt, hio, heo, ie, i0, hli]) | (refine And.intro (by omega) ?_) | (refine ifI (fun hc => ?_) (fun hc => ?_) <;> first | (exfalso; omega) | skip) | ((first | apply hK | ((iterate 1 (clear hK K)); apply hK) | ((iterate 2 (clear hK K)); apply hK) | ((iterate 3 (clear hK K)); apply hK) | ((iterate 4 (clear hK K)); apply hK) | ((iterate 5 (clear hK K)); apply hK)); clear hK K)
              refine Rnd.sub (n - (a + 1)) (by omega) ((hI _ _).2 ⟨a + 1, rfl, by omega, rfl⟩) (by repeat' (first | exact rfl | exact trivial | exact int_eq (by omega) | exact int_eq (by (rw [i64_wrap] <;> omega)) | constructor))
          · rw [decide_eq_false hb] at hh
            rw [if_neg hb, List.append_nil] at st1
            have st1' : (bF s (a + 1)).length = (bF s a).length := by rw [st1]
            rw [if_neg (fun h => hb h.1)] at st2
            repeat' first | (with_reducible refine And.intro (by omega) ?_) | (refine SW.seq_k fun K hK => ?_) | (refine SW.block ?_) | ((first | refine SW.region ?_ | refine SW.regionD (Checked.mixed Tryz.checked) (by kernel_rfl) ?_ | refine SW.cond ?_ | refine SW.skip ?_ | refine SW.exit ?_ | refine SW.ret ?_ | refine Call.of_pure (hh) ?_ | refine ⟨_, hh, ?_⟩ | (refine allF_i fun b hb => ?_; replace hD := And.intro hb hD; clear hb; try simp only [fresh_cons, fresh_nil, and_true, ne_eq, neF] at hD) | simp only [appK, appOsK]); try simp only [go_sem, hD, hal, hvl, wa, wf, wx, tf, tv, hlt, hio, heo, ie, i0, hli]) | (refine And.intro (by omega) ?_) | (refine ifI (fun hc => ?_) (fun hc => ?_) <;> first | (exfalso; omega) | skip) | ((first | apply hK | ((iterate 1 (clear hK K)); apply hK) | ((iterate 2 (clear hK K)); apply hK) | ((iterate 3 (clear hK K)); apply hK) | ((iterate 4 (clear hK K)); apply hK) | ((iterate 5 (clear hK K)); apply hK)); clear hK K)
            refine Rnd.sub (n - (a + 1)) (by omega) ((hI _ _).2 ⟨a + 1, rfl, by omega, rfl⟩) (by repeat' (first | exact rfl | exact trivial | exact int_eq (by omega) | exact int_eq (by (rw [i64_wrap] <;> omega)) | constructor))
        · have hal : ¬ ((a : Nat) : Int) < ((ats.length : Nat) : Int) := by omega
          obtain rfl : a = n := by omega
          repeat' first | (with_reducible refine And.intro (by omega) ?_) | (refine SW.seq_k fun K hK => ?_) | (refine SW.block ?_) | ((first | refine SW.region ?_ | refine SW.regionD (Checked.mixed Tryz.checked) (by kernel_rfl) ?_ | refine SW.cond ?_ | refine SW.skip ?_ | refine SW.exit ?_ | refine SW.ret ?_ | (refine allF_i fun b hb => ?_; replace hD := And.intro hb hD; clear hb; try simp only [fresh_cons, fresh_nil, and_true, ne_eq, neF] at hD) | simp only [appK, appOsK]); try simp only [go_sem, hD, hal, w1]) | (refine And.intro (by omega) ?_) | (refine ifI (fun hc => ?_) (fun hc => ?_) <;> first | (exfalso; omega) | skip) | ((first | apply hK | ((iterate 1 (clear hK K)); apply hK) | ((iterate 2 (clear hK K)); apply hK) | ((iterate 3 (clear hK K)); apply hK) | ((iterate 4 (clear hK K)); apply hK) | ((iterate 5 (clear hK K)); apply hK)); clear hK K)
          refine Rnd.sub (l.length - (i + 1)) (by omega) ((hIo _ _).2 ⟨i + 1, _, _, rfl, by omega, (by rw [hst, ← hf]), (by rw [Nat.mul_add, Nat.mul_one, ← ha]), rfl⟩) (by repeat' (first | exact rfl | exact trivial | exact int_eq (by omega) | exact int_eq (by (rw [i64_wrap] <;> omega)) | constructor))
      · have hli : ¬ ((i : Nat) : Int) < (((l.length) : Nat) : Int) := by omega
        obtain rfl : i = l.length := by omega
        rw [List.take_length] at hf hfb
        rw [← hn, ← hf, ← ha] at hX
        by_cases hz : xa = 0
        · rw [if_pos hz] at hX
          subst hX
          have hzi : ((xa : Nat) : Int) = 0 := by omega
          repeat' first | (with_reducible refine And.intro (by omega) ?_) | (refine SW.seq_k fun K hK => ?_) | (refine SW.block ?_) | ((first | refine SW.region ?_ | refine SW.regionD (Checked.mixed Tryz.checked) (by kernel_rfl) ?_ | refine SW.cond ?_ | refine SW.skip ?_ | refine SW.exit ?_ | refine SW.ret ?_ | (refine allF_i fun b hb => ?_; replace hD := And.intro hb hD; clear hb; try simp only [fresh_cons, fresh_nil, and_true, ne_eq, neF] at hD) | simp only [appK, appOsK]); try simp only [go_sem, hD, hli, hzi]) | (refine And.intro (by omega) ?_) | (refine ifI (fun hc => ?_) (fun hc => ?_) <;> first | (exfalso; omega) | skip) | ((first | apply hK | ((iterate 1 (clear hK K)); apply hK) | ((iterate 2 (clear hK K)); apply hK) | ((iterate 3 (clear hK K)); apply hK) | ((iterate 4 (clear hK K)); apply hK) | ((iterate 5 (clear hK K)); apply hK)); clear hK K)
          apply ret_cell (i := 4) (n := 2); exact rfl; (simp only [go_sem, hD]; try rfl); (first | exact Nat.le_refl _ | decide); simp only [resL_tmp, resL_cellE, resC_ok, resL_nil, tupOf, getN, go_sem, hD]
        · rw [if_neg hz] at hX
          have hzi : ¬ ((xa : Nat) : Int) = 0 := by omega
          have mm := make_r (xf : Int) (xa : Int) (by omega) (by omega) (by omega) (by omega)
          rw [← hX] at mm
          repeat' first | (with_reducible refine And.intro (by omega) ?_) | (refine SW.seq_k fun K hK => ?_) | (refine SW.block ?_) | ((first | refine SW.region ?_ | refine SW.regionD (Checked.mixed Tryz.checked) (by kernel_rfl) ?_ | refine SW.cond ?_ | refine SW.skip ?_ | refine SW.exit ?_ | refine SW.ret ?_ | refine Call.of_pure (mm) ?_ | refine ⟨_, mm, ?_⟩ | (refine allF_i fun b hb => ?_; replace hD := And.intro hb hD; clear hb; try simp only [fresh_cons, fresh_nil, and_true, ne_eq, neF] at hD) | simp only [appK, appOsK]); try simp only [go_sem, hD, hli, hzi]) | (refine And.intro (by omega) ?_) | (refine ifI (fun hc => ?_) (fun hc => ?_) <;> first | (exfalso; omega) | skip) | ((first | apply hK | ((iterate 1 (clear hK K)); apply hK) | ((iterate 2 (clear hK K)); apply hK) | ((iterate 3 (clear hK K)); apply hK) | ((iterate 4 (clear hK K)); apply hK) | ((iterate 5 (clear hK K)); apply hK)); clear hK K)
          apply ret_cell (i := 4) (n := 2); exact rfl; (simp only [go_sem, hD]; try rfl); (first | exact Nat.le_refl _ | decide); simp only [resL_tmp, resL_cellE, resC_ok, resL_nil, tupOf, getN, go_sem, hD]
    · rw [if_neg h2] at hX
      rw [decide_eq_false (fun h => h2 (sub_full.1 h))] at su
      subst hX
      obtain ⟨nm, ats, l⟩ := t
      simp only at *
      refine Call.enter' (N := 66) (rs := [.cell 4 38, .tmp 5]) Tryz.func10 rfl rfl rfl (by decide) rfl ?_; simp only [argT]; have hD : (0 : Nat) = 0 := rfl
      repeat' first | (with_reducible refine And.intro (by omega) ?_) | (refine SW.seq_k fun K hK => ?_) | (refine SW.block ?_) | ((first | refine SW.region ?_ | refine SW.regionD (Checked.mixed Tryz.checked) (by kernel_rfl) ?_ | refine SW.cond ?_ | refine SW.skip ?_ | refine SW.exit ?_ | refine SW.ret ?_ | refine Call.of_pure (va) ?_ | refine ⟨_, va, ?_⟩ | refine Call.of_pure (fu) ?_ | refine ⟨_, fu, ?_⟩ | refine Call.of_pure (su) ?_ | refine ⟨_, su, ?_⟩ | (refine allF_i fun b hb => ?_; replace hD := And.intro hb hD; clear hb; try simp only [fresh_cons, fresh_nil, and_true, ne_eq, neF] at hD) | simp only [appK, appOsK]); try simp only [go_sem, hD]) | (refine And.intro (by omega) ?_) | (refine ifI (fun hc => ?_) (fun hc => ?_) <;> first | (exfalso; omega) | skip) | ((first | apply hK | ((iterate 1 (clear hK K)); apply hK) | ((iterate 2 (clear hK K)); apply hK) | ((iterate 3 (clear hK K)); apply hK) | ((iterate 4 (clear hK K)); apply hK) | ((iterate 5 (clear hK K)); apply hK)); clear hK K)
      apply ret_cell (i := 4) (n := 2); exact rfl; (simp only [go_sem, hD]; try rfl); (first | exact Nat.le_refl _ | decide); simp only [resL_tmp, resL_cellE, resC_ok, resL_nil, tupOf, getN, go_sem, hD]
  · rw [if_neg h0] at hX
    subst hX
    generalize validS t = e at *
    refine Call.enter' (N := 66) (rs := [.cell 4 38, .tmp 5]) Tryz.func10 rfl rfl rfl (by decide) rfl ?_; simp only [argT]; have hD : (0 : Nat) = 0 := rfl
    repeat' first | (with_reducible refine And.intro (by omega) ?_) | (refine SW.seq_k fun K hK => ?_) | (refine SW.block ?_) | ((first | refine SW.region ?_ | refine SW.regionD (Checked.mixed Tryz.checked) (by kernel_rfl) ?_ | refine SW.cond ?_ | refine SW.skip ?_ | refine SW.exit ?_ | refine SW.ret ?_ | refine Call.of_pure (va) ?_ | refine ⟨_, va, ?_⟩ | (refine allF_i fun b hb => ?_; replace hD := And.intro hb hD; clear hb; try simp only [fresh_cons, fresh_nil, and_true, ne_eq, neF] at hD) | simp only [appK, appOsK]); try simp only [go_sem, hD, h0]) | (refine And.intro (by omega) ?_) | (refine ifI (fun hc => ?_) (fun hc => ?_) <;> first | (exfalso; omega) | skip) | ((first | apply hK | ((iterate 1 (clear hK K)); apply hK) | ((iterate 2 (clear hK K)); apply hK) | ((iterate 3 (clear hK K)); apply hK) | ((iterate 4 (clear hK K)); apply hK) | ((iterate 5 (clear hK K)); apply hK)); clear hK K)
    apply ret_cell (i := 4) (n := 2); exact rfl; (simp only [go_sem, hD]; try rfl); (first | exact Nat.le_refl _ | decide); simp only [resL_tmp, resL_cellE, resC_ok, resL_nil, tupOf, getN, go_sem, hD]

set_option maxHeartbeats 1000000 in
set_option maxRecDepth 20000 in
theorem law_comp (x : Rc) (hx : okRc x) (s : Nat) (hs : s < 4294967296) (q : Bool) : PCall Tryz.prog 4 [RC x, U32 s, SB q] (SB true) := by
  have aw := awake_c
  rcases spoiled_d x hx q with sp | ⟨t, ht, sp⟩
  · refine Call.enter' (N := 46) (rs := [.tmp 6]) Tryz.func4 rfl rfl rfl (by decide) rfl ?_; simp only [argT]; have hD : (0 : Nat) = 0 := rfl
    repeat' first | (with_reducible refine And.intro (by omega) ?_) | (refine SW.seq_k fun K hK => ?_) | (refine SW.block ?_) | ((first | refine SW.region ?_ | refine SW.regionD (Checked.mixed Tryz.checked) (by kernel_rfl) ?_ | refine SW.cond ?_ | refine SW.skip ?_ | refine SW.exit ?_ | refine SW.ret ?_ | refine Call.of_pure (sp) ?_ | refine ⟨_, sp, ?_⟩ | refine Call.of_pure (aw) ?_ | refine ⟨_, aw, ?_⟩ | (refine allF_i fun b hb => ?_; replace hD := And.intro hb hD; clear hb; try simp only [fresh_cons, fresh_nil, and_true, ne_eq, neF] at hD) | simp only [appK, appOsK]); try simp only [go_sem, hD]) | (refine And.intro (by omega) ?_) | (refine ifI (fun hc => ?_) (fun hc => ?_) <;> first | (exfalso; omega) | skip) | ((first | apply hK | ((iterate 1 (clear hK K)); apply hK) | ((iterate 2 (clear hK K)); apply hK) | ((iterate 3 (clear hK K)); apply hK) | ((iterate 4 (clear hK K)); apply hK) | ((iterate 5 (clear hK K)); apply hK)); clear hK K)
    refine ret_pure ?_; simp only [resL_tmp, resL_nil, tupOf, go_sem, hD]
  · obtain ⟨h1, h2, h3⟩ := ht
    have o1 := comp_p t s hs h2 (fun r hr => (h1 r hr).2)
    have o2 := compl_r t s hs h2 (fun r hr => by have := (h1 r hr).1; omega)
    obtain ⟨f1, f2, f3⟩ := compS t s
    refine Call.enter' (N := 46) (rs := [.tmp 6]) Tryz.func4 rfl rfl rfl (by decide) rfl ?_; simp only [argT]; have hD : (0 : Nat) = 0 := rfl
    repeat' first | (with_reducible refine And.intro (by omega) ?_) | (refine SW.seq_k fun K hK => ?_) | (refine SW.block ?_) | ((first | refine SW.region ?_ | refine SW.regionD (Checked.mixed Tryz.checked) (by kernel_rfl) ?_ | refine SW.cond ?_ | refine SW.skip ?_ | refine SW.exit ?_ | refine SW.ret ?_ | refine Call.of_pure (sp) ?_ | refine ⟨_, sp, ?_⟩ | refine Call.of_pure (aw) ?_ | refine ⟨_, aw, ?_⟩ | refine Call.of_pure (o1) ?_ | refine ⟨_, o1, ?_⟩ | refine Call.of_pure (o2) ?_ | refine ⟨_, o2, ?_⟩ | (refine allF_i fun b hb => ?_; replace hD := And.intro hb hD; clear hb; try simp only [fresh_cons, fresh_nil, and_true, ne_eq, neF] at hD) | simp only [appK, appOsK]); try simp only [go_sem, hD]) | (refine And.intro (by omega) ?_) | (refine ifI (fun hc => ?_) (fun hc => ?_) <;> first | (exfalso; omega) | skip) | ((first | apply hK | ((iterate 1 (clear hK K)); apply hK) | ((iterate 2 (clear hK K)); apply hK) | ((iterate 3 (clear hK K)); apply hK) | ((iterate 4 (clear hK K)); apply hK) | ((iterate 5 (clear hK K)); apply hK)); clear hK K)
    refine ret_pure ?_; simp only [resL_tmp, resL_nil, tupOf, go_sem, hD]
theorem fitsU32 {n : Int} (h : fits .u32 n) : 0 ≤ n ∧ n < 4294967296 := by
  unfold fits Lit.wf at h
  simp only [Bool.and_eq_true, decide_eq_true_eq] at h
  have h1 : (0 : Int) ≤ n := h.1
  have h2 : n ≤ 4294967295 := h.2
  omega
theorem law_compI (x : Rc) (hx : okRc x) (z : Int) (hz : fits .u32 z) (q : Bool) : PCall Tryz.prog 4 [RC x, U32 z, SB q] (SB true) := by
  obtain ⟨h0, h1⟩ := fitsU32 hz
  obtain ⟨s, rfl⟩ := Int.eq_ofNat_of_zero_le h0
  exact law_comp x hx s (by omega) q
end Go.Proofs.YtddkacbcecedaaaGreatDoor
