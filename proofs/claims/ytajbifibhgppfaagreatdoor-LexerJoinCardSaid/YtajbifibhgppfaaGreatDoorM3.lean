/- Several texts in one: D10, C6, C7, D11, D12, D13, D14, E2, E3. -/
import Derived.Test.YtajbifibhgppfaaGreatDoorM2
import Derived.Test.YtajbifibhgppfaaGreatDoorZ11
import Derived.Test.YtajbifibhgppfaaGreatDoorE1
import Derived.Test.YtajbifibhgppfaaGreatDoorZ10
/- Contracts: IndexByte, Count, LastIndexByte at a line end; blank. -/
set_option linter.unusedSimpArgs false
set_option linter.unusedVariables false
set_option linter.unusedSectionVars false
namespace Go.Ab.A05
open Go Go.Ab Go.Ab.A01 Go.Proofs.YtajbifibhgppfaaGreatDoor
theorem lineN_nil : lineN [] = 0 := rfl
theorem lineN_cons (c : UInt8) (r : List UInt8) : lineN (c :: r) = if c = 10 then 0 else 1 + lineN r := by
  unfold lineN
  rw [runN_cons]
  by_cases h : c = 10
  · rw [if_pos h, if_neg (by simpa using h)]
  · rw [if_neg h, if_pos (by simpa using h)]
theorem lineN_le (l : List UInt8) : lineN l ≤ l.length := runN_le _ _
theorem idx_line : ∀ l : List UInt8, Lib.indexByte l 10 = if lineN l = l.length then -1 else ((lineN l : Nat) : Int)
  | [] => rfl
  | c :: r => by
    have h := idx_line r
    have hl := lineN_le r
    unfold Lib.indexByte
    rw [lineN_cons, List.length_cons]
    by_cases hc : c = 10
    · have hb : (c == 10) = true := by rw [hc]; rfl
      rw [if_pos hb, if_pos hc, if_neg (by omega)]
      rfl
    · have hb : ¬ (c == 10) = true := by simpa using hc
      rw [if_neg hb, if_neg hc, h]
      by_cases h2 : lineN r = r.length
      · rw [if_pos h2, if_pos (by rfl), if_pos (by omega)]
      · have h3 : ¬ (((lineN r : Nat) : Int) == -1) = true := by rw [beq_iff_eq]; omega
        rw [if_neg h2, if_neg h3, if_neg (by omega)]
        omega
theorem last_tail (s : ByteArray) : ∀ k, k ≤ s.size → Lib.lastIdx s 10 k = (k : Int) - 1 - (tailS (s.data.toList.take k) : Nat)
  | 0, _ => rfl
  | k + 1, hk => by
    have ls := len_list s
    have hk2 : k < s.data.toList.length := by omega
    have e : s.data.toList.take (k + 1) = s.data.toList.take k ++ [s.data.toList[k]] := by rw [List.take_add_one, List.getElem?_eq_getElem hk2]; rfl
    have e2 : s.data[k]! = s.data.toList[k] := by
      have : k < s.data.size := by rw [← Array.length_toList]; exact hk2
      rw [getElem!_pos s.data k this, Array.getElem_toList]
    have ih := last_tail s k (by omega)
    unfold Lib.lastIdx
    rw [e, tail_snoc, e2, ih]
    by_cases h : s.data.toList[k] = 10
    · rw [if_pos h, h]
      simp
      try omega
    · rw [if_neg h, if_neg]
      · omega
      · exact fun x => h (u8_of (d := 10) x)
end Go.Ab.A05
namespace Go.Proofs.YtajbifibhgppfaaGreatDoor
open Go Go.Ab Go.Ab.A01 Go.Ab.A05
variable [Gl] [Tabs] [Syms]

theorem nl_c (s : ByteArray) : PCall Tryz.prog 32 [Str s, .sc (.int .u8 10)] (I64 (if lineN s.data.toList = s.data.toList.length then -1 else ((lineN s.data.toList : Nat) : Int))) := by
  rw [← idx_line]
  exact PCall.of_calls ⟨_, Tryz.func32, by kernel_rfl, by kernel_rfl⟩ fun w E vs _ _ _ hr => by
    obtain rfl := reps2 hr
    exact (Tryz.strings_IndexByte s 10 w).mono fun e w' ⟨he, hw⟩ => ⟨_, he, fun _ => .sc _, by rw [hw]; exact RowKit.Below.refl _ _⟩
theorem cnt_c (s : ByteArray) : PCall Tryz.prog 18 [Str s, .sc (.string ⟨#[10]⟩)] (I64 ((s.data.toList.count 10 : Nat) : Int)) :=
  PCall.of_calls ⟨_, Tryz.func18, by kernel_rfl, by kernel_rfl⟩ fun w E vs _ _ _ hr => by
    obtain rfl := reps2 hr
    exact (Tryz.strings_Count_one s 10 w).mono fun e w' ⟨he, hw⟩ => ⟨_, he, fun _ => .sc _, by rw [hw]; exact RowKit.Below.refl _ _⟩
theorem last_c (s : ByteArray) (hs : s.size ≤ 1000000) : PCall Tryz.prog 19 [Str s, .sc (.int .u8 10)] (I64 ((s.size : Int) - 1 - (tailS s.data.toList : Nat))) := by
  have e : Lib.lastIndexByte s 10 = (s.size : Int) - 1 - (tailS s.data.toList : Nat) := by
    unfold Lib.lastIndexByte
    rw [last_tail s s.size (Nat.le_refl _), List.take_of_length_le (by rw [len_list]; exact Nat.le_refl _)]
  rw [← e]
  exact PCall.of_calls ⟨_, Tryz.func19, by kernel_rfl, by kernel_rfl⟩ fun w E vs _ _ _ hr => by
    obtain rfl := reps2 hr
    exact (Tryz.strings_LastIndexByte s 10 (by omega) w).mono fun e w' ⟨he, hw⟩ => ⟨_, he, fun _ => .sc _, by rw [hw]; exact RowKit.Below.refl _ _⟩

set_option maxHeartbeats 1000000 in
set_option maxRecDepth 20000 in
theorem blank_p (s : ByteArray) (hs : s.size ≤ 1000000) : PCall Tryz.prog 17 [Str s] (I64 (blankN s.data.toList)) := by
  have ls : s.data.toList.length = s.size := Array.length_toList
  obtain ⟨R, hR⟩ : ∃ R, R = blankN s.data.toList := ⟨_, rfl⟩
  rw [← hR]
  have hC0 : ∃ f, s.size - 0 ≤ f ∧ R = 0 + blankF f (s.data.toList.drop 0) := ⟨s.data.toList.length, by omega, by rw [hR, List.drop_zero, Nat.zero_add]; rfl⟩
  clear hR
  refine Call.enter' (N := 33) (rs := [.tmp 2]) Tryz.func17 rfl rfl rfl (by decide) rfl ?_; simp only [argT]; have hD : (0 : Nat) = 0 := rfl
  repeat' first | (with_reducible refine And.intro (by omega) ?_) | (refine SW.seq_k fun K hK => ?_) | (refine SW.block ?_) | ((first | refine SW.region ?_ | refine SW.regionD (Checked.mixed Tryz.checked) (by kernel_rfl) ?_ | refine SW.cond ?_ | refine SW.skip ?_ | refine SW.exit ?_ | refine SW.ret ?_ | (refine allF_i fun b hb => ?_; replace hD := And.intro hb hD; clear hb; try simp only [fresh_cons, fresh_nil, and_true, ne_eq, neF] at hD) | simp only [appK, appOsK]); try simp only [go_sem, ↓reduceIte, reduceCtorEq, Nat.reduceAdd, Nat.reduceMul, Nat.reduceSub, Nat.reduceLT, Nat.reduceLeDiff, Nat.reduceEqDiff, Nat.reduceBEq, Nat.reduceBneDiff, Int.reduceToNat, Int.reduceEq, hD]) | (refine And.intro (by omega) ?_) | (refine ifI (fun hc => ?_) (fun hc => ?_) <;> first | (exfalso; omega) | skip) | (first | (apply hK; clear hK K) | ((iterate 1 (clear hK K)); apply hK; clear hK K) | ((iterate 2 (clear hK K)); apply hK; clear hK K) | ((iterate 3 (clear hK K)); apply hK; clear hK K) | ((iterate 4 (clear hK K)); apply hK; clear hK K) | ((iterate 5 (clear hK K)); apply hK; clear hK K))
  obtain ⟨I, hI⟩ : ∃ I : Nat → St → Prop, ∀ k S, I k S ↔ (∃ (i : Nat), k = s.size - i ∧ i ≤ s.size ∧ (∃ f, s.size - i ≤ f ∧ R = i + blankF f (s.data.toList.drop i)) ∧ S = ⟨[(0, Str s), (3, I64 i)], []⟩) := ⟨fun k S => _, fun _ _ => Iff.rfl⟩
  refine SW.loop' I s.size ((hI _ _).2 ⟨0, rfl, Nat.zero_le _, hC0, rfl⟩) (by repeat' (first | exact rfl | exact trivial | exact int_eq (by omega) | exact int_eq (by (rw [i64_wrap] <;> omega)) | constructor)) ?_
  clear hC0
  intro k S hIn
  obtain ⟨i, rfl, hi, hC, rfl⟩ := (hI _ _).1 hIn
  clear hIn
  have ie : ((i : Nat) : Int).toNat = i := Int.toNat_natCast _
  have i0 : (0 : Int) ≤ ((i : Nat) : Int) := by omega
  have il : ((i : Nat) : Int) ≤ ((s.size : Nat) : Int) := by omega
  by_cases hlt : i < s.size
  · have hli : ((i : Nat) : Int) < ((s.size : Nat) : Int) := by omega
    have w1 : IntKind.i64.wrap ((i : Int) + 1) = ((i + 1 : Nat) : Int) := by rw [i64_wrap (by omega) (by omega)]; omega
    obtain ⟨f, hf, hC⟩ := hC
    have hd := drop_cons (s := s.data.toList) (i := i) (by omega)
    obtain ⟨g, rfl⟩ : ∃ g, f = g + 1 := ⟨f - 1, by omega⟩
    rw [hd] at hC
    generalize hb : s.data.toList.getD i 0 = c at *
    by_cases h1 : c = 32 ∨ c = 9 ∨ c = 10
    · have hw : white c = true := by rcases h1 with rfl | rfl | rfl <;> rfl
      have hC2 : ∃ f, s.size - (i + 1) ≤ f ∧ R = i + 1 + blankF f (s.data.toList.drop (i + 1)) := ⟨g, by omega, by rw [hC, blankF, if_pos hw]; omega⟩
      rcases h1 with rfl | rfl | rfl
      · have t1 : (((32 : UInt8).toNat : Nat) : Int) = 32 := rfl
        repeat' first | (with_reducible refine And.intro (by omega) ?_) | (refine SW.seq_k fun K hK => ?_) | (refine SW.block ?_) | ((first | refine SW.region ?_ | refine SW.regionD (Checked.mixed Tryz.checked) (by kernel_rfl) ?_ | refine SW.cond ?_ | refine SW.skip ?_ | refine SW.exit ?_ | refine SW.ret ?_ | (refine allF_i fun b hb => ?_; replace hD := And.intro hb hD; clear hb; try simp only [fresh_cons, fresh_nil, and_true, ne_eq, neF] at hD) | simp only [appK, appOsK]); try simp only [go_sem, ↓reduceIte, reduceCtorEq, Nat.reduceAdd, Nat.reduceMul, Nat.reduceSub, Nat.reduceLT, Nat.reduceLeDiff, Nat.reduceEqDiff, Nat.reduceBEq, Nat.reduceBneDiff, Int.reduceToNat, Int.reduceEq, hD, hli, ie, i0, w1, hb, t1]) | (refine And.intro (by omega) ?_) | (refine ifI (fun hc => ?_) (fun hc => ?_) <;> first | (exfalso; omega) | skip) | (first | (apply hK; clear hK K) | ((iterate 1 (clear hK K)); apply hK; clear hK K) | ((iterate 2 (clear hK K)); apply hK; clear hK K) | ((iterate 3 (clear hK K)); apply hK; clear hK K) | ((iterate 4 (clear hK K)); apply hK; clear hK K) | ((iterate 5 (clear hK K)); apply hK; clear hK K))
        refine Rnd.sub (s.size - (i + 1)) (by omega) ((hI _ _).2 ⟨i + 1, rfl, by omega, hC2, rfl⟩) (by repeat' (first | exact rfl | exact trivial | exact int_eq (by omega) | exact int_eq (by (rw [i64_wrap] <;> omega)) | constructor))
      · have t1 : (((9 : UInt8).toNat : Nat) : Int) = 9 := rfl
        repeat' first | (with_reducible refine And.intro (by omega) ?_) | (refine SW.seq_k fun K hK => ?_) | (refine SW.block ?_) | ((first | refine SW.region ?_ | refine SW.regionD (Checked.mixed Tryz.checked) (by kernel_rfl) ?_ | refine SW.cond ?_ | refine SW.skip ?_ | refine SW.exit ?_ | refine SW.ret ?_ | (refine allF_i fun b hb => ?_; replace hD := And.intro hb hD; clear hb; try simp only [fresh_cons, fresh_nil, and_true, ne_eq, neF] at hD) | simp only [appK, appOsK]); try simp only [go_sem, ↓reduceIte, reduceCtorEq, Nat.reduceAdd, Nat.reduceMul, Nat.reduceSub, Nat.reduceLT, Nat.reduceLeDiff, Nat.reduceEqDiff, Nat.reduceBEq, Nat.reduceBneDiff, Int.reduceToNat, Int.reduceEq, hD, hli, ie, i0, w1, hb, t1]) | (refine And.intro (by omega) ?_) | (refine ifI (fun hc => ?_) (fun hc => ?_) <;> first | (exfalso; omega) | skip) | (first | (apply hK; clear hK K) | ((iterate 1 (clear hK K)); apply hK; clear hK K) | ((iterate 2 (clear hK K)); apply hK; clear hK K) | ((iterate 3 (clear hK K)); apply hK; clear hK K) | ((iterate 4 (clear hK K)); apply hK; clear hK K) | ((iterate 5 (clear hK K)); apply hK; clear hK K))
        refine Rnd.sub (s.size - (i + 1)) (by omega) ((hI _ _).2 ⟨i + 1, rfl, by omega, hC2, rfl⟩) (by repeat' (first | exact rfl | exact trivial | exact int_eq (by omega) | exact int_eq (by (rw [i64_wrap] <;> omega)) | constructor))
      · have t1 : (((10 : UInt8).toNat : Nat) : Int) = 10 := rfl
        repeat' first | (with_reducible refine And.intro (by omega) ?_) | (refine SW.seq_k fun K hK => ?_) | (refine SW.block ?_) | ((first | refine SW.region ?_ | refine SW.regionD (Checked.mixed Tryz.checked) (by kernel_rfl) ?_ | refine SW.cond ?_ | refine SW.skip ?_ | refine SW.exit ?_ | refine SW.ret ?_ | (refine allF_i fun b hb => ?_; replace hD := And.intro hb hD; clear hb; try simp only [fresh_cons, fresh_nil, and_true, ne_eq, neF] at hD) | simp only [appK, appOsK]); try simp only [go_sem, ↓reduceIte, reduceCtorEq, Nat.reduceAdd, Nat.reduceMul, Nat.reduceSub, Nat.reduceLT, Nat.reduceLeDiff, Nat.reduceEqDiff, Nat.reduceBEq, Nat.reduceBneDiff, Int.reduceToNat, Int.reduceEq, hD, hli, ie, i0, w1, hb, t1]) | (refine And.intro (by omega) ?_) | (refine ifI (fun hc => ?_) (fun hc => ?_) <;> first | (exfalso; omega) | skip) | (first | (apply hK; clear hK K) | ((iterate 1 (clear hK K)); apply hK; clear hK K) | ((iterate 2 (clear hK K)); apply hK; clear hK K) | ((iterate 3 (clear hK K)); apply hK; clear hK K) | ((iterate 4 (clear hK K)); apply hK; clear hK K) | ((iterate 5 (clear hK K)); apply hK; clear hK K))
        refine Rnd.sub (s.size - (i + 1)) (by omega) ((hI _ _).2 ⟨i + 1, rfl, by omega, hC2, rfl⟩) (by repeat' (first | exact rfl | exact trivial | exact int_eq (by omega) | exact int_eq (by (rw [i64_wrap] <;> omega)) | constructor))
    · have hw : ¬ white c = true := by
        unfold white
        simp only [Bool.or_eq_true, decide_eq_true_eq]
        exact h1
      have c1 : ¬ ((c.toNat : Nat) : Int) = 32 := fun x => h1 (.inl (u8_of (d := 32) x))
      have c2 : ¬ ((c.toNat : Nat) : Int) = 9 := fun x => h1 (.inr (.inl (u8_of (d := 9) x)))
      have c3 : ¬ ((c.toNat : Nat) : Int) = 10 := fun x => h1 (.inr (.inr (u8_of (d := 10) x)))
      rw [blankF, if_neg hw] at hC
      by_cases h2 : c = 35
      · have c4 : ((c.toNat : Nat) : Int) = 35 := by rw [h2]; rfl
        rw [if_pos h2, ← hd] at hC
        have er : (s.extract i s.size).data.toList = s.data.toList.drop i := ext_tail _ _
        have nl := nl_c (s.extract i s.size)
        rw [er] at nl
        have le := lineN_le (s.data.toList.drop i)
        have lp : 1 ≤ lineN (s.data.toList.drop i) := by
          rw [hd, lineN_cons, if_neg (by rw [h2]; decide)]
          omega
        rw [List.length_drop] at le
        by_cases h3 : lineN (s.data.toList.drop i) = (s.data.toList.drop i).length
        · rw [if_pos h3] at nl hC
          rw [List.length_drop] at hC
          have hR : R = s.size := by omega
          subst hR
          repeat' first | (with_reducible refine And.intro (by omega) ?_) | (refine SW.seq_k fun K hK => ?_) | (refine SW.block ?_) | ((first | refine SW.region ?_ | refine SW.regionD (Checked.mixed Tryz.checked) (by kernel_rfl) ?_ | refine SW.cond ?_ | refine SW.skip ?_ | refine SW.exit ?_ | refine SW.ret ?_ | refine Call.of_pure (nl) ?_ | refine ⟨_, nl, ?_⟩ | (refine allF_i fun b hb => ?_; replace hD := And.intro hb hD; clear hb; try simp only [fresh_cons, fresh_nil, and_true, ne_eq, neF] at hD) | simp only [appK, appOsK]); try simp only [go_sem, ↓reduceIte, reduceCtorEq, Nat.reduceAdd, Nat.reduceMul, Nat.reduceSub, Nat.reduceLT, Nat.reduceLeDiff, Nat.reduceEqDiff, Nat.reduceBEq, Nat.reduceBneDiff, Int.reduceToNat, Int.reduceEq, hD, hli, ie, i0, il, hb, c1, c2, c3, c4]) | (refine And.intro (by omega) ?_) | (refine ifI (fun hc => ?_) (fun hc => ?_) <;> first | (exfalso; omega) | skip) | (first | (apply hK; clear hK K) | ((iterate 1 (clear hK K)); apply hK; clear hK K) | ((iterate 2 (clear hK K)); apply hK; clear hK K) | ((iterate 3 (clear hK K)); apply hK; clear hK K) | ((iterate 4 (clear hK K)); apply hK; clear hK K) | ((iterate 5 (clear hK K)); apply hK; clear hK K))
          refine ret_pure ?_; simp only [resL_tmp, resL_nil, tupOf, go_sem, ↓reduceIte, reduceCtorEq, Nat.reduceAdd, Nat.reduceMul, Nat.reduceSub, Nat.reduceLT, Nat.reduceLeDiff, Nat.reduceEqDiff, Nat.reduceBEq, Nat.reduceBneDiff, Int.reduceToNat, Int.reduceEq, hD]
        · rw [if_neg h3] at nl hC
          rw [List.drop_drop] at hC
          generalize hgn : lineN (s.data.toList.drop i) = n at *
          have n0 : ¬ ((n : Nat) : Int) < 0 := by omega
          have w2 : IntKind.i64.wrap ((i : Int) + (n : Int)) = ((i + n : Nat) : Int) := by rw [i64_wrap (by omega) (by omega)]; omega
          repeat' first | (with_reducible refine And.intro (by omega) ?_) | (refine SW.seq_k fun K hK => ?_) | (refine SW.block ?_) | ((first | refine SW.region ?_ | refine SW.regionD (Checked.mixed Tryz.checked) (by kernel_rfl) ?_ | refine SW.cond ?_ | refine SW.skip ?_ | refine SW.exit ?_ | refine SW.ret ?_ | refine Call.of_pure (nl) ?_ | refine ⟨_, nl, ?_⟩ | (refine allF_i fun b hb => ?_; replace hD := And.intro hb hD; clear hb; try simp only [fresh_cons, fresh_nil, and_true, ne_eq, neF] at hD) | simp only [appK, appOsK]); try simp only [go_sem, ↓reduceIte, reduceCtorEq, Nat.reduceAdd, Nat.reduceMul, Nat.reduceSub, Nat.reduceLT, Nat.reduceLeDiff, Nat.reduceEqDiff, Nat.reduceBEq, Nat.reduceBneDiff, Int.reduceToNat, Int.reduceEq, hD, hli, ie, i0, il, hb, c1, c2, c3, c4, n0, w2]) | (refine And.intro (by omega) ?_) | (refine ifI (fun hc => ?_) (fun hc => ?_) <;> first | (exfalso; omega) | skip) | (first | (apply hK; clear hK K) | ((iterate 1 (clear hK K)); apply hK; clear hK K) | ((iterate 2 (clear hK K)); apply hK; clear hK K) | ((iterate 3 (clear hK K)); apply hK; clear hK K) | ((iterate 4 (clear hK K)); apply hK; clear hK K) | ((iterate 5 (clear hK K)); apply hK; clear hK K))
          refine Rnd.sub (s.size - (i + n)) (by omega) ((hI _ _).2 ⟨i + n, rfl, by omega, ⟨g, by omega, by omega⟩, rfl⟩) (by repeat' (first | exact rfl | exact trivial | exact int_eq (by omega) | exact int_eq (by (rw [i64_wrap] <;> omega)) | constructor))
      · have c4 : ¬ ((c.toNat : Nat) : Int) = 35 := fun x => h2 (u8_of (d := 35) x)
        rw [if_neg h2] at hC
        have hR : R = i := hC
        subst hR
        repeat' first | (with_reducible refine And.intro (by omega) ?_) | (refine SW.seq_k fun K hK => ?_) | (refine SW.block ?_) | ((first | refine SW.region ?_ | refine SW.regionD (Checked.mixed Tryz.checked) (by kernel_rfl) ?_ | refine SW.cond ?_ | refine SW.skip ?_ | refine SW.exit ?_ | refine SW.ret ?_ | (refine allF_i fun b hb => ?_; replace hD := And.intro hb hD; clear hb; try simp only [fresh_cons, fresh_nil, and_true, ne_eq, neF] at hD) | simp only [appK, appOsK]); try simp only [go_sem, ↓reduceIte, reduceCtorEq, Nat.reduceAdd, Nat.reduceMul, Nat.reduceSub, Nat.reduceLT, Nat.reduceLeDiff, Nat.reduceEqDiff, Nat.reduceBEq, Nat.reduceBneDiff, Int.reduceToNat, Int.reduceEq, hD, hli, ie, i0, hb, c1, c2, c3, c4]) | (refine And.intro (by omega) ?_) | (refine ifI (fun hc => ?_) (fun hc => ?_) <;> first | (exfalso; omega) | skip) | (first | (apply hK; clear hK K) | ((iterate 1 (clear hK K)); apply hK; clear hK K) | ((iterate 2 (clear hK K)); apply hK; clear hK K) | ((iterate 3 (clear hK K)); apply hK; clear hK K) | ((iterate 4 (clear hK K)); apply hK; clear hK K) | ((iterate 5 (clear hK K)); apply hK; clear hK K))
        refine ret_pure ?_; simp only [resL_tmp, resL_nil, tupOf, go_sem, ↓reduceIte, reduceCtorEq, Nat.reduceAdd, Nat.reduceMul, Nat.reduceSub, Nat.reduceLT, Nat.reduceLeDiff, Nat.reduceEqDiff, Nat.reduceBEq, Nat.reduceBneDiff, Int.reduceToNat, Int.reduceEq, hD]
  · have hli : ¬ ((i : Nat) : Int) < ((s.size : Nat) : Int) := by omega
    obtain ⟨f, hf, hC⟩ := hC
    rw [List.drop_of_length_le (by omega)] at hC
    have hR : R = i := by
      cases f with
      | zero => exact hC
      | succ f => exact hC
    subst hR
    repeat' first | (with_reducible refine And.intro (by omega) ?_) | (refine SW.seq_k fun K hK => ?_) | (refine SW.block ?_) | ((first | refine SW.region ?_ | refine SW.regionD (Checked.mixed Tryz.checked) (by kernel_rfl) ?_ | refine SW.cond ?_ | refine SW.skip ?_ | refine SW.exit ?_ | refine SW.ret ?_ | (refine allF_i fun b hb => ?_; replace hD := And.intro hb hD; clear hb; try simp only [fresh_cons, fresh_nil, and_true, ne_eq, neF] at hD) | simp only [appK, appOsK]); try simp only [go_sem, ↓reduceIte, reduceCtorEq, Nat.reduceAdd, Nat.reduceMul, Nat.reduceSub, Nat.reduceLT, Nat.reduceLeDiff, Nat.reduceEqDiff, Nat.reduceBEq, Nat.reduceBneDiff, Int.reduceToNat, Int.reduceEq, hD, hli]) | (refine And.intro (by omega) ?_) | (refine ifI (fun hc => ?_) (fun hc => ?_) <;> first | (exfalso; omega) | skip) | (first | (apply hK; clear hK K) | ((iterate 1 (clear hK K)); apply hK; clear hK K) | ((iterate 2 (clear hK K)); apply hK; clear hK K) | ((iterate 3 (clear hK K)); apply hK; clear hK K) | ((iterate 4 (clear hK K)); apply hK; clear hK K) | ((iterate 5 (clear hK K)); apply hK; clear hK K))
    refine ret_pure ?_; simp only [resL_tmp, resL_nil, tupOf, go_sem, ↓reduceIte, reduceCtorEq, Nat.reduceAdd, Nat.reduceMul, Nat.reduceSub, Nat.reduceLT, Nat.reduceLeDiff, Nat.reduceEqDiff, Nat.reduceBEq, Nat.reduceBneDiff, Int.reduceToNat, Int.reduceEq, hD]
end Go.Proofs.YtajbifibhgppfaaGreatDoor
/- Plain law of tokens: which next byte a token's text takes too; tokens behind one another. -/
set_option linter.unusedSimpArgs false
set_option linter.unusedVariables false
set_option linter.unusedSectionVars false
namespace Go.Ab.A05
open Go Go.Ab Go.Ab.A01 Go.Proofs.YtajbifibhgppfaaGreatDoor

/-- Does a token's text take the next byte too? -/
def nextB (l : List UInt8) (c : UInt8) : Bool :=
  if nameB l = true ∨ l = nullL then isW c
  else if symB l = true then (decide (l = [60]) && decide (c = 61)) || (decide (l = [45, 62]) && decide (c = 62))
  else if l.getD 0 0 = 34 then false else isD c
theorem runN_nil (p : UInt8 → Bool) : runN p [] = 0 := rfl
theorem runN_app (p : UInt8 → Bool) (x : List UInt8) : ∀ (l : List UInt8), (∀ c ∈ l, p c = true) → runN p (l ++ x) = l.length + runN p x
  | [], _ => by rw [List.nil_append, List.length_nil, Nat.zero_add]
  | c :: r, h => by
    rw [List.cons_append, runN_cons, if_pos (h c (List.mem_cons_self ..)), runN_app p x r (fun d hd => h d (List.mem_cons_of_mem _ hd)), List.length_cons]
    omega
theorem first_word {c : UInt8} {r x : List UInt8} (hc : isL c = true) (h : ∀ d ∈ c :: r, isW d = true) : firstN (c :: r ++ x) = (c :: r).length + runN isW x := by
  rw [← runN_app isW x _ h]
  show (if isL c = true then _ else _) = _
  rw [if_pos hc]
theorem first_num {c : UInt8} {r x : List UInt8} (h : ∀ d ∈ c :: r, isD d = true) : firstN (c :: r ++ x) = (c :: r).length + runN isD x := by
  rw [← runN_app isD x _ h]
  have hc := h c (List.mem_cons_self ..)
  have hl : isL c = false := by
    unfold isD at hc
    rw [Bool.and_eq_true, decide_eq_true_eq, decide_eq_true_eq] at hc
    exact dig_no hc
  show (if isL c = true then _ else if isD c = true then _ else _) = _
  rw [if_neg (by rw [hl]; simp), if_pos hc]
theorem first_sign {b c : UInt8} {r x : List UInt8} (hb : b = 45 ∨ b = 63) (h : ∀ d ∈ c :: r, isD d = true) : firstN (b :: c :: r ++ x) = (b :: c :: r).length + runN isD x := by
  have e := runN_app isD x _ h
  have hc := h c (List.mem_cons_self ..)
  have hl : isL b = false ∧ isD b = false := by rcases hb with rfl | rfl <;> decide
  show (if isL b = true then _ else if isD b = true then _ else if (b = 45 ∨ b = 63) ∧ isD ((c :: r ++ x).getD 0 0) = true then 1 + runN isD (c :: r ++ x) else _) = _
  rw [if_neg (by rw [hl.1]; simp), if_neg (by rw [hl.2]; simp), if_pos ⟨hb, hc⟩, e]
  simp only [List.length_cons]
  omega
theorem first_quote (t : List UInt8) (x : List UInt8) : firstN (quoteL t ++ x) = (quoteL t).length := by
  have e : quoteL t ++ x = 34 :: (t.flatMap quote1 ++ 34 :: x) := by
    unfold quoteL
    simp only [List.cons_append, List.append_assoc, List.nil_append]
  rw [e]
  show qF 1 (t.flatMap quote1 ++ 34 :: x) = _
  rw [qF_quote]
  unfold quoteL
  simp only [List.length_cons, List.length_append, List.length_nil]
  omega
theorem dig_all {u : Nat} : ∀ d ∈ Lib.decDigits u, isD d = true := fun d hd => by
  have := dec_bytes u d hd
  unfold isD
  rw [Bool.and_eq_true, decide_eq_true_eq, decide_eq_true_eq]
  exact this
theorem isD_isL {c : UInt8} (h : isL c = true) : isD c = false := by
  cases hd : isD c with
  | false => rfl
  | true =>
    unfold isD at hd
    rw [Bool.and_eq_true, decide_eq_true_eq, decide_eq_true_eq] at hd
    rw [dig_no hd] at h
    cases h
/-- A valid constant's text, by its kind. -/
theorem good_cases {l : List UInt8} {v : Int × Int × ByteArray} (h : Go.Proofs.YtajbifibhgppfaaGreatDoor.Good (mkB l) v) :
    (v.1 = 0 ∧ l = nullL) ∨ (v.1 = 1 ∧ ∃ c r, l = c :: r ∧ ∀ d ∈ c :: r, isD d = true) ∨ (v.1 = 1 ∧ ∃ c r, l = 45 :: c :: r ∧ ∀ d ∈ c :: r, isD d = true)
      ∨ (v.1 = 2 ∧ ∃ t, l = quoteL t) ∨ (v.1 = 3 ∧ ∃ c r, l = 63 :: c :: r ∧ ∀ d ∈ c :: r, isD d = true) := by
  obtain ⟨k, n, t⟩ := v
  obtain ⟨hv, _, e⟩ := h
  simp only at hv e ⊢
  have el : (fmtS k n t).data.toList = l := by rw [e, mkB_L]
  rcases vok_kind hv with rfl | rfl | ⟨rfl, _⟩ | rfl
  · exact .inl ⟨rfl, el.symm⟩
  · have e2 : Lib.itoa n = l := el
    obtain ⟨c, r, e3, hc⟩ := dec_cons n.natAbs
    rcases itoa_cases n with ⟨_, e4⟩ | ⟨_, e4⟩
    · exact .inr (.inr (.inl ⟨rfl, c, r, by rw [← e2, e4, e3], by rw [← e3]; exact dig_all⟩))
    · exact .inr (.inl ⟨rfl, c, r, by rw [← e2, e4, e3], by rw [← e3]; exact dig_all⟩)
  · have e2 : (fmtS 2 n t).data.toList = quoteL t.data.toList := by
      have : fmtS 2 n t = mkB (quoteL t.data.toList) := rfl
      rw [this, mkB_L]
    exact .inr (.inr (.inr (.inl ⟨rfl, _, by rw [← el, e2]⟩)))
  · have e2 : (fmtS 3 n t).data.toList = 63 :: Lib.itoa n := by
      have : fmtS 3 n t = ⟨#[63]⟩ ++ itoaS n := rfl
      rw [this, ByteArray.data_append, Array.toList_append]
      rfl
    have hn : 1 ≤ n := by
      unfold vok at hv
      rw [if_neg (by decide), if_neg (by decide), if_neg (by decide), if_pos rfl, Bool.and_eq_true, decide_eq_true_eq] at hv
      exact hv.1
    obtain ⟨c, r, e3, hc⟩ := dec_cons n.natAbs
    rcases itoa_cases n with ⟨h4, e4⟩ | ⟨_, e4⟩
    · omega
    · exact .inr (.inr (.inr (.inr ⟨rfl, c, r, by rw [← el, e2, e4, e3], by rw [← e3]; exact dig_all⟩)))
theorem name_cases {l : List UInt8} (h : nameB l = true) : ∃ c r, l = c :: r ∧ isL c = true ∧ (∀ d ∈ c :: r, isW d = true) ∧ l ≠ nullL := by
  cases l with
  | nil => cases h
  | cons c r =>
    unfold nameB at h
    simp only [Bool.and_eq_true, Bool.not_eq_true', decide_eq_false_iff_not] at h
    exact ⟨c, r, rfl, h.1.2, List.all_eq_true.1 h.2, h.1.1.2⟩
theorem sym_first : ∀ l ∈ syms, firstN l = l.length ∧ ∀ c r, firstN (l ++ c :: r) = if nextB l c = true then l.length + 1 else l.length := by
  intro l hl
  simp only [syms, List.mem_cons, List.not_mem_nil, or_false] at hl
  rcases hl with rfl | rfl | rfl | rfl | rfl | rfl | rfl | rfl | rfl | rfl | rfl | rfl | rfl | rfl | rfl | rfl | rfl | rfl | rfl | rfl <;>
  refine ⟨by decide +kernel, fun c r => ?_⟩ <;>
  simp [nextB, nameB, nullL, symB, firstN, isL, isD, symN, syms, List.find?_cons, List.isPrefixOf, List.getD]
  · by_cases q : c = 62
    · rw [q]; rfl
    · have q2 : (62 == c) = false := by rw [beq_eq_false_iff_ne]; exact fun x => q x.symm
      rw [q2, if_neg q]
      rfl
  · by_cases q : c = 61
    · rw [q]; rfl
    · have q2 : (61 == c) = false := by rw [beq_eq_false_iff_ne]; exact fun x => q x.symm
      rw [q2, if_neg q]
      rfl
/-- A token's text takes the next byte exactly where nextB says so. -/
theorem firstN_app {l : List UInt8} {kv : Int × (Int × Int × ByteArray)} (h : tokenS l = some kv) :
    firstN l = l.length ∧ (∀ c r, nextB l c = false → firstN (l ++ c :: r) = l.length) ∧ (∀ c r, nextB l c = true → l.length < firstN (l ++ c :: r)) := by
  have fin : ∀ p : UInt8 → Bool, (∀ x, firstN (l ++ x) = l.length + runN p x) → (∀ c, nextB l c = p c) → firstN l = l.length ∧ (∀ c r, nextB l c = false → firstN (l ++ c :: r) = l.length) ∧ (∀ c r, nextB l c = true → l.length < firstN (l ++ c :: r)) := by
    intro p h1 h2
    refine ⟨?_, fun c r hn => ?_, fun c r hn => ?_⟩
    · have := h1 []
      rw [List.append_nil, runN_nil] at this
      exact this
    · rw [h1, runN_cons, if_neg (by rw [← h2, hn]; simp)]
      rfl
    · rw [h1, runN_cons, if_pos (by rw [← h2, hn])]
      omega
  obtain ⟨k, v⟩ := kv
  rcases token_kind h with ⟨_, hn, _⟩ | ⟨_, hs, _⟩ | ⟨_, hg⟩
  · obtain ⟨c, r, e, hc, ha, _⟩ := name_cases hn
    refine fin isW (fun x => by rw [e]; exact first_word hc ha) (fun d => ?_)
    unfold nextB
    rw [if_pos (.inl hn)]
  · obtain ⟨a, b⟩ := sym_first l ((symB_iff l).1 hs)
    refine ⟨a, fun c r hn => ?_, fun c r hn => ?_⟩
    · rw [b, if_neg (by rw [hn]; simp)]
    · rw [b, if_pos hn]
      omega
  · have hf := fmt_tok hg.1
    rw [hg.2.2, mkB_L] at hf
    have nx : l ≠ nullL → ∀ d, nextB l d = if l.getD 0 0 = 34 then false else isD d := fun hn d => by
      unfold nextB
      rw [if_neg (by rintro (x | x); (· rw [hf.1] at x; cases x); exact hn x), if_neg (by rw [hf.2]; simp)]
    rcases good_cases hg with ⟨_, e⟩ | ⟨_, c, r, e, ha⟩ | ⟨_, c, r, e, ha⟩ | ⟨_, t, e⟩ | ⟨_, c, r, e, ha⟩
    · refine fin isW (fun x => by rw [e]; exact first_word (by decide) (by decide)) (fun d => ?_)
      unfold nextB
      rw [if_pos (.inr e)]
    · refine fin isD (fun x => by rw [e]; exact first_num ha) (fun d => ?_)
      have hc := ha c (List.mem_cons_self ..)
      rw [nx (by rintro x; rw [e] at x; injection x with x _; rw [x] at hc; revert hc; decide), if_neg]
      rw [e, List.getD_cons_zero]
      rintro x
      rw [x] at hc
      revert hc; decide
    · refine fin isD (fun x => by rw [e]; exact first_sign (.inl rfl) ha) (fun d => ?_)
      rw [nx (by rw [e]; intro x; injection x with x _; revert x; decide), if_neg]
      rw [e, List.getD_cons_zero]
      decide
    · have e0 : l.getD 0 0 = 34 := by rw [e]; rfl
      have hn : ∀ d, nextB l d = false := fun d => by
        rw [nx (by rw [e]; intro x; injection x with x _; revert x; decide), if_pos e0]
      refine ⟨?_, fun c r _ => by rw [e]; exact first_quote _ _, fun c r x => by rw [hn] at x; cases x⟩
      have := first_quote t []
      rw [List.append_nil, ← e] at this
      exact this
    · refine fin isD (fun x => by rw [e]; exact first_sign (.inr rfl) ha) (fun d => ?_)
      rw [nx (by rw [e]; intro x; injection x with x _; revert x; decide), if_neg]
      rw [e, List.getD_cons_zero]
      decide
/-- How a token's text begins. -/
theorem token_head {l : List UInt8} {kv : Int × (Int × Int × ByteArray)} (h : tokenS l = some kv) : ∃ c r, l = c :: r ∧ white c = false ∧ c ≠ 35 ∧ c ≠ 62 ∧ (c = 61 → l = [61]) := by
  have hb : ∀ {c : UInt8}, isW c = true → white c = false ∧ c ≠ 35 ∧ c ≠ 62 ∧ c ≠ 61 := by
    intro c hc
    refine ⟨?_, ?_, ?_, ?_⟩
    · cases hw : white c with
      | false => rfl
      | true =>
        unfold white at hw
        simp only [Bool.or_eq_true, decide_eq_true_eq] at hw
        rcases hw with rfl | rfl | rfl <;> (revert hc; decide)
    all_goals (rintro rfl; revert hc; decide)
  obtain ⟨k, v⟩ := kv
  rcases token_kind h with ⟨_, hn, _⟩ | ⟨_, hs, _⟩ | ⟨_, hg⟩
  · obtain ⟨c, r, e, hc, ha, _⟩ := name_cases hn
    obtain ⟨a1, a2, a3, a4⟩ := hb (ha c (List.mem_cons_self ..))
    exact ⟨c, r, e, a1, a2, a3, fun x => absurd x a4⟩
  · have : ∀ l ∈ syms, l ≠ [] ∧ white (l.getD 0 0) = false ∧ l.getD 0 0 ≠ 35 ∧ l.getD 0 0 ≠ 62 ∧ (l.getD 0 0 = 61 → l = [61]) := by decide +kernel
    obtain ⟨a0, a1, a2, a3, a4⟩ := this l ((symB_iff l).1 hs)
    cases l with
    | nil => exact absurd rfl a0
    | cons c r => exact ⟨c, r, rfl, a1, a2, a3, a4⟩
  · rcases good_cases hg with ⟨_, e⟩ | ⟨_, c, r, e, ha⟩ | ⟨_, c, r, e, ha⟩ | ⟨_, t, e⟩ | ⟨_, c, r, e, ha⟩
    · exact ⟨_, _, e, by decide, by decide, by decide, fun x => absurd x (by decide)⟩
    · obtain ⟨a1, a2, a3, a4⟩ := hb (c := c) (by unfold isW; rw [ha c (List.mem_cons_self ..), Bool.or_true])
      exact ⟨c, r, e, a1, a2, a3, fun x => absurd x a4⟩
    · exact ⟨_, _, e, by decide, by decide, by decide, fun x => absurd x (by decide)⟩
    · exact ⟨34, _, e, by decide, by decide, by decide, fun x => absurd x (by decide)⟩
    · exact ⟨_, _, e, by decide, by decide, by decide, fun x => absurd x (by decide)⟩

/-- A word, a number. -/
def wordS (k : Int) (l : List UInt8) : Bool := decide (k = 1) || decide (l = nullL)
def numS (k : Int) (l : List UInt8) : Bool := decide (k = 2) && isD (l.getD 0 0)
/-- Would two tokens be read as others without a space between them? (vk: the first one's value's kind) -/
def glueS (ka vk : Int) (la : List UInt8) (kb : Int) (lb : List UInt8) : Bool := if wordS ka la = true then wordS kb lb || numS kb lb
  else if ka = 2 ∧ vk ≠ 2 then numS kb lb else decide (la = [60]) && decide (lb = [61])
/-- A token's first byte. -/
theorem head_word {l : List UInt8} {k : Int} {v : Int × Int × ByteArray} (h : tokenS l = some (k, v)) : isW (l.getD 0 0) = (wordS k l || numS k l) ∧ isD (l.getD 0 0) = numS k l := by
  unfold wordS numS
  rcases token_kind h with ⟨rfl, hn, _⟩ | ⟨rfl, hs, _⟩ | ⟨rfl, hg⟩
  · obtain ⟨c, r, e, hc, ha, _⟩ := name_cases hn
    rw [e, List.getD_cons_zero, ha c (List.mem_cons_self ..), isD_isL hc]
    exact ⟨rfl, rfl⟩
  · have : ∀ l ∈ syms, isW (l.getD 0 0) = false ∧ isD (l.getD 0 0) = false ∧ l ≠ nullL := by decide +kernel
    obtain ⟨a, b, c⟩ := this l ((symB_iff l).1 hs)
    rw [a, b, decide_eq_false c]
    exact ⟨rfl, rfl⟩
  · have z : decide ((2 : Int) = 1) = false := rfl
    have z2 : decide ((2 : Int) = 2) = true := rfl
    rw [z, z2, Bool.false_or, Bool.true_and]
    refine ⟨?_, rfl⟩
    rcases good_cases hg with ⟨_, e⟩ | ⟨_, c, r, e, ha⟩ | ⟨_, c, r, e, ha⟩ | ⟨_, t, e⟩ | ⟨_, c, r, e, ha⟩
    · rw [e]; decide
    · have hc := ha c (List.mem_cons_self ..)
      rw [e, List.getD_cons_zero, hc, Bool.or_true]
      unfold isW
      rw [hc, Bool.or_true]
    · rw [decide_eq_false (by rw [e]; intro x; injection x with x _; revert x; decide), e]; rfl
    · have e0 : l.getD 0 0 = 34 := by rw [e]; rfl
      rw [decide_eq_false (by rw [e]; intro x; injection x with x _; revert x; decide), e0]; decide
    · rw [decide_eq_false (by rw [e]; intro x; injection x with x _; revert x; decide), e]; rfl
theorem glue_next {la lb : List UInt8} {ka kb : Int} {va vb : Int × Int × ByteArray} (ha : tokenS la = some (ka, va)) (hb : tokenS lb = some (kb, vb)) : nextB la (lb.getD 0 0) = glueS ka va.1 la kb lb := by
  obtain ⟨w1, w2⟩ := head_word hb
  obtain ⟨c, r, eb, _, _, n62, n61⟩ := token_head hb
  have e0 : lb.getD 0 0 = c := by rw [eb]; rfl
  have s61 : decide (c = 61) = decide (lb = [61]) := by
    rw [Bool.eq_iff_iff, decide_eq_true_eq, decide_eq_true_eq]
    exact ⟨n61, fun x => by rw [x] at eb; injection eb with eb _; exact eb.symm⟩
  have s62 : decide (c = 62) = false := decide_eq_false n62
  unfold nextB glueS
  rcases token_kind ha with ⟨rfl, hn, _⟩ | ⟨rfl, hs, _⟩ | ⟨rfl, hg⟩
  · rw [if_pos (.inl hn), if_pos (by unfold wordS; rfl), w1]
  · have : ∀ l ∈ syms, nameB l = false ∧ l ≠ nullL := by decide +kernel
    obtain ⟨a, b⟩ := this la ((symB_iff la).1 hs)
    rw [if_neg (by rintro (x | x); (· rw [a] at x; cases x); exact b x), if_pos hs, if_neg (by unfold wordS; rw [decide_eq_false b]; decide), if_neg (by intro x; exact absurd x.1 (by decide)), e0, s62, s61, Bool.and_false, Bool.or_false]
  · have hf := fmt_tok hg.1
    rw [hg.2.2, mkB_L] at hf
    by_cases h0 : la = nullL
    · rw [if_pos (.inr h0), if_pos (by unfold wordS; rw [decide_eq_true h0]; rfl), w1]
    · have hw : ¬ wordS 2 la = true := by unfold wordS; rw [decide_eq_false h0]; decide
      rw [if_neg (by rintro (x | x); (· rw [hf.1] at x; cases x); exact h0 x), if_neg (by rw [hf.2]; simp)]
      rcases good_cases hg with ⟨_, e⟩ | ⟨k1, d, r, e, hh⟩ | ⟨k1, d, r, e, hh⟩ | ⟨k1, t, e⟩ | ⟨k1, d, r, e, hh⟩
      · exact absurd e h0
      · have hc := hh d (List.mem_cons_self ..)
        rw [if_neg (show ¬ la.getD 0 0 = 34 by
          rw [e, List.getD_cons_zero]
          rintro rfl
          revert hc; decide), if_neg hw, if_pos ⟨rfl, by rw [k1]; decide⟩, w2]
      · rw [if_neg (show ¬ la.getD 0 0 = 34 by rw [e, List.getD_cons_zero]; decide), if_neg hw, if_pos ⟨rfl, by rw [k1]; decide⟩, w2]
      · rw [if_pos (show la.getD 0 0 = 34 by rw [e]; rfl), if_neg hw, if_neg (fun x => x.2 k1), decide_eq_false (show ¬ la = [60] by rw [e]; intro x; injection x with x _; revert x; decide), Bool.false_and]
      · rw [if_neg (show ¬ la.getD 0 0 = 34 by rw [e, List.getD_cons_zero]; decide), if_neg hw, if_pos ⟨rfl, by rw [k1]; decide⟩, w2]
end Go.Ab.A05
/- Plain law of tokens: a text of tokens, white space and comments gives the tokens back. -/
set_option linter.unusedSimpArgs false
set_option linter.unusedVariables false
set_option linter.unusedSectionVars false
namespace Go.Ab.A05
open Go Go.Ab Go.Ab.A01 Go.Proofs.YtajbifibhgppfaaGreatDoor

/-- White space and comments that are passed over. -/
def Skip (z : List UInt8) : Prop := ∀ (g : Nat) (s : List UInt8) (i : Nat) (acc : List Tok) (y : List UInt8), s.drop i = z ++ y → s.length ≤ i + g → lexF g s i acc = lexF g s (i + z.length) acc
theorem skip_nil : Skip [] := fun _ _ _ _ _ _ _ => rfl
theorem drop_lt {s : List UInt8} {i : Nat} {c : UInt8} {w : List UInt8} (h : s.drop i = c :: w) : i < s.length ∧ s.getD i 0 = c ∧ s.drop (i + 1) = w := by
  have hi : i < s.length := by
    have := congrArg List.length h
    rw [List.length_drop, List.length_cons] at this
    omega
  rw [drop_cons hi] at h
  injection h with h0 h1
  exact ⟨hi, h0, h1⟩
theorem skip_white {c : UInt8} {z : List UInt8} (hc : white c = true) (hz : Skip z) : Skip (c :: z) := by
  intro g s i acc y h hg
  obtain ⟨hi, h0, h1⟩ := drop_lt h
  cases g with
  | zero => omega
  | succ g =>
    have e1 : lexF (g + 1) s i acc = lexF g s (i + 1) acc := by rw [lexF, if_neg (by omega), if_pos (by rw [h0]; exact hc)]
    rw [e1, lexF_fuel g s (i + 1) acc (g + 1) (by omega) (by omega), hz (g + 1) s (i + 1) acc y h1 (by omega), List.length_cons, show i + (z.length + 1) = i + 1 + z.length by omega]
theorem skip_hash {z' z : List UInt8} (hz' : (10 : UInt8) ∉ z') (hz : Skip (10 :: z)) : Skip (35 :: z' ++ 10 :: z) := by
  intro g s i acc y h hg
  obtain ⟨hi, h0, h1⟩ := drop_lt h
  have hl : lineN (s.drop i) = z'.length + 1 := by
    rw [h, List.append_assoc]
    unfold lineN
    rw [runN_app _ _ (35 :: z'), List.cons_append, runN_cons, if_neg (by decide), List.length_cons]
    · intro c hc
      rw [decide_eq_true_eq]
      rintro rfl
      rcases List.mem_cons.1 hc with hc | hc
      · revert hc; decide
      · exact hz' hc
  cases g with
  | zero => omega
  | succ g =>
    have e1 : lexF (g + 1) s i acc = lexF g s (i + lineN (s.drop i)) acc := by rw [lexF, if_neg (by omega), if_neg (by rw [h0]; decide), if_pos h0]
    have e2 : s.drop (i + (z'.length + 1)) = (10 :: z) ++ y := by
      rw [← List.drop_drop, h, List.append_assoc]
      exact List.drop_left (l₁ := 35 :: z')
    rw [e1, hl, lexF_fuel g s (i + (z'.length + 1)) acc (g + 1) (by omega) (by omega), hz (g + 1) s (i + (z'.length + 1)) acc y e2 (by omega)]
    congr 1
    simp only [List.length_cons, List.length_append]
    omega
/-- A token is read. -/
theorem lex_token {g : Nat} {s : List UInt8} {i : Nat} {acc : List Tok} {l x : List UInt8} {k : Int} {v : Int × Int × ByteArray} (h : s.drop i = l ++ x) (hg : s.length ≤ i + g)
    (ht : tokenS l = some (k, v)) (hx : ∀ c w, x = c :: w → nextB l c = false) :
    lexF g s i acc = lexF g s (i + l.length) (acc ++ [⟨k, mkB l, v, lineS (s.take i), ((1 + tailS (s.take i) : Nat) : Int)⟩]) := by
  obtain ⟨f0, f1, _⟩ := firstN_app ht
  have hf : firstN (s.drop i) = l.length := by
    rw [h]
    cases x with
    | nil => rw [List.append_nil]; exact f0
    | cons c w => exact f1 c w (hx c w rfl)
  have htk : (s.drop i).take l.length = l := by rw [h, List.take_left]
  obtain ⟨c, r, e, n1, n2, _⟩ := token_head ht
  obtain ⟨hi, h0, _⟩ := drop_lt (by rw [h, e]; rfl : s.drop i = c :: (r ++ x))
  cases g with
  | zero => omega
  | succ g =>
    have e1 : lexF (g + 1) s i acc = lexF g s (i + l.length) (acc ++ [⟨k, mkB l, v, lineS (s.take i), ((1 + tailS (s.take i) : Nat) : Int)⟩]) := by
      rw [lexF, if_neg (by omega), if_neg (by rw [h0, n1]; simp), if_neg (by rw [h0]; exact n2), hf, htk, ht]
    rw [e1]
    refine lexF_fuel g s _ _ (g + 1) ?_ ?_ <;> (rw [e, List.length_cons]; omega)
theorem lexF_end {g : Nat} {s : List UInt8} {i : Nat} {acc : List Tok} (h : s.length ≤ i) : lexF g s i acc = (acc, 0, 0, 0) := by
  cases g with
  | zero => rfl
  | succ g => rw [lexF, if_pos h]

structure It where
  text : List UInt8
  sep : List UInt8
  kind : Int
  val : Int × Int × ByteArray
def itL : List It → List UInt8
  | [] => []
  | a :: r => a.text ++ (a.sep ++ itL r)
def ItOk : List It → Prop
  | [] => True
  | a :: r => tokenS a.text = some (a.kind, a.val) ∧ Skip a.sep ∧ (∀ c w, a.sep ++ itL r = c :: w → nextB a.text c = false) ∧ ItOk r
def core (t : Tok) : Int × ByteArray × (Int × Int × ByteArray) := (t.kind, t.text, t.val)
/-- **A text of tokens gives the tokens back.** -/
theorem lex_items (g : Nat) (s : List UInt8) : ∀ (l : List It) (i : Nat) (acc : List Tok), s.drop i = itL l → s.length ≤ i + g → ItOk l →
    ∃ T, lexF g s i acc = (acc ++ T, 0, 0, 0) ∧ T.map core = l.map fun a => (a.kind, mkB a.text, a.val)
  | [], i, acc, h, hg, _ => by
    refine ⟨[], ?_, rfl⟩
    rw [List.append_nil, lexF_end]
    have := congrArg List.length h
    rw [List.length_drop] at this
    exact Nat.le_of_sub_eq_zero this
  | a :: r, i, acc, h, hg, ⟨h1, h2, h3, h4⟩ => by
    have e1 : s.drop (i + a.text.length) = a.sep ++ itL r := by
      rw [← List.drop_drop, h]
      exact List.drop_left
    have e2 : s.drop (i + a.text.length + a.sep.length) = itL r := by
      rw [← List.drop_drop, e1]
      exact List.drop_left
    rw [lex_token h hg h1 h3, h2 g s _ _ (itL r) e1 (by omega)]
    obtain ⟨T, hT, hm⟩ := lex_items g s r (i + a.text.length + a.sep.length) (acc ++ [⟨a.kind, mkB a.text, a.val, lineS (s.take i), ((1 + tailS (s.take i) : Nat) : Int)⟩]) e2 (by omega) h4
    refine ⟨⟨a.kind, mkB a.text, a.val, lineS (s.take i), ((1 + tailS (s.take i) : Nat) : Int)⟩ :: T, ?_, ?_⟩
    · rw [hT, List.append_assoc]
      rfl
    · rw [List.map_cons, List.map_cons, hm]
      rfl
/-- What was read stays. -/
theorem lexF_acc : ∀ (g : Nat) (s : List UInt8) (i : Nat) (acc : List Tok), (∃ T, lexF g s i acc = (acc ++ T, 0, 0, 0)) ∨ (∃ a b, lexF g s i acc = ([], a, b, 2))
  | 0, s, i, acc => .inl ⟨[], by rw [List.append_nil]; rfl⟩
  | g + 1, s, i, acc => by
    rw [lexF]
    split
    · exact .inl ⟨[], by rw [List.append_nil]⟩
    · split
      · exact lexF_acc g s _ acc
      · split
        · exact lexF_acc g s _ acc
        · split
          · exact .inr ⟨_, _, rfl⟩
          · rcases lexF_acc g s (i + firstN (s.drop i)) (acc ++ [_]) with ⟨T, h⟩ | ⟨a, b, h⟩
            · exact .inl ⟨_ :: T, by rw [h, List.append_assoc]; rfl⟩
            · exact .inr ⟨a, b, h⟩
/-- Does the reference put a space between two texts? -/
def spaceS (la lb : List UInt8) : Bool := decide ((tokensS (mkB (la ++ lb))).2.2.2 ≠ 0 ∨ (tokensS (mkB (la ++ lb))).1.length ≠ 2 ∨ ((tokensS (mkB (la ++ lb))).1.getD 0 ⟨0, ⟨#[]⟩, (0, 0, ⟨#[]⟩), 0, 0⟩).text ≠ mkB la)
theorem space_glue {la lb : List UInt8} {ka kb : Int} {va vb : Int × Int × ByteArray} (ha : tokenS la = some (ka, va)) (hb : tokenS lb = some (kb, vb)) (hs : la.length + lb.length ≤ 65536) : spaceS la lb = glueS ka va.1 la kb lb := by
  obtain ⟨c, r, eb, _⟩ := token_head hb
  obtain ⟨c2, r2, ea, n1, n2, _⟩ := token_head ha
  obtain ⟨f0, f1, f2⟩ := firstN_app ha
  have e0 : lb.getD 0 0 = c := by rw [eb]; rfl
  have hsz : (mkB (la ++ lb)).size = la.length + lb.length := by rw [mkB_size, List.length_append]
  have hT : tokensS (mkB (la ++ lb)) = lexF (la.length + lb.length) (la ++ lb) 0 [] := by
    unfold tokensS
    rw [hsz, if_neg (by omega), mkB_L]
  rw [← glue_next ha hb, e0]
  cases q : nextB la c with
  | false =>
    obtain ⟨T, h1, h2⟩ := lex_items (la.length + lb.length) (la ++ lb) [⟨la, [], ka, va⟩, ⟨lb, [], kb, vb⟩] 0 [] (by
      simp only [itL, List.nil_append, List.append_nil, List.drop_zero]) (by rw [List.length_append]; omega)
      ⟨ha, skip_nil, by
        intro d w h
        simp only [itL, List.nil_append, List.append_nil] at h
        rw [eb] at h
        injection h with h _
        rw [← h]; exact q, hb, skip_nil, (by
        intro d w h
        cases h), True.intro⟩
    unfold spaceS
    rw [hT, h1]
    have h3 := congrArg List.length h2
    simp only [List.length_map, List.length_cons, List.length_nil] at h3
    cases T with
    | nil => cases h3
    | cons t1 T =>
      rw [List.map_cons, List.map_cons] at h2
      injection h2 with h2 _
      have ht : t1.text = mkB la := congrArg (fun x => x.2.1) h2
      rw [List.length_cons] at h3
      rw [decide_eq_false]
      simp only [List.nil_append, List.length_cons, List.getD_cons_zero, ht, ne_eq, not_true_eq_false, false_or, or_false]
      omega
  | true =>
    have hf := f2 c r q
    rw [← eb] at hf
    unfold spaceS
    rw [hT, decide_eq_true]
    rw [ea] at hf ⊢
    have n1' : ¬ white c2 = true := by rw [n1]; simp
    have e1 : lexF ((c2 :: r2).length + lb.length) (c2 :: r2 ++ lb) 0 [] = match tokenS ((c2 :: r2 ++ lb).take (firstN (c2 :: r2 ++ lb))) with
      | .none => ([], lineS [], 1 + tailS [], 2)
      | some (k, v) => lexF (r2.length + lb.length) (c2 :: r2 ++ lb) (0 + firstN (c2 :: r2 ++ lb)) ([] ++ [⟨k, mkB ((c2 :: r2 ++ lb).take (firstN (c2 :: r2 ++ lb))), v, lineS [], ((1 + tailS [] : Nat) : Int)⟩]) := by
      rw [List.length_cons, show r2.length + 1 + lb.length = (r2.length + lb.length) + 1 by omega]
      rw [lexF, if_neg (by simp only [List.cons_append, List.length_cons]; omega), if_neg (by exact n1'), if_neg (by exact n2)]
      rfl
    rw [e1]
    cases ht : tokenS ((c2 :: r2 ++ lb).take (firstN (c2 :: r2 ++ lb))) with
    | none => exact .inl (by show ¬ (2 : Int) = 0; decide)
    | some kv =>
      obtain ⟨k, v⟩ := kv
      simp only
      rcases lexF_acc (r2.length + lb.length) (c2 :: r2 ++ lb) (0 + firstN (c2 :: r2 ++ lb)) ([] ++ [⟨k, mkB ((c2 :: r2 ++ lb).take (firstN (c2 :: r2 ++ lb))), v, lineS [], ((1 + tailS [] : Nat) : Int)⟩]) with ⟨T, h⟩ | ⟨a, b, h⟩
      · rw [h]
        refine .inr (.inr ?_)
        intro x
        have := congrArg ByteArray.size (show mkB ((c2 :: r2 ++ lb).take (firstN (c2 :: r2 ++ lb))) = mkB (c2 :: r2) from x)
        rw [mkB_size, mkB_size, List.length_take] at this
        have l2 := firstN_le (c2 :: r2 ++ lb)
        omega
      · rw [h]
        exact .inl (by show ¬ (2 : Int) = 0; decide)
end Go.Ab.A05
/- Contracts: Tokens. -/
set_option linter.unusedSimpArgs false
set_option linter.unusedVariables false
set_option linter.unusedSectionVars false
namespace Go.Ab.A05
open Go Go.Ab Go.Ab.A01 Go.Proofs.YtajbifibhgppfaaGreatDoor
theorem getD_drop0 (l : List UInt8) (a n : Nat) : (l.drop a).getD n 0 = l.getD (a + n) 0 := by
  rw [List.getD_eq_getElem?_getD, List.getD_eq_getElem?_getD, List.getElem?_drop]
theorem blank_stop : ∀ (f : Nat) (l : List UInt8), l.length ≤ f → blankF f l < l.length → white (l.getD (blankF f l) 0) = false ∧ l.getD (blankF f l) 0 ≠ 35
  | 0, l, h, h2 => by omega
  | f + 1, [], h, h2 => absurd h2 (by simp)
  | f + 1, c :: r, h, h2 => by
    rw [List.length_cons] at h
    rw [blankF] at h2 ⊢
    by_cases h1 : white c = true
    · rw [if_pos h1] at h2 ⊢
      rw [List.length_cons] at h2
      have e : (c :: r).getD (1 + blankF f r) 0 = r.getD (blankF f r) 0 := by rw [Nat.add_comm]; rfl
      rw [e]
      exact blank_stop f r (by omega) (by omega)
    · rw [if_neg h1] at h2 ⊢
      by_cases h35 : c = 35
      · rw [if_pos h35] at h2 ⊢
        have lp : 1 ≤ lineN (c :: r) := lineN_pos (by rw [h35]; decide)
        by_cases hall : lineN (c :: r) = (c :: r).length
        · rw [if_pos hall] at h2
          omega
        · rw [if_neg hall] at h2 ⊢
          rw [← getD_drop0]
          have hl : ((c :: r).drop (lineN (c :: r))).length = (c :: r).length - lineN (c :: r) := List.length_drop
          have e3 : (c :: r).length = r.length + 1 := List.length_cons
          exact blank_stop f _ (by omega) (by omega)
      · rw [if_neg h35]
        refine ⟨?_, h35⟩
        rw [List.getD_cons_zero]
        cases hw : white c with
        | false => rfl
        | true => exact absurd hw h1
theorem lexF_at {g : Nat} {s : List UInt8} {i : Nat} {acc : List Tok} (hi : i < s.length) (hg : s.length ≤ i + g) (hw : white (s.getD i 0) = false) (h35 : s.getD i 0 ≠ 35) :
    lexF g s i acc = match tokenS ((s.drop i).take (firstN (s.drop i))) with
      | .none => ([], lineS (s.take i), 1 + tailS (s.take i), 2)
      | some (k, v) => lexF g s (i + firstN (s.drop i)) (acc ++ [⟨k, mkB ((s.drop i).take (firstN (s.drop i))), v, lineS (s.take i), ((1 + tailS (s.take i) : Nat) : Int)⟩]) := by
  cases g with
  | zero => omega
  | succ g =>
    rw [lexF, if_neg (by omega), if_neg (by rw [hw]; simp), if_neg h35]
    cases ht : tokenS ((s.drop i).take (firstN (s.drop i))) with
    | none => rfl
    | some kv =>
      obtain ⟨k, v⟩ := kv
      simp only
      have hp : 1 ≤ firstN (s.drop i) := by
        rcases Nat.eq_zero_or_pos (firstN (s.drop i)) with h0 | h0
        · rw [h0, List.take_zero, tokenS_nil] at ht
          cases ht
        · exact h0
      exact lexF_fuel g s _ _ (g + 1) (by omega) (by omega)
theorem tail_le (l : List UInt8) : tailS l ≤ l.length := by
  unfold tailS
  have := runN_le (fun c => decide (c ≠ 10)) l.reverse
  rw [List.length_reverse] at this
  exact this
theorem tail_cnt (l : List UInt8) : tailS l < l.length ↔ l.count 10 ≠ 0 := by
  have h := tail_app l []
  have h0 : tailS [] = 0 := rfl
  rw [List.nil_append] at h
  constructor
  · intro hl hc
    rw [if_pos hc, h0] at h
    omega
  · intro hc
    rcases Nat.lt_or_ge (tailS l) l.length with h1 | h1
    · exact h1
    · exfalso
      have h2 := tail_le l
      have h3 : l.reverse.takeWhile (fun c => decide (c ≠ 10)) = l.reverse := by
        have e := runN_take (fun c => decide (c ≠ 10)) l.reverse
        have e2 : runN (fun c => decide (c ≠ 10)) l.reverse = l.reverse.length := by rw [List.length_reverse]; exact Nat.le_antisymm h2 h1
        rw [e2, List.take_length] at e
        exact e.symm
      have h4 : ∀ c ∈ l.reverse, decide (c ≠ 10) = true := by
        rw [← h3]
        intro c hm
        exact List.all_eq_true.1 List.all_takeWhile c hm
      have h5 := List.one_le_count_iff.1 (by omega : 1 ≤ l.count 10)
      have := h4 10 (List.mem_reverse.2 h5)
      revert this; decide
/-- A token's cells. -/
def tokC (t : Tok) : List SV := [I64 t.kind, Str t.text, I64 t.val.1, I64 t.val.2.1, Str t.val.2.2, I64 t.line, I64 t.col]
def cellsT (l : List Tok) : List SV := l.flatMap tokC
def tok0 : Tok := ⟨0, ⟨#[]⟩, (0, 0, ⟨#[]⟩), 0, 0⟩
def tokF (l : List Tok) (i : Nat) : List SV := tokC (l.getD i tok0)
theorem cells_len (l : List Tok) : l.length * 7 = (cellsT l).length := by
  induction l with
  | nil => rfl
  | cons a l ih =>
    unfold cellsT at ih ⊢
    rw [List.flatMap_cons, List.length_append, List.length_cons, ← ih]
    show _ = 7 + _
    omega
theorem cells_at : ∀ (l : List Tok) (j : Nat), j < l.length → tokF l j = ((cellsT l).drop (j * 7)).take 7
  | [], j, h => absurd h (by simp)
  | a :: l, 0, _ => rfl
  | a :: l, j + 1, h => by
    have := cells_at l j (by rw [List.length_cons] at h; omega)
    have e : (cellsT (a :: l)).drop ((j + 1) * 7) = (cellsT l).drop (j * 7) := by
      rw [show (j + 1) * 7 = j * 7 + 7 by omega, Nat.add_comm (j * 7) 7, ← List.drop_drop]
      rfl
    rw [e, ← this]
    rfl
theorem cells_snoc (l : List Tok) (t : Tok) : cellsT (l ++ [t]) = cellsT l ++ tokC t := by
  unfold cellsT
  rw [List.flatMap_append]
  simp
abbrev TS (l : List Tok) : SV := .fl l.length 7 (tokF l)
/-- What Tokens hands back. -/
def tokR (R : List Tok × Nat × Nat × Int) : SV := .tup [TS R.1, I64 (R.2.1 : Nat), I64 (R.2.2.1 : Nat), I64 R.2.2.2]
end Go.Ab.A05
namespace Go.Proofs.YtajbifibhgppfaaGreatDoor
open Go Go.Ab Go.Ab.A01 Go.Ab.A05
variable [Gl] [Tabs] [Syms]

set_option maxHeartbeats 4000000 in
set_option maxRecDepth 20000 in
theorem tokens_p (s : ByteArray) (hs : s.size ≤ 1000000) : PCall Tryz.prog 7 [Str s] (tokR (tokensS s)) := by
  have ls : s.data.toList.length = s.size := Array.length_toList
  by_cases hbig : 65536 < s.size
  · have hbi : (65536 : Int) < ((s.size : Nat) : Int) := by omega
    have e : tokensS s = ([], 0, 0, 3) := by unfold tokensS; rw [if_pos hbig]
    rw [e]
    refine Call.enter' (N := 78) (rs := [.tmp 2, .tmp 3, .tmp 4, .tmp 5]) Tryz.func7 rfl rfl rfl (by decide) rfl ?_; simp only [argT]; have hD : (0 : Nat) = 0 := rfl
    repeat' first | (with_reducible refine And.intro (by omega) ?_) | (refine SW.seq_k fun K hK => ?_) | (refine SW.block ?_) | ((first | refine SW.region ?_ | refine SW.regionD (Checked.mixed Tryz.checked) (by kernel_rfl) ?_ | refine SW.cond ?_ | refine SW.skip ?_ | refine SW.exit ?_ | refine SW.ret ?_ | (refine allF_i fun b hb => ?_; replace hD := And.intro hb hD; clear hb; try simp only [fresh_cons, fresh_nil, and_true, ne_eq, neF] at hD) | simp only [appK, appOsK]); try simp only [go_sem, ↓reduceIte, reduceCtorEq, Nat.reduceAdd, Nat.reduceMul, Nat.reduceSub, Nat.reduceLT, Nat.reduceLeDiff, Nat.reduceEqDiff, Nat.reduceBEq, Nat.reduceBneDiff, Int.reduceToNat, Int.reduceEq, hD, hbi]) | (refine And.intro (by omega) ?_) | (refine ifI (fun hc => ?_) (fun hc => ?_) <;> first | (exfalso; omega) | skip) | (first | (apply hK; clear hK K) | ((iterate 1 (clear hK K)); apply hK; clear hK K) | ((iterate 2 (clear hK K)); apply hK; clear hK K) | ((iterate 3 (clear hK K)); apply hK; clear hK K) | ((iterate 4 (clear hK K)); apply hK; clear hK K) | ((iterate 5 (clear hK K)); apply hK; clear hK K))
    refine retQ_le (St.le_say (i := 2) (v := TS []) fun E u hr => Rep.fl_nil hr) ?_
    simp only [resL_tmp, resL_nil, tupOf, go_sem, ↓reduceIte, reduceCtorEq, Nat.reduceAdd, Nat.reduceMul, Nat.reduceSub, Nat.reduceLT, Nat.reduceLeDiff, Nat.reduceEqDiff, Nat.reduceBEq, Nat.reduceBneDiff, Int.reduceToNat, Int.reduceEq, hD]
    rfl
  · have hbi : ¬ (65536 : Int) < ((s.size : Nat) : Int) := by omega
    obtain ⟨R, hR⟩ : ∃ R, R = tokensS s := ⟨_, rfl⟩
    rw [← hR]
    have hR0 : R = lexF s.size s.data.toList 0 [] := by rw [hR]; unfold tokensS; rw [if_neg hbig]
    clear hR
    refine Call.enter' (N := 78) (rs := [.tmp 2, .tmp 3, .tmp 4, .tmp 5]) Tryz.func7 rfl rfl rfl (by decide) rfl ?_; simp only [argT]; have hD : (0 : Nat) = 0 := rfl
    repeat' first | (with_reducible refine And.intro (by omega) ?_) | (refine SW.seq_k fun K hK => ?_) | (refine SW.block ?_) | ((first | refine SW.region ?_ | refine SW.regionD (Checked.mixed Tryz.checked) (by kernel_rfl) ?_ | refine SW.cond ?_ | refine SW.skip ?_ | refine SW.exit ?_ | refine SW.ret ?_ | (refine allF_i fun b hb => ?_; replace hD := And.intro hb hD; clear hb; try simp only [fresh_cons, fresh_nil, and_true, ne_eq, neF] at hD) | simp only [appK, appOsK]); try simp only [go_sem, ↓reduceIte, reduceCtorEq, Nat.reduceAdd, Nat.reduceMul, Nat.reduceSub, Nat.reduceLT, Nat.reduceLeDiff, Nat.reduceEqDiff, Nat.reduceBEq, Nat.reduceBneDiff, Int.reduceToNat, Int.reduceEq, hD, hbi]) | (refine And.intro (by omega) ?_) | (refine ifI (fun hc => ?_) (fun hc => ?_) <;> first | (exfalso; omega) | skip) | (first | (apply hK; clear hK K) | ((iterate 1 (clear hK K)); apply hK; clear hK K) | ((iterate 2 (clear hK K)); apply hK; clear hK K) | ((iterate 3 (clear hK K)); apply hK; clear hK K) | ((iterate 4 (clear hK K)); apply hK; clear hK K) | ((iterate 5 (clear hK K)); apply hK; clear hK K))
    obtain ⟨I, hI⟩ : ∃ I : Nat → St → Prop, ∀ k S, I k S ↔ (∃ (i : Nat) (acc : List Tok) (x : SV) (h : Heap), k = s.size + 1 - i ∧ i ≤ s.size ∧ acc.length ≤ i ∧ R = lexF s.size s.data.toList i acc ∧ Acc 7 x h [] acc.length (cellsT acc) ∧ S = ⟨[(0, Str s), (6, x), (7, I64 (lineS (s.data.toList.take i) : Nat)), (8, I64 ((i : Int) - (tailS (s.data.toList.take i) : Nat))), (9, I64 i)], h⟩) := ⟨fun k S => _, fun _ _ => Iff.rfl⟩
    refine SW.loop' I (s.size + 1) ((hI _ _).2 ⟨0, [], _, _, rfl, Nat.zero_le _, Nat.le_refl _, hR0, .nil _ _, rfl⟩) (by repeat' (first | exact rfl | exact trivial | exact int_eq (by omega) | exact int_eq (by (rw [i64_wrap] <;> omega)) | constructor)) ?_
    clear hR0
    intro k S hIn
    obtain ⟨i, acc, x, h, rfl, hi, hacc, hC, hB, rfl⟩ := (hI _ _).1 hIn
    clear hIn
    have ie : ((i : Nat) : Int).toNat = i := Int.toNat_natCast _
    have i0 : (0 : Int) ≤ ((i : Nat) : Int) := by omega
    have il : ((i : Nat) : Int) ≤ ((s.size : Nat) : Int) := by omega
    have ed : (s.extract i s.size).data.toList = s.data.toList.drop i := ext_tail _ _
    have es : (s.extract i s.size).size = s.size - i := by rw [← len_list, ed, List.length_drop, ls]
    have bl := blank_p (s.extract i s.size) (by omega)
    rw [ed] at bl
    have hb := blankF_le (s.data.toList.drop i).length (s.data.toList.drop i)
    have hst := blank_stop (s.data.toList.drop i).length (s.data.toList.drop i) (Nat.le_refl _)
    have hld : (s.data.toList.drop i).length = s.size - i := by rw [List.length_drop, ls]
    rw [lexF_blank (s.data.toList.drop i).length s.data.toList i acc s.size (by omega) (by omega)] at hC
    change PCall Tryz.prog 17 _ (I64 ((blankF (s.data.toList.drop i).length (s.data.toList.drop i) : Nat) : Int)) at bl
    generalize blankF (s.data.toList.drop i).length (s.data.toList.drop i) = n at *
    rw [hld] at hb hst
    rw [getD_drop0] at hst
    have esk : (s.extract i (i + n)).data.toList = (s.data.toList.drop i).take n := by rw [extr_list, Nat.add_sub_cancel_left]
    have ssk : (s.extract i (i + n)).size = n := by rw [← len_list, esk, List.length_take, hld]; omega
    have cn := cnt_c (s.extract i (i + n))
    have la := last_c (s.extract i (i + n)) (by omega)
    rw [esk] at cn la
    rw [ssk] at la
    have etk : s.data.toList.take (i + n) = s.data.toList.take i ++ (s.data.toList.drop i).take n := List.take_add
    have eln := line_app (s.data.toList.take i) ((s.data.toList.drop i).take n)
    have etl := tail_app ((s.data.toList.drop i).take n) (s.data.toList.take i)
    rw [← etk] at eln etl
    have klen : ((s.data.toList.drop i).take n).length = n := by rw [List.length_take, hld]; omega
    have kc : ((s.data.toList.drop i).take n).count 10 ≤ n := by
      have := List.count_le_length (a := (10 : UInt8)) (l := (s.data.toList.drop i).take n)
      omega
    have lc : lineS (s.data.toList.take i) ≤ 1 + i := by
      unfold lineS
      have := List.count_le_length (a := (10 : UInt8)) (l := s.data.toList.take i)
      rw [List.length_take] at this
      omega
    have tcl := tail_le (s.data.toList.take i)
    rw [List.length_take] at tcl
    have tkl := tail_le ((s.data.toList.drop i).take n)
    rw [klen] at tkl
    have tcnt := tail_cnt ((s.data.toList.drop i).take n)
    rw [klen] at etl tcnt
    generalize hgt : tailS ((s.data.toList.drop i).take n) = tk at *
    generalize hgc : ((s.data.toList.drop i).take n).count 10 = ck at *
    generalize hg1 : lineS (s.data.toList.take i) = L at *
    generalize hg2 : tailS (s.data.toList.take i) = T at *
    have a1 : IntKind.i64.wrap ((i : Int) + (n : Int)) = ((i + n : Nat) : Int) := by rw [i64_wrap (by omega) (by omega)]; omega
    have a2 : (i : Int) ≤ ((i + n : Nat) : Int) := by omega
    have a3 : ((i + n : Nat) : Int) ≤ ((s.size : Nat) : Int) := by omega
    have a4 : ((i + n : Nat) : Int).toNat = i + n := Int.toNat_natCast _
    have a5 : IntKind.i64.wrap ((L : Int) + (ck : Int)) = ((L + ck : Nat) : Int) := by rw [i64_wrap (by omega) (by omega)]; omega
    have a6 : (0 : Int) ≤ ((i + n : Nat) : Int) := by omega
    have sz := ssk
    by_cases hnl : tk < n
    · have c1 : (0 : Int) ≤ (n : Int) - 1 - (tk : Int) := by omega
      obtain ⟨B, hBe⟩ : ∃ B : Int, B = ((i + n : Nat) : Int) - (tk : Int) := ⟨_, rfl⟩
      obtain ⟨T', hT'⟩ : ∃ T', T' = tk := ⟨_, rfl⟩
      have c2 : IntKind.i64.wrap ((i : Int) + ((n : Int) - 1 - (tk : Int))) = B - 1 := by rw [i64_wrap (by omega) (by omega)]; omega
      have c3 : IntKind.i64.wrap (B - 1 + 1) = B := by rw [i64_wrap (by omega) (by omega)]; omega
      have eT : tailS (s.data.toList.take (i + n)) = T' := by rw [etl, if_neg (by omega), hT']
      by_cases hend : i + n = s.size
      · have b1 : ((i + n : Nat) : Int) = ((s.size : Nat) : Int) := by omega
        rw [lexF_end (by omega)] at hC
        rw [hend] at cn la sz
        subst hC
        refine SW.le (St.le_acc_fl (i := 6) rfl hB (tokF acc) (cells_at acc)) ?_
        repeat' first | (with_reducible refine And.intro (by omega) ?_) | (refine SW.seq_k fun K hK => ?_) | (refine SW.block ?_) | ((first | refine SW.region ?_ | refine SW.regionD (Checked.mixed Tryz.checked) (by kernel_rfl) ?_ | refine SW.cond ?_ | refine SW.skip ?_ | refine SW.exit ?_ | refine SW.ret ?_ | refine Call.of_pure (bl) ?_ | refine ⟨_, bl, ?_⟩ | refine Call.of_pure (cn) ?_ | refine ⟨_, cn, ?_⟩ | refine Call.of_pure (la) ?_ | refine ⟨_, la, ?_⟩ | (refine allF_i fun b hb => ?_; replace hD := And.intro hb hD; clear hb; try simp only [fresh_cons, fresh_nil, and_true, ne_eq, neF] at hD) | simp only [appK, appOsK]); try simp only [go_sem, ↓reduceIte, reduceCtorEq, Nat.reduceAdd, Nat.reduceMul, Nat.reduceSub, Nat.reduceLT, Nat.reduceLeDiff, Nat.reduceEqDiff, Nat.reduceBEq, Nat.reduceBneDiff, Int.reduceToNat, Int.reduceEq, hD, ie, i0, il, a1, a2, a3, a4, a5, a6, sz, c1, c2, c3, b1]) | (refine And.intro (by omega) ?_) | (refine ifI (fun hc => ?_) (fun hc => ?_) <;> first | (exfalso; omega) | skip) | (first | (apply hK; clear hK K) | ((iterate 1 (clear hK K)); apply hK; clear hK K) | ((iterate 2 (clear hK K)); apply hK; clear hK K) | ((iterate 3 (clear hK K)); apply hK; clear hK K) | ((iterate 4 (clear hK K)); apply hK; clear hK K) | ((iterate 5 (clear hK K)); apply hK; clear hK K))
        refine ret_pure ?_; simp only [resL_tmp, resL_nil, tupOf, go_sem, ↓reduceIte, reduceCtorEq, Nat.reduceAdd, Nat.reduceMul, Nat.reduceSub, Nat.reduceLT, Nat.reduceLeDiff, Nat.reduceEqDiff, Nat.reduceBEq, Nat.reduceBneDiff, Int.reduceToNat, Int.reduceEq, hD]
        rfl
      · have b1 : ¬ ((i + n : Nat) : Int) = ((s.size : Nat) : Int) := by omega
        obtain ⟨hw, h35⟩ := hst (by omega)
        rw [lexF_at (by omega) (by omega) hw h35] at hC
        have ed2 : (s.extract (i + n) s.size).data.toList = s.data.toList.drop (i + n) := ext_tail _ _
        have es2 : (s.extract (i + n) s.size).size = s.size - (i + n) := by rw [← len_list, ed2, List.length_drop, ls]
        have fi := first_p (s.extract (i + n) s.size) (by omega) (by omega)
        rw [ed2] at fi
        have fl := firstN_le (s.data.toList.drop (i + n))
        rw [List.length_drop, ls] at fl
        have b2 : IntKind.i64.wrap (((i + n : Nat) : Int) - B) = ((T' : Nat) : Int) := by rw [i64_wrap (by omega) (by omega)]; omega
        have b3 : IntKind.i64.wrap (((T' : Nat) : Int) + 1) = ((1 + T' : Nat) : Int) := by rw [i64_wrap (by omega) (by omega)]; omega
        obtain ⟨k0, v0, tp⟩ := token_p (mkB ((s.data.toList.drop (i + n)).take (firstN (s.data.toList.drop (i + n))))) (by rw [mkB_size, List.length_take]; omega)
        rw [mkB_L] at tp
        have tsz : (mkB ((s.data.toList.drop (i + n)).take (firstN (s.data.toList.drop (i + n))))).size = firstN (s.data.toList.drop (i + n)) := by rw [mkB_size, List.length_take, List.length_drop]; omega
        cases ht : tokenS ((s.data.toList.drop (i + n)).take (firstN (s.data.toList.drop (i + n)))) with
        | none =>
          rw [ht] at hC tp
          simp only at hC tp
          subst hC
          repeat' first | (with_reducible refine And.intro (by omega) ?_) | (refine SW.seq_k fun K hK => ?_) | (refine SW.block ?_) | ((first | refine SW.region ?_ | refine SW.regionD (Checked.mixed Tryz.checked) (by kernel_rfl) ?_ | refine SW.cond ?_ | refine SW.skip ?_ | refine SW.exit ?_ | refine SW.ret ?_ | refine Call.of_pure (bl) ?_ | refine ⟨_, bl, ?_⟩ | refine Call.of_pure (cn) ?_ | refine ⟨_, cn, ?_⟩ | refine Call.of_pure (la) ?_ | refine ⟨_, la, ?_⟩ | refine Call.of_pure (fi) ?_ | refine ⟨_, fi, ?_⟩ | refine Call.of_pure (tp) ?_ | refine ⟨_, tp, ?_⟩ | (refine allF_i fun b hb => ?_; replace hD := And.intro hb hD; clear hb; try simp only [fresh_cons, fresh_nil, and_true, ne_eq, neF] at hD) | simp only [appK, appOsK]); try simp only [go_sem, ↓reduceIte, reduceCtorEq, Nat.reduceAdd, Nat.reduceMul, Nat.reduceSub, Nat.reduceLT, Nat.reduceLeDiff, Nat.reduceEqDiff, Nat.reduceBEq, Nat.reduceBneDiff, Int.reduceToNat, Int.reduceEq, hD, ie, i0, il, a1, a2, a3, a4, a5, a6, sz, c1, c2, c3, b1, b2, b3]) | (refine And.intro (by omega) ?_) | (refine ifI (fun hc => ?_) (fun hc => ?_) <;> first | (exfalso; omega) | skip) | (first | (apply hK; clear hK K) | ((iterate 1 (clear hK K)); apply hK; clear hK K) | ((iterate 2 (clear hK K)); apply hK; clear hK K) | ((iterate 3 (clear hK K)); apply hK; clear hK K) | ((iterate 4 (clear hK K)); apply hK; clear hK K) | ((iterate 5 (clear hK K)); apply hK; clear hK K))
          refine retQ_le (St.le_nil_fl (i := 2) (sz := 7) (f := tokF []) rfl) ?_
          simp only [resL_tmp, resL_nil, tupOf, go_sem, ↓reduceIte, reduceCtorEq, Nat.reduceAdd, Nat.reduceMul, Nat.reduceSub, Nat.reduceLT, Nat.reduceLeDiff, Nat.reduceEqDiff, Nat.reduceBEq, Nat.reduceBneDiff, Int.reduceToNat, Int.reduceEq, hD]
          rw [eln, eT]
          rfl
        | some kv =>
          obtain ⟨kk, vv⟩ := kv
          rw [ht] at hC tp
          simp only at hC tp
          have fp : 1 ≤ firstN (s.data.toList.drop (i + n)) := by
            rcases Nat.eq_zero_or_pos (firstN (s.data.toList.drop (i + n))) with h0 | h0
            · rw [h0, List.take_zero, tokenS_nil] at ht
              cases ht
            · exact h0
          have n10 := token_no10 ht
          have etk2 : s.data.toList.take (i + n + firstN (s.data.toList.drop (i + n))) = s.data.toList.take (i + n) ++ (s.data.toList.drop (i + n)).take (firstN (s.data.toList.drop (i + n))) := List.take_add
          have eln2 := line_app (s.data.toList.take (i + n)) ((s.data.toList.drop (i + n)).take (firstN (s.data.toList.drop (i + n))))
          have etl2 := tail_app ((s.data.toList.drop (i + n)).take (firstN (s.data.toList.drop (i + n)))) (s.data.toList.take (i + n))
          rw [← etk2, n10] at eln2 etl2
          rw [if_pos rfl, List.length_take, List.length_drop, ls] at etl2
          generalize hgx : (s.data.toList.drop (i + n)).take (firstN (s.data.toList.drop (i + n))) = tx at *
          generalize hgf : firstN (s.data.toList.drop (i + n)) = fn at *
          have b4 : IntKind.i64.wrap (((i + n : Nat) : Int) + (fn : Int)) = ((i + n + fn : Nat) : Int) := by rw [i64_wrap (by omega) (by omega)]; omega
          have ba : (acc.length + 1) * 104 ≤ 140737488355328 := by omega
          rcases hB.cases with ⟨e0, e1, rfl, rfl⟩ | ⟨b, e0, rfl, hle⟩
          · repeat' first | (with_reducible refine And.intro (by omega) ?_) | (refine SW.seq_k fun K hK => ?_) | (refine SW.block ?_) | ((first | refine SW.region ?_ | refine SW.regionD (Checked.mixed Tryz.checked) (by kernel_rfl) ?_ | refine SW.cond ?_ | refine SW.skip ?_ | refine SW.exit ?_ | refine SW.ret ?_ | refine Call.of_pure (bl) ?_ | refine ⟨_, bl, ?_⟩ | refine Call.of_pure (cn) ?_ | refine ⟨_, cn, ?_⟩ | refine Call.of_pure (la) ?_ | refine ⟨_, la, ?_⟩ | refine Call.of_pure (fi) ?_ | refine ⟨_, fi, ?_⟩ | refine Call.of_pure (tp) ?_ | refine ⟨_, tp, ?_⟩ | (refine allF_i fun b hb => ?_; replace hD := And.intro hb hD; clear hb; try simp only [fresh_cons, fresh_nil, and_true, ne_eq, neF] at hD) | simp only [appK, appOsK]); try simp only [go_sem, ↓reduceIte, reduceCtorEq, Nat.reduceAdd, Nat.reduceMul, Nat.reduceSub, Nat.reduceLT, Nat.reduceLeDiff, Nat.reduceEqDiff, Nat.reduceBEq, Nat.reduceBneDiff, Int.reduceToNat, Int.reduceEq, hD, ie, i0, il, a1, a2, a3, a4, a5, a6, sz, c1, c2, c3, b1, b2, b3, b4, tsz, ba, true_implies]) | (refine And.intro (by omega) ?_) | (refine ifI (fun hc => ?_) (fun hc => ?_) <;> first | (exfalso; omega) | skip) | (first | (apply hK; clear hK K) | ((iterate 1 (clear hK K)); apply hK; clear hK K) | ((iterate 2 (clear hK K)); apply hK; clear hK K) | ((iterate 3 (clear hK K)); apply hK; clear hK K) | ((iterate 4 (clear hK K)); apply hK; clear hK K) | ((iterate 5 (clear hK K)); apply hK; clear hK K))
            rw [eln, eT] at hC
            obtain rfl : acc = [] := List.eq_nil_of_length_eq_zero e0
            obtain ⟨hB2, hle2⟩ := Acc.keep (sz := 7) (n := 1) (b := b) (cs := tokC ⟨kk, mkB tx, vv, ((L + ck : Nat) : Int), ((1 + T' : Nat) : Int)⟩) (h' := _) (List.mem_cons_self ..) rfl
            refine Rnd.le (hle2 _) ?_
            refine Rnd.sub (s.size + 1 - (i + n + fn)) (by omega) ((hI _ _).2 ⟨i + n + fn, [] ++ [⟨kk, mkB tx, vv, ((L + ck : Nat) : Int), ((1 + T' : Nat) : Int)⟩], _, _, rfl, by omega, by rw [List.length_append]; simp only [List.length_cons, List.length_nil]; omega, hC, hB2, rfl⟩) (by repeat' (first | exact rfl | exact trivial | exact int_eq (by omega) | exact int_eq (by (rw [i64_wrap] <;> omega)) | constructor))
          · refine SW.le (hle _) ?_
            repeat' first | (with_reducible refine And.intro (by omega) ?_) | (refine SW.seq_k fun K hK => ?_) | (refine SW.block ?_) | ((first | refine SW.region ?_ | refine SW.regionD (Checked.mixed Tryz.checked) (by kernel_rfl) ?_ | refine SW.cond ?_ | refine SW.skip ?_ | refine SW.exit ?_ | refine SW.ret ?_ | refine Call.of_pure (bl) ?_ | refine ⟨_, bl, ?_⟩ | refine Call.of_pure (cn) ?_ | refine ⟨_, cn, ?_⟩ | refine Call.of_pure (la) ?_ | refine ⟨_, la, ?_⟩ | refine Call.of_pure (fi) ?_ | refine ⟨_, fi, ?_⟩ | refine Call.of_pure (tp) ?_ | refine ⟨_, tp, ?_⟩ | (refine allF_i fun b hb => ?_; replace hD := And.intro hb hD; clear hb; try simp only [fresh_cons, fresh_nil, and_true, ne_eq, neF] at hD) | simp only [appK, appOsK]); try simp only [go_sem, ↓reduceIte, reduceCtorEq, Nat.reduceAdd, Nat.reduceMul, Nat.reduceSub, Nat.reduceLT, Nat.reduceLeDiff, Nat.reduceEqDiff, Nat.reduceBEq, Nat.reduceBneDiff, Int.reduceToNat, Int.reduceEq, hD, ie, i0, il, a1, a2, a3, a4, a5, a6, sz, c1, c2, c3, b1, b2, b3, b4, tsz, ba, true_implies]) | (refine And.intro (by omega) ?_) | (refine ifI (fun hc => ?_) (fun hc => ?_) <;> first | (exfalso; omega) | skip) | (first | (apply hK; clear hK K) | ((iterate 1 (clear hK K)); apply hK; clear hK K) | ((iterate 2 (clear hK K)); apply hK; clear hK K) | ((iterate 3 (clear hK K)); apply hK; clear hK K) | ((iterate 4 (clear hK K)); apply hK; clear hK K) | ((iterate 5 (clear hK K)); apply hK; clear hK K))
            rw [eln, eT] at hC
            obtain ⟨hB2, hle2⟩ := Acc.keep (sz := 7) (n := acc.length + 1) (b := b) (cs := cellsT acc ++ tokC ⟨kk, mkB tx, vv, ((L + ck : Nat) : Int), ((1 + T' : Nat) : Int)⟩) (h' := _) (List.mem_cons_of_mem _ (List.mem_cons_of_mem _ (List.mem_cons_self ..))) (by rw [List.length_append, ← cells_len]; show _ = _ + 7; omega)
            refine Rnd.le (hle2 _) ?_
            refine Rnd.sub (s.size + 1 - (i + n + fn)) (by omega) ((hI _ _).2 ⟨i + n + fn, acc ++ [⟨kk, mkB tx, vv, ((L + ck : Nat) : Int), ((1 + T' : Nat) : Int)⟩], _, _, rfl, by omega, by rw [List.length_append]; simp only [List.length_cons, List.length_nil]; omega, hC, by rw [cells_snoc, List.length_append]; exact hB2, rfl⟩) (by repeat' (first | exact rfl | exact trivial | exact int_eq (by omega) | exact int_eq (by (rw [i64_wrap] <;> omega)) | constructor))
    · have c1 : ¬ (0 : Int) ≤ (n : Int) - 1 - (tk : Int) := by omega
      obtain ⟨B, hBe⟩ : ∃ B : Int, B = (i : Int) - (T : Int) := ⟨_, rfl⟩
      obtain ⟨T', hT'⟩ : ∃ T', T' = T + n := ⟨_, rfl⟩
      have eT : tailS (s.data.toList.take (i + n)) = T' := by rw [etl, if_pos (by omega), hT']
      by_cases hend : i + n = s.size
      · have b1 : ((i + n : Nat) : Int) = ((s.size : Nat) : Int) := by omega
        rw [lexF_end (by omega)] at hC
        rw [hend] at cn la sz
        subst hC
        refine SW.le (St.le_acc_fl (i := 6) rfl hB (tokF acc) (cells_at acc)) ?_
        repeat' first | (with_reducible refine And.intro (by omega) ?_) | (refine SW.seq_k fun K hK => ?_) | (refine SW.block ?_) | ((first | refine SW.region ?_ | refine SW.regionD (Checked.mixed Tryz.checked) (by kernel_rfl) ?_ | refine SW.cond ?_ | refine SW.skip ?_ | refine SW.exit ?_ | refine SW.ret ?_ | refine Call.of_pure (bl) ?_ | refine ⟨_, bl, ?_⟩ | refine Call.of_pure (cn) ?_ | refine ⟨_, cn, ?_⟩ | refine Call.of_pure (la) ?_ | refine ⟨_, la, ?_⟩ | (refine allF_i fun b hb => ?_; replace hD := And.intro hb hD; clear hb; try simp only [fresh_cons, fresh_nil, and_true, ne_eq, neF] at hD) | simp only [appK, appOsK]); try simp only [go_sem, ↓reduceIte, reduceCtorEq, Nat.reduceAdd, Nat.reduceMul, Nat.reduceSub, Nat.reduceLT, Nat.reduceLeDiff, Nat.reduceEqDiff, Nat.reduceBEq, Nat.reduceBneDiff, Int.reduceToNat, Int.reduceEq, hD, ie, i0, il, a1, a2, a3, a4, a5, a6, sz, c1, b1]) | (refine And.intro (by omega) ?_) | (refine ifI (fun hc => ?_) (fun hc => ?_) <;> first | (exfalso; omega) | skip) | (first | (apply hK; clear hK K) | ((iterate 1 (clear hK K)); apply hK; clear hK K) | ((iterate 2 (clear hK K)); apply hK; clear hK K) | ((iterate 3 (clear hK K)); apply hK; clear hK K) | ((iterate 4 (clear hK K)); apply hK; clear hK K) | ((iterate 5 (clear hK K)); apply hK; clear hK K))
        refine ret_pure ?_; simp only [resL_tmp, resL_nil, tupOf, go_sem, ↓reduceIte, reduceCtorEq, Nat.reduceAdd, Nat.reduceMul, Nat.reduceSub, Nat.reduceLT, Nat.reduceLeDiff, Nat.reduceEqDiff, Nat.reduceBEq, Nat.reduceBneDiff, Int.reduceToNat, Int.reduceEq, hD]
        rfl
      · have b1 : ¬ ((i + n : Nat) : Int) = ((s.size : Nat) : Int) := by omega
        obtain ⟨hw, h35⟩ := hst (by omega)
        rw [lexF_at (by omega) (by omega) hw h35] at hC
        have ed2 : (s.extract (i + n) s.size).data.toList = s.data.toList.drop (i + n) := ext_tail _ _
        have es2 : (s.extract (i + n) s.size).size = s.size - (i + n) := by rw [← len_list, ed2, List.length_drop, ls]
        have fi := first_p (s.extract (i + n) s.size) (by omega) (by omega)
        rw [ed2] at fi
        have fl := firstN_le (s.data.toList.drop (i + n))
        rw [List.length_drop, ls] at fl
        have b2 : IntKind.i64.wrap (((i + n : Nat) : Int) - ((i : Int) - (T : Int))) = ((T' : Nat) : Int) := by rw [i64_wrap (by omega) (by omega)]; omega
        have b3 : IntKind.i64.wrap (((T' : Nat) : Int) + 1) = ((1 + T' : Nat) : Int) := by rw [i64_wrap (by omega) (by omega)]; omega
        obtain ⟨k0, v0, tp⟩ := token_p (mkB ((s.data.toList.drop (i + n)).take (firstN (s.data.toList.drop (i + n))))) (by rw [mkB_size, List.length_take]; omega)
        rw [mkB_L] at tp
        have tsz : (mkB ((s.data.toList.drop (i + n)).take (firstN (s.data.toList.drop (i + n))))).size = firstN (s.data.toList.drop (i + n)) := by rw [mkB_size, List.length_take, List.length_drop]; omega
        cases ht : tokenS ((s.data.toList.drop (i + n)).take (firstN (s.data.toList.drop (i + n)))) with
        | none =>
          rw [ht] at hC tp
          simp only at hC tp
          subst hC
          repeat' first | (with_reducible refine And.intro (by omega) ?_) | (refine SW.seq_k fun K hK => ?_) | (refine SW.block ?_) | ((first | refine SW.region ?_ | refine SW.regionD (Checked.mixed Tryz.checked) (by kernel_rfl) ?_ | refine SW.cond ?_ | refine SW.skip ?_ | refine SW.exit ?_ | refine SW.ret ?_ | refine Call.of_pure (bl) ?_ | refine ⟨_, bl, ?_⟩ | refine Call.of_pure (cn) ?_ | refine ⟨_, cn, ?_⟩ | refine Call.of_pure (la) ?_ | refine ⟨_, la, ?_⟩ | refine Call.of_pure (fi) ?_ | refine ⟨_, fi, ?_⟩ | refine Call.of_pure (tp) ?_ | refine ⟨_, tp, ?_⟩ | (refine allF_i fun b hb => ?_; replace hD := And.intro hb hD; clear hb; try simp only [fresh_cons, fresh_nil, and_true, ne_eq, neF] at hD) | simp only [appK, appOsK]); try simp only [go_sem, ↓reduceIte, reduceCtorEq, Nat.reduceAdd, Nat.reduceMul, Nat.reduceSub, Nat.reduceLT, Nat.reduceLeDiff, Nat.reduceEqDiff, Nat.reduceBEq, Nat.reduceBneDiff, Int.reduceToNat, Int.reduceEq, hD, ie, i0, il, a1, a2, a3, a4, a5, a6, sz, c1, b1, b2, b3]) | (refine And.intro (by omega) ?_) | (refine ifI (fun hc => ?_) (fun hc => ?_) <;> first | (exfalso; omega) | skip) | (first | (apply hK; clear hK K) | ((iterate 1 (clear hK K)); apply hK; clear hK K) | ((iterate 2 (clear hK K)); apply hK; clear hK K) | ((iterate 3 (clear hK K)); apply hK; clear hK K) | ((iterate 4 (clear hK K)); apply hK; clear hK K) | ((iterate 5 (clear hK K)); apply hK; clear hK K))
          refine retQ_le (St.le_nil_fl (i := 2) (sz := 7) (f := tokF []) rfl) ?_
          simp only [resL_tmp, resL_nil, tupOf, go_sem, ↓reduceIte, reduceCtorEq, Nat.reduceAdd, Nat.reduceMul, Nat.reduceSub, Nat.reduceLT, Nat.reduceLeDiff, Nat.reduceEqDiff, Nat.reduceBEq, Nat.reduceBneDiff, Int.reduceToNat, Int.reduceEq, hD]
          rw [eln, eT]
          rfl
        | some kv =>
          obtain ⟨kk, vv⟩ := kv
          rw [ht] at hC tp
          simp only at hC tp
          have fp : 1 ≤ firstN (s.data.toList.drop (i + n)) := by
            rcases Nat.eq_zero_or_pos (firstN (s.data.toList.drop (i + n))) with h0 | h0
            · rw [h0, List.take_zero, tokenS_nil] at ht
              cases ht
            · exact h0
          have n10 := token_no10 ht
          have etk2 : s.data.toList.take (i + n + firstN (s.data.toList.drop (i + n))) = s.data.toList.take (i + n) ++ (s.data.toList.drop (i + n)).take (firstN (s.data.toList.drop (i + n))) := List.take_add
          have eln2 := line_app (s.data.toList.take (i + n)) ((s.data.toList.drop (i + n)).take (firstN (s.data.toList.drop (i + n))))
          have etl2 := tail_app ((s.data.toList.drop (i + n)).take (firstN (s.data.toList.drop (i + n)))) (s.data.toList.take (i + n))
          rw [← etk2, n10] at eln2 etl2
          rw [if_pos rfl, List.length_take, List.length_drop, ls] at etl2
          generalize hgx : (s.data.toList.drop (i + n)).take (firstN (s.data.toList.drop (i + n))) = tx at *
          generalize hgf : firstN (s.data.toList.drop (i + n)) = fn at *
          have b4 : IntKind.i64.wrap (((i + n : Nat) : Int) + (fn : Int)) = ((i + n + fn : Nat) : Int) := by rw [i64_wrap (by omega) (by omega)]; omega
          have ba : (acc.length + 1) * 104 ≤ 140737488355328 := by omega
          rcases hB.cases with ⟨e0, e1, rfl, rfl⟩ | ⟨b, e0, rfl, hle⟩
          · repeat' first | (with_reducible refine And.intro (by omega) ?_) | (refine SW.seq_k fun K hK => ?_) | (refine SW.block ?_) | ((first | refine SW.region ?_ | refine SW.regionD (Checked.mixed Tryz.checked) (by kernel_rfl) ?_ | refine SW.cond ?_ | refine SW.skip ?_ | refine SW.exit ?_ | refine SW.ret ?_ | refine Call.of_pure (bl) ?_ | refine ⟨_, bl, ?_⟩ | refine Call.of_pure (cn) ?_ | refine ⟨_, cn, ?_⟩ | refine Call.of_pure (la) ?_ | refine ⟨_, la, ?_⟩ | refine Call.of_pure (fi) ?_ | refine ⟨_, fi, ?_⟩ | refine Call.of_pure (tp) ?_ | refine ⟨_, tp, ?_⟩ | (refine allF_i fun b hb => ?_; replace hD := And.intro hb hD; clear hb; try simp only [fresh_cons, fresh_nil, and_true, ne_eq, neF] at hD) | simp only [appK, appOsK]); try simp only [go_sem, ↓reduceIte, reduceCtorEq, Nat.reduceAdd, Nat.reduceMul, Nat.reduceSub, Nat.reduceLT, Nat.reduceLeDiff, Nat.reduceEqDiff, Nat.reduceBEq, Nat.reduceBneDiff, Int.reduceToNat, Int.reduceEq, hD, ie, i0, il, a1, a2, a3, a4, a5, a6, sz, c1, b1, b2, b3, b4, tsz, ba, true_implies]) | (refine And.intro (by omega) ?_) | (refine ifI (fun hc => ?_) (fun hc => ?_) <;> first | (exfalso; omega) | skip) | (first | (apply hK; clear hK K) | ((iterate 1 (clear hK K)); apply hK; clear hK K) | ((iterate 2 (clear hK K)); apply hK; clear hK K) | ((iterate 3 (clear hK K)); apply hK; clear hK K) | ((iterate 4 (clear hK K)); apply hK; clear hK K) | ((iterate 5 (clear hK K)); apply hK; clear hK K))
            rw [eln, eT] at hC
            obtain rfl : acc = [] := List.eq_nil_of_length_eq_zero e0
            obtain ⟨hB2, hle2⟩ := Acc.keep (sz := 7) (n := 1) (b := b) (cs := tokC ⟨kk, mkB tx, vv, ((L + ck : Nat) : Int), ((1 + T' : Nat) : Int)⟩) (h' := _) (List.mem_cons_self ..) rfl
            refine Rnd.le (hle2 _) ?_
            refine Rnd.sub (s.size + 1 - (i + n + fn)) (by omega) ((hI _ _).2 ⟨i + n + fn, [] ++ [⟨kk, mkB tx, vv, ((L + ck : Nat) : Int), ((1 + T' : Nat) : Int)⟩], _, _, rfl, by omega, by rw [List.length_append]; simp only [List.length_cons, List.length_nil]; omega, hC, hB2, rfl⟩) (by repeat' (first | exact rfl | exact trivial | exact int_eq (by omega) | exact int_eq (by (rw [i64_wrap] <;> omega)) | constructor))
          · refine SW.le (hle _) ?_
            repeat' first | (with_reducible refine And.intro (by omega) ?_) | (refine SW.seq_k fun K hK => ?_) | (refine SW.block ?_) | ((first | refine SW.region ?_ | refine SW.regionD (Checked.mixed Tryz.checked) (by kernel_rfl) ?_ | refine SW.cond ?_ | refine SW.skip ?_ | refine SW.exit ?_ | refine SW.ret ?_ | refine Call.of_pure (bl) ?_ | refine ⟨_, bl, ?_⟩ | refine Call.of_pure (cn) ?_ | refine ⟨_, cn, ?_⟩ | refine Call.of_pure (la) ?_ | refine ⟨_, la, ?_⟩ | refine Call.of_pure (fi) ?_ | refine ⟨_, fi, ?_⟩ | refine Call.of_pure (tp) ?_ | refine ⟨_, tp, ?_⟩ | (refine allF_i fun b hb => ?_; replace hD := And.intro hb hD; clear hb; try simp only [fresh_cons, fresh_nil, and_true, ne_eq, neF] at hD) | simp only [appK, appOsK]); try simp only [go_sem, ↓reduceIte, reduceCtorEq, Nat.reduceAdd, Nat.reduceMul, Nat.reduceSub, Nat.reduceLT, Nat.reduceLeDiff, Nat.reduceEqDiff, Nat.reduceBEq, Nat.reduceBneDiff, Int.reduceToNat, Int.reduceEq, hD, ie, i0, il, a1, a2, a3, a4, a5, a6, sz, c1, b1, b2, b3, b4, tsz, ba, true_implies]) | (refine And.intro (by omega) ?_) | (refine ifI (fun hc => ?_) (fun hc => ?_) <;> first | (exfalso; omega) | skip) | (first | (apply hK; clear hK K) | ((iterate 1 (clear hK K)); apply hK; clear hK K) | ((iterate 2 (clear hK K)); apply hK; clear hK K) | ((iterate 3 (clear hK K)); apply hK; clear hK K) | ((iterate 4 (clear hK K)); apply hK; clear hK K) | ((iterate 5 (clear hK K)); apply hK; clear hK K))
            rw [eln, eT] at hC
            obtain ⟨hB2, hle2⟩ := Acc.keep (sz := 7) (n := acc.length + 1) (b := b) (cs := cellsT acc ++ tokC ⟨kk, mkB tx, vv, ((L + ck : Nat) : Int), ((1 + T' : Nat) : Int)⟩) (h' := _) (List.mem_cons_of_mem _ (List.mem_cons_of_mem _ (List.mem_cons_self ..))) (by rw [List.length_append, ← cells_len]; show _ = _ + 7; omega)
            refine Rnd.le (hle2 _) ?_
            refine Rnd.sub (s.size + 1 - (i + n + fn)) (by omega) ((hI _ _).2 ⟨i + n + fn, acc ++ [⟨kk, mkB tx, vv, ((L + ck : Nat) : Int), ((1 + T' : Nat) : Int)⟩], _, _, rfl, by omega, by rw [List.length_append]; simp only [List.length_cons, List.length_nil]; omega, hC, by rw [cells_snoc, List.length_append]; exact hB2, rfl⟩) (by repeat' (first | exact rfl | exact trivial | exact int_eq (by omega) | exact int_eq (by (rw [i64_wrap] <;> omega)) | constructor))
end Go.Proofs.YtajbifibhgppfaaGreatDoor
/- Contracts: Position of both. -/
set_option linter.unusedSimpArgs false
set_option linter.unusedVariables false
set_option linter.unusedSectionVars false
namespace Go.Ab.A05
open Go Go.Ab Go.Ab.A01 Go.Proofs.YtajbifibhgppfaaGreatDoor
/-- What Position hands back. -/
def posR (l : List UInt8) (o : Int) : SV := if o < 0 ∨ (l.length : Int) < o then .tup [I64 0, I64 0, I64 7] else .tup [I64 (lineS (l.take o.toNat) : Nat), I64 (1 + tailS (l.take o.toNat) : Nat), I64 0]
end Go.Ab.A05
namespace Go.Proofs.YtajbifibhgppfaaGreatDoor
open Go Go.Ab Go.Ab.A01 Go.Ab.A05
variable [Gl] [Tabs] [Syms]



set_option maxHeartbeats 1000000 in
set_option maxRecDepth 20000 in
theorem position_r (s : ByteArray) (hs : s.size ≤ 1000000) (o : Int) : PCall Tryz.prog 43 [Str s, I64 o] (posR s.data.toList o) := by
  have ls : s.data.toList.length = s.size := Array.length_toList
  unfold posR
  rw [ls]
  by_cases h1 : o < 0
  · rw [if_pos (.inl h1)]
    refine Call.enter' (N := 33) (rs := [.tmp 4, .tmp 5, .tmp 6]) Tryz.func43 rfl rfl rfl (by decide) rfl ?_; simp only [argT]; have hD : (0 : Nat) = 0 := rfl
    repeat' first | (with_reducible refine And.intro (by omega) ?_) | (refine SW.seq_k fun K hK => ?_) | (refine SW.block ?_) | ((first | refine SW.region ?_ | refine SW.regionD (Checked.mixed Tryz.checked) (by kernel_rfl) ?_ | refine SW.cond ?_ | refine SW.skip ?_ | refine SW.exit ?_ | refine SW.ret ?_ | (refine allF_i fun b hb => ?_; replace hD := And.intro hb hD; clear hb; try simp only [fresh_cons, fresh_nil, and_true, ne_eq, neF] at hD) | simp only [appK, appOsK]); try simp only [go_sem, ↓reduceIte, reduceCtorEq, Nat.reduceAdd, Nat.reduceMul, Nat.reduceSub, Nat.reduceLT, Nat.reduceLeDiff, Nat.reduceEqDiff, Nat.reduceBEq, Nat.reduceBneDiff, Int.reduceToNat, Int.reduceEq, hD, h1]) | (refine And.intro (by omega) ?_) | (refine ifI (fun hc => ?_) (fun hc => ?_) <;> first | (exfalso; omega) | skip) | (first | (apply hK; clear hK K) | ((iterate 1 (clear hK K)); apply hK; clear hK K) | ((iterate 2 (clear hK K)); apply hK; clear hK K) | ((iterate 3 (clear hK K)); apply hK; clear hK K) | ((iterate 4 (clear hK K)); apply hK; clear hK K) | ((iterate 5 (clear hK K)); apply hK; clear hK K))
    refine ret_pure ?_; simp only [resL_tmp, resL_nil, tupOf, go_sem, ↓reduceIte, reduceCtorEq, Nat.reduceAdd, Nat.reduceMul, Nat.reduceSub, Nat.reduceLT, Nat.reduceLeDiff, Nat.reduceEqDiff, Nat.reduceBEq, Nat.reduceBneDiff, Int.reduceToNat, Int.reduceEq, hD]
  · by_cases h2 : (s.size : Int) < o
    · rw [if_pos (.inr h2)]
      refine Call.enter' (N := 33) (rs := [.tmp 4, .tmp 5, .tmp 6]) Tryz.func43 rfl rfl rfl (by decide) rfl ?_; simp only [argT]; have hD : (0 : Nat) = 0 := rfl
      repeat' first | (with_reducible refine And.intro (by omega) ?_) | (refine SW.seq_k fun K hK => ?_) | (refine SW.block ?_) | ((first | refine SW.region ?_ | refine SW.regionD (Checked.mixed Tryz.checked) (by kernel_rfl) ?_ | refine SW.cond ?_ | refine SW.skip ?_ | refine SW.exit ?_ | refine SW.ret ?_ | (refine allF_i fun b hb => ?_; replace hD := And.intro hb hD; clear hb; try simp only [fresh_cons, fresh_nil, and_true, ne_eq, neF] at hD) | simp only [appK, appOsK]); try simp only [go_sem, ↓reduceIte, reduceCtorEq, Nat.reduceAdd, Nat.reduceMul, Nat.reduceSub, Nat.reduceLT, Nat.reduceLeDiff, Nat.reduceEqDiff, Nat.reduceBEq, Nat.reduceBneDiff, Int.reduceToNat, Int.reduceEq, hD, h1, h2]) | (refine And.intro (by omega) ?_) | (refine ifI (fun hc => ?_) (fun hc => ?_) <;> first | (exfalso; omega) | skip) | (first | (apply hK; clear hK K) | ((iterate 1 (clear hK K)); apply hK; clear hK K) | ((iterate 2 (clear hK K)); apply hK; clear hK K) | ((iterate 3 (clear hK K)); apply hK; clear hK K) | ((iterate 4 (clear hK K)); apply hK; clear hK K) | ((iterate 5 (clear hK K)); apply hK; clear hK K))
      refine ret_pure ?_; simp only [resL_tmp, resL_nil, tupOf, go_sem, ↓reduceIte, reduceCtorEq, Nat.reduceAdd, Nat.reduceMul, Nat.reduceSub, Nat.reduceLT, Nat.reduceLeDiff, Nat.reduceEqDiff, Nat.reduceBEq, Nat.reduceBneDiff, Int.reduceToNat, Int.reduceEq, hD]
    · rw [if_neg (by rintro (x | x); exact h1 x; exact h2 x)]
      obtain ⟨n, rfl⟩ : ∃ n : Nat, o = (n : Int) := ⟨o.toNat, by omega⟩
      have en : ((n : Nat) : Int).toNat = n := Int.toNat_natCast _
      rw [en]
      refine Call.enter' (N := 33) (rs := [.tmp 4, .tmp 5, .tmp 6]) Tryz.func43 rfl rfl rfl (by decide) rfl ?_; simp only [argT]; have hD : (0 : Nat) = 0 := rfl
      repeat' first | (with_reducible refine And.intro (by omega) ?_) | (refine SW.seq_k fun K hK => ?_) | (refine SW.block ?_) | ((first | refine SW.region ?_ | refine SW.regionD (Checked.mixed Tryz.checked) (by kernel_rfl) ?_ | refine SW.cond ?_ | refine SW.skip ?_ | refine SW.exit ?_ | refine SW.ret ?_ | (refine allF_i fun b hb => ?_; replace hD := And.intro hb hD; clear hb; try simp only [fresh_cons, fresh_nil, and_true, ne_eq, neF] at hD) | simp only [appK, appOsK]); try simp only [go_sem, ↓reduceIte, reduceCtorEq, Nat.reduceAdd, Nat.reduceMul, Nat.reduceSub, Nat.reduceLT, Nat.reduceLeDiff, Nat.reduceEqDiff, Nat.reduceBEq, Nat.reduceBneDiff, Int.reduceToNat, Int.reduceEq, hD, h1, h2]) | (refine And.intro (by omega) ?_) | (refine ifI (fun hc => ?_) (fun hc => ?_) <;> first | (exfalso; omega) | skip) | (first | (apply hK; clear hK K) | ((iterate 1 (clear hK K)); apply hK; clear hK K) | ((iterate 2 (clear hK K)); apply hK; clear hK K) | ((iterate 3 (clear hK K)); apply hK; clear hK K) | ((iterate 4 (clear hK K)); apply hK; clear hK K) | ((iterate 5 (clear hK K)); apply hK; clear hK K))
      obtain ⟨I, hI⟩ : ∃ I : Nat → St → Prop, ∀ k S, I k S ↔ (∃ (i : Nat), k = n - i ∧ i ≤ n ∧ S = ⟨[(0, Str s), (1, I64 n), (7, I64 (lineS (s.data.toList.take i) : Nat)), (8, I64 (1 + tailS (s.data.toList.take i) : Nat)), (9, I64 i)], []⟩) := ⟨fun k S => _, fun _ _ => Iff.rfl⟩
      refine SW.loop' I n ((hI _ _).2 ⟨0, rfl, Nat.zero_le _, rfl⟩) (by repeat' (first | exact rfl | exact trivial | exact int_eq (by omega) | exact int_eq (by (rw [i64_wrap] <;> omega)) | constructor)) ?_
      intro k S hIn
      obtain ⟨i, rfl, hi, rfl⟩ := (hI _ _).1 hIn
      clear hIn
      have ie : ((i : Nat) : Int).toNat = i := Int.toNat_natCast _
      have i0 : (0 : Int) ≤ ((i : Nat) : Int) := by omega
      by_cases hlt : i < n
      · have hli : ((i : Nat) : Int) < (n : Int) := by omega
        have hls : ((i : Nat) : Int) < ((s.size : Nat) : Int) := by omega
        have w1 : IntKind.i64.wrap ((i : Int) + 1) = ((i + 1 : Nat) : Int) := by rw [i64_wrap (by omega) (by omega)]; omega
        have kc := List.count_le_length (a := (10 : UInt8)) (l := s.data.toList.take i)
        have tk := tail_le (s.data.toList.take i)
        rw [List.length_take] at kc tk
        have lk : lineS (s.data.toList.take i) ≤ 1 + i := by unfold lineS; omega
        have hx : i < s.data.toList.length := by omega
        have e : s.data.toList.take (i + 1) = s.data.toList.take i ++ [s.data.toList.getD i 0] := by
          rw [List.take_add_one, List.getElem?_eq_getElem hx, List.getD_eq_getElem?_getD, List.getElem?_eq_getElem hx]
          rfl
        have f1 := line_snoc (s.data.toList.take i) (s.data.toList.getD i 0)
        have f2 := tail_snoc (s.data.toList.take i) (s.data.toList.getD i 0)
        rw [← e] at f1 f2
        have w2 : IntKind.i64.wrap (((1 + tailS (s.data.toList.take i) : Nat) : Int) + 1) = ((1 + (tailS (s.data.toList.take i) + 1) : Nat) : Int) := by rw [i64_wrap (by omega) (by omega)]; omega
        have w3 : IntKind.i64.wrap (((lineS (s.data.toList.take i) : Nat) : Int) + 1) = ((lineS (s.data.toList.take i) + 1 : Nat) : Int) := by rw [i64_wrap (by omega) (by omega)]; omega
        by_cases hc : s.data.toList.getD i 0 = 10
        · have hc2 : ((s.data.toList.getD i 0).toNat : Int) = 10 := by rw [hc]; rfl
          rw [if_pos hc] at f1 f2
          repeat' first | (with_reducible refine And.intro (by omega) ?_) | (refine SW.seq_k fun K hK => ?_) | (refine SW.block ?_) | ((first | refine SW.region ?_ | refine SW.regionD (Checked.mixed Tryz.checked) (by kernel_rfl) ?_ | refine SW.cond ?_ | refine SW.skip ?_ | refine SW.exit ?_ | refine SW.ret ?_ | (refine allF_i fun b hb => ?_; replace hD := And.intro hb hD; clear hb; try simp only [fresh_cons, fresh_nil, and_true, ne_eq, neF] at hD) | simp only [appK, appOsK]); try simp only [go_sem, ↓reduceIte, reduceCtorEq, Nat.reduceAdd, Nat.reduceMul, Nat.reduceSub, Nat.reduceLT, Nat.reduceLeDiff, Nat.reduceEqDiff, Nat.reduceBEq, Nat.reduceBneDiff, Int.reduceToNat, Int.reduceEq, hD, hli, hls, ie, i0, w1, w2, w3, hc2]) | (refine And.intro (by omega) ?_) | (refine ifI (fun hc => ?_) (fun hc => ?_) <;> first | (exfalso; omega) | skip) | (first | (apply hK; clear hK K) | ((iterate 1 (clear hK K)); apply hK; clear hK K) | ((iterate 2 (clear hK K)); apply hK; clear hK K) | ((iterate 3 (clear hK K)); apply hK; clear hK K) | ((iterate 4 (clear hK K)); apply hK; clear hK K) | ((iterate 5 (clear hK K)); apply hK; clear hK K))
          refine Rnd.sub (n - (i + 1)) (by omega) ((hI _ _).2 ⟨i + 1, rfl, by omega, rfl⟩) (by repeat' (first | exact rfl | exact trivial | exact int_eq (by omega) | exact int_eq (by (rw [i64_wrap] <;> omega)) | constructor))
        · have hc2 : ¬ ((s.data.toList.getD i 0).toNat : Int) = 10 := fun x => hc (u8_of (d := 10) x)
          rw [if_neg hc] at f1 f2
          repeat' first | (with_reducible refine And.intro (by omega) ?_) | (refine SW.seq_k fun K hK => ?_) | (refine SW.block ?_) | ((first | refine SW.region ?_ | refine SW.regionD (Checked.mixed Tryz.checked) (by kernel_rfl) ?_ | refine SW.cond ?_ | refine SW.skip ?_ | refine SW.exit ?_ | refine SW.ret ?_ | (refine allF_i fun b hb => ?_; replace hD := And.intro hb hD; clear hb; try simp only [fresh_cons, fresh_nil, and_true, ne_eq, neF] at hD) | simp only [appK, appOsK]); try simp only [go_sem, ↓reduceIte, reduceCtorEq, Nat.reduceAdd, Nat.reduceMul, Nat.reduceSub, Nat.reduceLT, Nat.reduceLeDiff, Nat.reduceEqDiff, Nat.reduceBEq, Nat.reduceBneDiff, Int.reduceToNat, Int.reduceEq, hD, hli, hls, ie, i0, w1, w2, w3, hc2]) | (refine And.intro (by omega) ?_) | (refine ifI (fun hc => ?_) (fun hc => ?_) <;> first | (exfalso; omega) | skip) | (first | (apply hK; clear hK K) | ((iterate 1 (clear hK K)); apply hK; clear hK K) | ((iterate 2 (clear hK K)); apply hK; clear hK K) | ((iterate 3 (clear hK K)); apply hK; clear hK K) | ((iterate 4 (clear hK K)); apply hK; clear hK K) | ((iterate 5 (clear hK K)); apply hK; clear hK K))
          refine Rnd.sub (n - (i + 1)) (by omega) ((hI _ _).2 ⟨i + 1, rfl, by omega, rfl⟩) (by repeat' (first | exact rfl | exact trivial | exact int_eq (by omega) | exact int_eq (by (rw [i64_wrap] <;> omega)) | constructor))
      · have hli : ¬ ((i : Nat) : Int) < (n : Int) := by omega
        obtain rfl : i = n := by omega
        repeat' first | (with_reducible refine And.intro (by omega) ?_) | (refine SW.seq_k fun K hK => ?_) | (refine SW.block ?_) | ((first | refine SW.region ?_ | refine SW.regionD (Checked.mixed Tryz.checked) (by kernel_rfl) ?_ | refine SW.cond ?_ | refine SW.skip ?_ | refine SW.exit ?_ | refine SW.ret ?_ | (refine allF_i fun b hb => ?_; replace hD := And.intro hb hD; clear hb; try simp only [fresh_cons, fresh_nil, and_true, ne_eq, neF] at hD) | simp only [appK, appOsK]); try simp only [go_sem, ↓reduceIte, reduceCtorEq, Nat.reduceAdd, Nat.reduceMul, Nat.reduceSub, Nat.reduceLT, Nat.reduceLeDiff, Nat.reduceEqDiff, Nat.reduceBEq, Nat.reduceBneDiff, Int.reduceToNat, Int.reduceEq, hD, hli]) | (refine And.intro (by omega) ?_) | (refine ifI (fun hc => ?_) (fun hc => ?_) <;> first | (exfalso; omega) | skip) | (first | (apply hK; clear hK K) | ((iterate 1 (clear hK K)); apply hK; clear hK K) | ((iterate 2 (clear hK K)); apply hK; clear hK K) | ((iterate 3 (clear hK K)); apply hK; clear hK K) | ((iterate 4 (clear hK K)); apply hK; clear hK K) | ((iterate 5 (clear hK K)); apply hK; clear hK K))
        refine ret_pure ?_; simp only [resL_tmp, resL_nil, tupOf, go_sem, ↓reduceIte, reduceCtorEq, Nat.reduceAdd, Nat.reduceMul, Nat.reduceSub, Nat.reduceLT, Nat.reduceLeDiff, Nat.reduceEqDiff, Nat.reduceBEq, Nat.reduceBneDiff, Int.reduceToNat, Int.reduceEq, hD]
end Go.Proofs.YtajbifibhgppfaaGreatDoor
/- Contracts: length of the reference. -/
set_option linter.unusedSimpArgs false
set_option linter.unusedVariables false
set_option linter.unusedSectionVars false
namespace Go.Ab.A05
open Go Go.Ab Go.Ab.A01 Go.Proofs.YtajbifibhgppfaaGreatDoor
/-- The longest symbol of at most n bytes at the beginning. -/
def symD (l : List UInt8) : Nat → Nat
  | 0 => 0
  | n + 1 => if symB (l.take (n + 1)) = true then n + 1 else symD l n
theorem symR_D (l : List UInt8) : symR l = symD l (min 3 l.length) := by
  unfold symR
  rcases Nat.lt_or_ge l.length 3 with h | h
  · rw [if_neg (by omega)]
    rcases Nat.lt_or_ge l.length 2 with h2 | h2
    · rw [if_neg (by omega)]
      rcases Nat.lt_or_ge l.length 1 with h3 | h3
      · rw [if_neg (by omega), show min 3 l.length = 0 by omega]
        rfl
      · rw [show min 3 l.length = 0 + 1 by omega, symD]
        by_cases q : symB (l.take 1) = true
        · rw [if_pos ⟨h3, q⟩, if_pos q]
        · rw [if_neg (fun x => q x.2), if_neg q]
          rfl
    · rw [show min 3 l.length = 1 + 1 by omega, symD]
      by_cases q : symB (l.take 2) = true
      · rw [if_pos ⟨h2, q⟩, if_pos q]
      · rw [if_neg (fun x => q x.2), if_neg q, symD]
        by_cases q : symB (l.take 1) = true
        · rw [if_pos ⟨by omega, q⟩, if_pos q]
        · rw [if_neg (fun x => q x.2), if_neg q]
          rfl
  · rw [show min 3 l.length = 2 + 1 by omega, symD]
    by_cases q : symB (l.take 3) = true
    · rw [if_pos ⟨h, q⟩, if_pos q]
    · rw [if_neg (fun x => q x.2), if_neg q, symD]
      by_cases q : symB (l.take 2) = true
      · rw [if_pos ⟨by omega, q⟩, if_pos q]
      · rw [if_neg (fun x => q x.2), if_neg q, symD]
        by_cases q : symB (l.take 1) = true
        · rw [if_pos ⟨by omega, q⟩, if_pos q]
        · rw [if_neg (fun x => q x.2), if_neg q]
          rfl
/-- What the reference's search for the closing quote finds. -/
def quoR (l : List UInt8) : Nat := if (parseV (mkB (l.take (qF 1 (l.drop 1))))).2 = 0 then qF 1 (l.drop 1) else 0
def okT (l : List UInt8) (n : Nat) : Prop := l.getD (n - 1) 0 = 34 ∧ (parseV (mkB (l.take n))).2 = 0
theorem quo_found {r : List UInt8} {n : Nat} (h1 : 1 ≤ n) (hn : n ≤ r.length + 1) (h : (parseV (mkB ((34 :: r).take n))).2 = 0) : quoR (34 :: r) = n := by
  obtain ⟨m, rfl⟩ : ∃ m, n = m + 1 := ⟨n - 1, by omega⟩
  have hq := (parse_quote (by omega) h).1
  unfold quoR
  have e : (34 :: r).drop 1 = r := rfl
  rw [e, hq, if_pos h]
theorem quo_none {r : List UInt8} (h : ∀ n, 2 ≤ n → n ≤ r.length + 1 → n ≤ 802 → ¬ okT (34 :: r) n) : quoR (34 :: r) = 0 := by
  unfold quoR
  have e : (34 :: r).drop 1 = r := rfl
  rw [e]
  by_cases hp : (parseV (mkB ((34 :: r).take (qF 1 r)))).2 = 0
  · rw [if_pos hp]
    by_cases h0 : qF 1 r = 0
    · exact h0
    · exfalso
      have hl := qF_le r.length 1 r (Nat.le_refl _)
      obtain ⟨a, b⟩ := hl.2 h0
      obtain ⟨m, hm⟩ : ∃ m, qF 1 r = m + 1 := ⟨qF 1 r - 1, by omega⟩
      rw [hm] at hp
      have h8 := (parse_quote (by omega) hp).2
      refine h (m + 1) (by omega) (by omega) h8 ⟨?_, hp⟩
      rw [hm] at b
      obtain ⟨m', rfl⟩ : ∃ m', m = m' + 1 := ⟨m - 1, by omega⟩
      have e1 : m' + 1 + 1 - 1 - 1 = m' := by omega
      have e2 : m' + 1 + 1 - 1 = m' + 1 := by omega
      rw [e1] at b
      rw [e2, List.getD_cons_succ]
      exact b
  · rw [if_neg hp]
end Go.Ab.A05
namespace Go.Proofs.YtajbifibhgppfaaGreatDoor
open Go Go.Ab Go.Ab.A01 Go.Ab.A05
variable [Gl] [Tabs] [Syms]
theorem u8_ne {c : UInt8} (d : UInt8) (h : c ≠ d) : ¬ ((c.toNat : Nat) : Int) = ((d.toNat : Nat) : Int) := fun x => h (u8_of x)

set_option maxHeartbeats 4000000 in
set_option maxRecDepth 20000 in
theorem length_r (s : ByteArray) (hs : s.size ≤ 1000000) (h1 : 1 ≤ s.size) : PCall Tryz.prog 44 [Str s] (I64 (refN s.data.toList)) := by
  have ls : s.data.toList.length = s.size := Array.length_toList
  have h1i : (0 : Int) < ((s.size : Nat) : Int) := by omega
  obtain ⟨c, r, hcr⟩ : ∃ c r, s.data.toList = c :: r := by
    cases hx : s.data.toList with
    | nil => rw [hx] at ls; simp at ls; omega
    | cons c r => exact ⟨c, r, rfl⟩
  have hc : s.data.toList.getD 0 0 = c := by rw [hcr]; rfl
  have hd1 : s.data.toList.drop 1 = r := by rw [hcr]; rfl
  have lr : r.length + 1 = s.size := by rw [← ls, hcr, List.length_cons]
  have ml := letter_r c
  have md := digit_r c
  obtain ⟨R, hR⟩ : ∃ R, R = refN s.data.toList := ⟨_, rfl⟩
  rw [← hR]
  cases q1 : isL c with
  | true =>
    rw [q1] at ml
    have hC0 : R = 0 + A05.runN isW (s.data.toList.drop 0) := by
      rw [hR, List.drop_zero, Nat.zero_add, hcr]; unfold refN; simp only; rw [if_pos q1]
    clear hR
    refine Call.enter' (N := 105) (rs := [.tmp 2]) Tryz.func44 rfl rfl rfl (by decide) rfl ?_; simp only [argT]; have hD : (0 : Nat) = 0 := rfl
    repeat' first | (with_reducible refine And.intro (by omega) ?_) | (refine SW.seq_k fun K hK => ?_) | (refine SW.block ?_) | ((first | refine SW.region ?_ | refine SW.regionD (Checked.mixed Tryz.checked) (by kernel_rfl) ?_ | refine SW.cond ?_ | refine SW.skip ?_ | refine SW.exit ?_ | refine SW.ret ?_ | refine Call.of_pure (ml) ?_ | refine ⟨_, ml, ?_⟩ | (refine allF_i fun b hb => ?_; replace hD := And.intro hb hD; clear hb; try simp only [fresh_cons, fresh_nil, and_true, ne_eq, neF] at hD) | simp only [appK, appOsK]); try simp only [go_sem, ↓reduceIte, reduceCtorEq, Nat.reduceAdd, Nat.reduceMul, Nat.reduceSub, Nat.reduceLT, Nat.reduceLeDiff, Nat.reduceEqDiff, Nat.reduceBEq, Nat.reduceBneDiff, Int.reduceToNat, Int.reduceEq, hD, h1i, hc]) | (refine And.intro (by omega) ?_) | (refine ifI (fun hc => ?_) (fun hc => ?_) <;> first | (exfalso; omega) | skip) | (first | (apply hK; clear hK K) | ((iterate 1 (clear hK K)); apply hK; clear hK K) | ((iterate 2 (clear hK K)); apply hK; clear hK K) | ((iterate 3 (clear hK K)); apply hK; clear hK K) | ((iterate 4 (clear hK K)); apply hK; clear hK K) | ((iterate 5 (clear hK K)); apply hK; clear hK K))
    obtain ⟨I, hI⟩ : ∃ I : Nat → St → Prop, ∀ k S, I k S ↔ (∃ (i : Nat), k = s.size - i ∧ i ≤ s.size ∧ R = i + A05.runN isW (s.data.toList.drop i) ∧ S = ⟨[(0, Str s), (4, I64 i)], []⟩) := ⟨fun k S => _, fun _ _ => Iff.rfl⟩
    refine SW.loop' I s.size ((hI _ _).2 ⟨0, rfl, Nat.zero_le _, hC0, rfl⟩) (by repeat' (first | exact rfl | exact trivial | exact int_eq (by omega) | exact int_eq (by (rw [i64_wrap] <;> omega)) | constructor)) ?_
    clear hC0
    intro k S hIn
    obtain ⟨i, rfl, hi, hC, rfl⟩ := (hI _ _).1 hIn
    clear hIn
    have ie : ((i : Nat) : Int).toNat = i := Int.toNat_natCast _
    have i0 : (0 : Int) ≤ ((i : Nat) : Int) := by omega
    by_cases hlt : i < s.size
    · have hli : ((i : Nat) : Int) < ((s.size : Nat) : Int) := by omega
      have w1 : IntKind.i64.wrap ((i : Int) + 1) = ((i + 1 : Nat) : Int) := by rw [i64_wrap (by omega) (by omega)]; omega
      rw [drop_cons (by omega), runN_cons] at hC
      have a1 := letter_r (s.data.toList.getD i 0)
      have a2 := digit_r (s.data.toList.getD i 0)
      cases q8 : isL (s.data.toList.getD i 0) with
      | true =>
        rw [q8] at a1
        rw [if_pos (by unfold isW; rw [q8]; rfl)] at hC
        repeat' first | (with_reducible refine And.intro (by omega) ?_) | (refine SW.seq_k fun K hK => ?_) | (refine SW.block ?_) | ((first | refine SW.region ?_ | refine SW.regionD (Checked.mixed Tryz.checked) (by kernel_rfl) ?_ | refine SW.cond ?_ | refine SW.skip ?_ | refine SW.exit ?_ | refine SW.ret ?_ | refine Call.of_pure (a1) ?_ | refine ⟨_, a1, ?_⟩ | refine Call.of_pure (a2) ?_ | refine ⟨_, a2, ?_⟩ | (refine allF_i fun b hb => ?_; replace hD := And.intro hb hD; clear hb; try simp only [fresh_cons, fresh_nil, and_true, ne_eq, neF] at hD) | simp only [appK, appOsK]); try simp only [go_sem, ↓reduceIte, reduceCtorEq, Nat.reduceAdd, Nat.reduceMul, Nat.reduceSub, Nat.reduceLT, Nat.reduceLeDiff, Nat.reduceEqDiff, Nat.reduceBEq, Nat.reduceBneDiff, Int.reduceToNat, Int.reduceEq, hD, hli, ie, i0, w1]) | (refine And.intro (by omega) ?_) | (refine ifI (fun hc => ?_) (fun hc => ?_) <;> first | (exfalso; omega) | skip) | (first | (apply hK; clear hK K) | ((iterate 1 (clear hK K)); apply hK; clear hK K) | ((iterate 2 (clear hK K)); apply hK; clear hK K) | ((iterate 3 (clear hK K)); apply hK; clear hK K) | ((iterate 4 (clear hK K)); apply hK; clear hK K) | ((iterate 5 (clear hK K)); apply hK; clear hK K))
        refine Rnd.sub (s.size - (i + 1)) (by omega) ((hI _ _).2 ⟨i + 1, rfl, by omega, by omega, rfl⟩) (by repeat' (first | exact rfl | exact trivial | exact int_eq (by omega) | exact int_eq (by (rw [i64_wrap] <;> omega)) | constructor))
      | false =>
        rw [q8] at a1
        cases q9 : isD (s.data.toList.getD i 0) with
        | true =>
          rw [q9] at a2
          rw [if_pos (by unfold isW; rw [q9, Bool.or_true])] at hC
          repeat' first | (with_reducible refine And.intro (by omega) ?_) | (refine SW.seq_k fun K hK => ?_) | (refine SW.block ?_) | ((first | refine SW.region ?_ | refine SW.regionD (Checked.mixed Tryz.checked) (by kernel_rfl) ?_ | refine SW.cond ?_ | refine SW.skip ?_ | refine SW.exit ?_ | refine SW.ret ?_ | refine Call.of_pure (a1) ?_ | refine ⟨_, a1, ?_⟩ | refine Call.of_pure (a2) ?_ | refine ⟨_, a2, ?_⟩ | (refine allF_i fun b hb => ?_; replace hD := And.intro hb hD; clear hb; try simp only [fresh_cons, fresh_nil, and_true, ne_eq, neF] at hD) | simp only [appK, appOsK]); try simp only [go_sem, ↓reduceIte, reduceCtorEq, Nat.reduceAdd, Nat.reduceMul, Nat.reduceSub, Nat.reduceLT, Nat.reduceLeDiff, Nat.reduceEqDiff, Nat.reduceBEq, Nat.reduceBneDiff, Int.reduceToNat, Int.reduceEq, hD, hli, ie, i0, w1]) | (refine And.intro (by omega) ?_) | (refine ifI (fun hc => ?_) (fun hc => ?_) <;> first | (exfalso; omega) | skip) | (first | (apply hK; clear hK K) | ((iterate 1 (clear hK K)); apply hK; clear hK K) | ((iterate 2 (clear hK K)); apply hK; clear hK K) | ((iterate 3 (clear hK K)); apply hK; clear hK K) | ((iterate 4 (clear hK K)); apply hK; clear hK K) | ((iterate 5 (clear hK K)); apply hK; clear hK K))
          refine Rnd.sub (s.size - (i + 1)) (by omega) ((hI _ _).2 ⟨i + 1, rfl, by omega, by omega, rfl⟩) (by repeat' (first | exact rfl | exact trivial | exact int_eq (by omega) | exact int_eq (by (rw [i64_wrap] <;> omega)) | constructor))
        | false =>
          rw [q9] at a2
          rw [if_neg (by unfold isW; rw [q8, q9]; simp), Nat.add_zero] at hC
          subst hC
          repeat' first | (with_reducible refine And.intro (by omega) ?_) | (refine SW.seq_k fun K hK => ?_) | (refine SW.block ?_) | ((first | refine SW.region ?_ | refine SW.regionD (Checked.mixed Tryz.checked) (by kernel_rfl) ?_ | refine SW.cond ?_ | refine SW.skip ?_ | refine SW.exit ?_ | refine SW.ret ?_ | refine Call.of_pure (a1) ?_ | refine ⟨_, a1, ?_⟩ | refine Call.of_pure (a2) ?_ | refine ⟨_, a2, ?_⟩ | (refine allF_i fun b hb => ?_; replace hD := And.intro hb hD; clear hb; try simp only [fresh_cons, fresh_nil, and_true, ne_eq, neF] at hD) | simp only [appK, appOsK]); try simp only [go_sem, ↓reduceIte, reduceCtorEq, Nat.reduceAdd, Nat.reduceMul, Nat.reduceSub, Nat.reduceLT, Nat.reduceLeDiff, Nat.reduceEqDiff, Nat.reduceBEq, Nat.reduceBneDiff, Int.reduceToNat, Int.reduceEq, hD, hli, ie, i0, w1]) | (refine And.intro (by omega) ?_) | (refine ifI (fun hc => ?_) (fun hc => ?_) <;> first | (exfalso; omega) | skip) | (first | (apply hK; clear hK K) | ((iterate 1 (clear hK K)); apply hK; clear hK K) | ((iterate 2 (clear hK K)); apply hK; clear hK K) | ((iterate 3 (clear hK K)); apply hK; clear hK K) | ((iterate 4 (clear hK K)); apply hK; clear hK K) | ((iterate 5 (clear hK K)); apply hK; clear hK K))
          refine ret_pure ?_; simp only [resL_tmp, resL_nil, tupOf, go_sem, ↓reduceIte, reduceCtorEq, Nat.reduceAdd, Nat.reduceMul, Nat.reduceSub, Nat.reduceLT, Nat.reduceLeDiff, Nat.reduceEqDiff, Nat.reduceBEq, Nat.reduceBneDiff, Int.reduceToNat, Int.reduceEq, hD]
    · have hli : ¬ ((i : Nat) : Int) < ((s.size : Nat) : Int) := by omega
      rw [List.drop_of_length_le (by omega)] at hC
      have hC2 : R = i := hC
      subst hC2
      repeat' first | (with_reducible refine And.intro (by omega) ?_) | (refine SW.seq_k fun K hK => ?_) | (refine SW.block ?_) | ((first | refine SW.region ?_ | refine SW.regionD (Checked.mixed Tryz.checked) (by kernel_rfl) ?_ | refine SW.cond ?_ | refine SW.skip ?_ | refine SW.exit ?_ | refine SW.ret ?_ | (refine allF_i fun b hb => ?_; replace hD := And.intro hb hD; clear hb; try simp only [fresh_cons, fresh_nil, and_true, ne_eq, neF] at hD) | simp only [appK, appOsK]); try simp only [go_sem, ↓reduceIte, reduceCtorEq, Nat.reduceAdd, Nat.reduceMul, Nat.reduceSub, Nat.reduceLT, Nat.reduceLeDiff, Nat.reduceEqDiff, Nat.reduceBEq, Nat.reduceBneDiff, Int.reduceToNat, Int.reduceEq, hD, hli]) | (refine And.intro (by omega) ?_) | (refine ifI (fun hc => ?_) (fun hc => ?_) <;> first | (exfalso; omega) | skip) | (first | (apply hK; clear hK K) | ((iterate 1 (clear hK K)); apply hK; clear hK K) | ((iterate 2 (clear hK K)); apply hK; clear hK K) | ((iterate 3 (clear hK K)); apply hK; clear hK K) | ((iterate 4 (clear hK K)); apply hK; clear hK K) | ((iterate 5 (clear hK K)); apply hK; clear hK K))
      refine ret_pure ?_; simp only [resL_tmp, resL_nil, tupOf, go_sem, ↓reduceIte, reduceCtorEq, Nat.reduceAdd, Nat.reduceMul, Nat.reduceSub, Nat.reduceLT, Nat.reduceLeDiff, Nat.reduceEqDiff, Nat.reduceBEq, Nat.reduceBneDiff, Int.reduceToNat, Int.reduceEq, hD]
  | false =>
    rw [q1] at ml
    by_cases qn : isD c = true ∨ (c = 45 ∨ c = 63) ∧ isD (r.getD 0 0) = true
    · have hC0 : R = 1 + A05.runN isD (s.data.toList.drop 1) := by
        rw [hR, hd1, hcr]; unfold refN; simp only
        rw [if_neg (by rw [q1]; simp)]
        by_cases q2 : isD c = true
        · rw [if_pos q2, runN_cons, if_pos q2]
        · rw [if_neg q2, if_pos (qn.resolve_left q2)]
      clear hR
      have hd2 : s.data.toList.getD 1 0 = r.getD 0 0 := by rw [hcr]; rfl
      have md1 := digit_r (r.getD 0 0)
      have h2 : isD c = false → 2 ≤ s.size := fun q2 => by
        rcases qn with x | x
        · rw [q2] at x; cases x
        · cases r with
          | nil => exact absurd x.2 (by decide)
          | cons d r' => rw [← ls, hcr]; simp only [List.length_cons]; omega
      have ways : (isD c = true) ∨ (c = 45 ∧ isD (r.getD 0 0) = true ∧ (1 : Int) < ((s.size : Nat) : Int)) ∨ (c = 63 ∧ isD (r.getD 0 0) = true ∧ (1 : Int) < ((s.size : Nat) : Int)) := by
        cases q2 : isD c with
        | true => exact .inl rfl
        | false =>
          have h3 := h2 q2
          rcases qn with x | ⟨x | x, y⟩
          · rw [q2] at x; cases x
          · exact .inr (.inl ⟨x, y, by omega⟩)
          · exact .inr (.inr ⟨x, y, by omega⟩)
      rcases ways with q2 | ⟨rfl, q2, h2i⟩ | ⟨rfl, q2, h2i⟩
      focus
        rw [q2] at md
        refine Call.enter' (N := 105) (rs := [.tmp 2]) Tryz.func44 rfl rfl rfl (by decide) rfl ?_; simp only [argT]; have hD : (0 : Nat) = 0 := rfl
        repeat' first | (with_reducible refine And.intro (by omega) ?_) | (refine SW.seq_k fun K hK => ?_) | (refine SW.block ?_) | ((first | refine SW.region ?_ | refine SW.regionD (Checked.mixed Tryz.checked) (by kernel_rfl) ?_ | refine SW.cond ?_ | refine SW.skip ?_ | refine SW.exit ?_ | refine SW.ret ?_ | refine Call.of_pure (ml) ?_ | refine ⟨_, ml, ?_⟩ | refine Call.of_pure (md) ?_ | refine ⟨_, md, ?_⟩ | (refine allF_i fun b hb => ?_; replace hD := And.intro hb hD; clear hb; try simp only [fresh_cons, fresh_nil, and_true, ne_eq, neF] at hD) | simp only [appK, appOsK]); try simp only [go_sem, ↓reduceIte, reduceCtorEq, Nat.reduceAdd, Nat.reduceMul, Nat.reduceSub, Nat.reduceLT, Nat.reduceLeDiff, Nat.reduceEqDiff, Nat.reduceBEq, Nat.reduceBneDiff, Int.reduceToNat, Int.reduceEq, hD, h1i, hc]) | (refine And.intro (by omega) ?_) | (refine ifI (fun hc => ?_) (fun hc => ?_) <;> first | (exfalso; omega) | skip) | (first | (apply hK; clear hK K) | ((iterate 1 (clear hK K)); apply hK; clear hK K) | ((iterate 2 (clear hK K)); apply hK; clear hK K) | ((iterate 3 (clear hK K)); apply hK; clear hK K) | ((iterate 4 (clear hK K)); apply hK; clear hK K) | ((iterate 5 (clear hK K)); apply hK; clear hK K))
      rotate_left
      focus
        rw [q2] at md1
        have md2 : PCall Tryz.prog 58 [B8 45] (SB false) := md
        have t1 : (((45 : UInt8).toNat : Nat) : Int) = 45 := rfl
        refine Call.enter' (N := 105) (rs := [.tmp 2]) Tryz.func44 rfl rfl rfl (by decide) rfl ?_; simp only [argT]; have hD : (0 : Nat) = 0 := rfl
        repeat' first | (with_reducible refine And.intro (by omega) ?_) | (refine SW.seq_k fun K hK => ?_) | (refine SW.block ?_) | ((first | refine SW.region ?_ | refine SW.regionD (Checked.mixed Tryz.checked) (by kernel_rfl) ?_ | refine SW.cond ?_ | refine SW.skip ?_ | refine SW.exit ?_ | refine SW.ret ?_ | refine Call.of_pure (ml) ?_ | refine ⟨_, ml, ?_⟩ | refine Call.of_pure (md2) ?_ | refine ⟨_, md2, ?_⟩ | refine Call.of_pure (md1) ?_ | refine ⟨_, md1, ?_⟩ | (refine allF_i fun b hb => ?_; replace hD := And.intro hb hD; clear hb; try simp only [fresh_cons, fresh_nil, and_true, ne_eq, neF] at hD) | simp only [appK, appOsK]); try simp only [go_sem, ↓reduceIte, reduceCtorEq, Nat.reduceAdd, Nat.reduceMul, Nat.reduceSub, Nat.reduceLT, Nat.reduceLeDiff, Nat.reduceEqDiff, Nat.reduceBEq, Nat.reduceBneDiff, Int.reduceToNat, Int.reduceEq, hD, h1i, h2i, hc, hd2, t1]) | (refine And.intro (by omega) ?_) | (refine ifI (fun hc => ?_) (fun hc => ?_) <;> first | (exfalso; omega) | skip) | (first | (apply hK; clear hK K) | ((iterate 1 (clear hK K)); apply hK; clear hK K) | ((iterate 2 (clear hK K)); apply hK; clear hK K) | ((iterate 3 (clear hK K)); apply hK; clear hK K) | ((iterate 4 (clear hK K)); apply hK; clear hK K) | ((iterate 5 (clear hK K)); apply hK; clear hK K))
      rotate_left
      focus
        rw [q2] at md1
        have md2 : PCall Tryz.prog 58 [B8 63] (SB false) := md
        have t1 : ¬ (((63 : UInt8).toNat : Nat) : Int) = 45 := by decide
        have t2 : (((63 : UInt8).toNat : Nat) : Int) = 63 := rfl
        refine Call.enter' (N := 105) (rs := [.tmp 2]) Tryz.func44 rfl rfl rfl (by decide) rfl ?_; simp only [argT]; have hD : (0 : Nat) = 0 := rfl
        repeat' first | (with_reducible refine And.intro (by omega) ?_) | (refine SW.seq_k fun K hK => ?_) | (refine SW.block ?_) | ((first | refine SW.region ?_ | refine SW.regionD (Checked.mixed Tryz.checked) (by kernel_rfl) ?_ | refine SW.cond ?_ | refine SW.skip ?_ | refine SW.exit ?_ | refine SW.ret ?_ | refine Call.of_pure (ml) ?_ | refine ⟨_, ml, ?_⟩ | refine Call.of_pure (md2) ?_ | refine ⟨_, md2, ?_⟩ | refine Call.of_pure (md1) ?_ | refine ⟨_, md1, ?_⟩ | (refine allF_i fun b hb => ?_; replace hD := And.intro hb hD; clear hb; try simp only [fresh_cons, fresh_nil, and_true, ne_eq, neF] at hD) | simp only [appK, appOsK]); try simp only [go_sem, ↓reduceIte, reduceCtorEq, Nat.reduceAdd, Nat.reduceMul, Nat.reduceSub, Nat.reduceLT, Nat.reduceLeDiff, Nat.reduceEqDiff, Nat.reduceBEq, Nat.reduceBneDiff, Int.reduceToNat, Int.reduceEq, hD, h1i, h2i, hc, hd2, t1, t2]) | (refine And.intro (by omega) ?_) | (refine ifI (fun hc => ?_) (fun hc => ?_) <;> first | (exfalso; omega) | skip) | (first | (apply hK; clear hK K) | ((iterate 1 (clear hK K)); apply hK; clear hK K) | ((iterate 2 (clear hK K)); apply hK; clear hK K) | ((iterate 3 (clear hK K)); apply hK; clear hK K) | ((iterate 4 (clear hK K)); apply hK; clear hK K) | ((iterate 5 (clear hK K)); apply hK; clear hK K))
      rotate_left
      all_goals
        obtain ⟨I, hI⟩ : ∃ I : Nat → St → Prop, ∀ k S, I k S ↔ (∃ (i : Nat), k = s.size - i ∧ 1 ≤ i ∧ i ≤ s.size ∧ R = i + A05.runN isD (s.data.toList.drop i) ∧ S = ⟨[(0, Str s), (4, I64 i)], []⟩) := ⟨fun k S => _, fun _ _ => Iff.rfl⟩
        refine SW.loop' I (s.size - 1) ((hI _ _).2 ⟨1, rfl, Nat.le_refl _, h1, hC0, rfl⟩) (by repeat' (first | exact rfl | exact trivial | exact int_eq (by omega) | exact int_eq (by (rw [i64_wrap] <;> omega)) | constructor)) ?_
        clear hC0
        intro k S hIn
        obtain ⟨i, rfl, hi1, hi, hC, rfl⟩ := (hI _ _).1 hIn
        clear hIn
        have ie : ((i : Nat) : Int).toNat = i := Int.toNat_natCast _
        have i0 : (0 : Int) ≤ ((i : Nat) : Int) := by omega
        by_cases hlt : i < s.size
        · have hli : ((i : Nat) : Int) < ((s.size : Nat) : Int) := by omega
          have w1 : IntKind.i64.wrap ((i : Int) + 1) = ((i + 1 : Nat) : Int) := by rw [i64_wrap (by omega) (by omega)]; omega
          rw [drop_cons (by omega), runN_cons] at hC
          have a1 := digit_r (s.data.toList.getD i 0)
          cases q9 : isD (s.data.toList.getD i 0) with
          | true =>
            rw [q9] at a1
            rw [q9, if_pos rfl] at hC
            repeat' first | (with_reducible refine And.intro (by omega) ?_) | (refine SW.seq_k fun K hK => ?_) | (refine SW.block ?_) | ((first | refine SW.region ?_ | refine SW.regionD (Checked.mixed Tryz.checked) (by kernel_rfl) ?_ | refine SW.cond ?_ | refine SW.skip ?_ | refine SW.exit ?_ | refine SW.ret ?_ | refine Call.of_pure (a1) ?_ | refine ⟨_, a1, ?_⟩ | (refine allF_i fun b hb => ?_; replace hD := And.intro hb hD; clear hb; try simp only [fresh_cons, fresh_nil, and_true, ne_eq, neF] at hD) | simp only [appK, appOsK]); try simp only [go_sem, ↓reduceIte, reduceCtorEq, Nat.reduceAdd, Nat.reduceMul, Nat.reduceSub, Nat.reduceLT, Nat.reduceLeDiff, Nat.reduceEqDiff, Nat.reduceBEq, Nat.reduceBneDiff, Int.reduceToNat, Int.reduceEq, hD, hli, ie, i0, w1]) | (refine And.intro (by omega) ?_) | (refine ifI (fun hc => ?_) (fun hc => ?_) <;> first | (exfalso; omega) | skip) | (first | (apply hK; clear hK K) | ((iterate 1 (clear hK K)); apply hK; clear hK K) | ((iterate 2 (clear hK K)); apply hK; clear hK K) | ((iterate 3 (clear hK K)); apply hK; clear hK K) | ((iterate 4 (clear hK K)); apply hK; clear hK K) | ((iterate 5 (clear hK K)); apply hK; clear hK K))
            refine Rnd.sub (s.size - (i + 1)) (by omega) ((hI _ _).2 ⟨i + 1, rfl, by omega, by omega, by omega, rfl⟩) (by repeat' (first | exact rfl | exact trivial | exact int_eq (by omega) | exact int_eq (by (rw [i64_wrap] <;> omega)) | constructor))
          | false =>
            rw [q9] at a1
            rw [q9, if_neg (by simp), Nat.add_zero] at hC
            subst hC
            repeat' first | (with_reducible refine And.intro (by omega) ?_) | (refine SW.seq_k fun K hK => ?_) | (refine SW.block ?_) | ((first | refine SW.region ?_ | refine SW.regionD (Checked.mixed Tryz.checked) (by kernel_rfl) ?_ | refine SW.cond ?_ | refine SW.skip ?_ | refine SW.exit ?_ | refine SW.ret ?_ | refine Call.of_pure (a1) ?_ | refine ⟨_, a1, ?_⟩ | (refine allF_i fun b hb => ?_; replace hD := And.intro hb hD; clear hb; try simp only [fresh_cons, fresh_nil, and_true, ne_eq, neF] at hD) | simp only [appK, appOsK]); try simp only [go_sem, ↓reduceIte, reduceCtorEq, Nat.reduceAdd, Nat.reduceMul, Nat.reduceSub, Nat.reduceLT, Nat.reduceLeDiff, Nat.reduceEqDiff, Nat.reduceBEq, Nat.reduceBneDiff, Int.reduceToNat, Int.reduceEq, hD, hli, ie, i0, w1]) | (refine And.intro (by omega) ?_) | (refine ifI (fun hc => ?_) (fun hc => ?_) <;> first | (exfalso; omega) | skip) | (first | (apply hK; clear hK K) | ((iterate 1 (clear hK K)); apply hK; clear hK K) | ((iterate 2 (clear hK K)); apply hK; clear hK K) | ((iterate 3 (clear hK K)); apply hK; clear hK K) | ((iterate 4 (clear hK K)); apply hK; clear hK K) | ((iterate 5 (clear hK K)); apply hK; clear hK K))
            refine ret_pure ?_; simp only [resL_tmp, resL_nil, tupOf, go_sem, ↓reduceIte, reduceCtorEq, Nat.reduceAdd, Nat.reduceMul, Nat.reduceSub, Nat.reduceLT, Nat.reduceLeDiff, Nat.reduceEqDiff, Nat.reduceBEq, Nat.reduceBneDiff, Int.reduceToNat, Int.reduceEq, hD]
        · have hli : ¬ ((i : Nat) : Int) < ((s.size : Nat) : Int) := by omega
          rw [List.drop_of_length_le (by omega)] at hC
          have hC2 : R = i := hC
          subst hC2
          repeat' first | (with_reducible refine And.intro (by omega) ?_) | (refine SW.seq_k fun K hK => ?_) | (refine SW.block ?_) | ((first | refine SW.region ?_ | refine SW.regionD (Checked.mixed Tryz.checked) (by kernel_rfl) ?_ | refine SW.cond ?_ | refine SW.skip ?_ | refine SW.exit ?_ | refine SW.ret ?_ | (refine allF_i fun b hb => ?_; replace hD := And.intro hb hD; clear hb; try simp only [fresh_cons, fresh_nil, and_true, ne_eq, neF] at hD) | simp only [appK, appOsK]); try simp only [go_sem, ↓reduceIte, reduceCtorEq, Nat.reduceAdd, Nat.reduceMul, Nat.reduceSub, Nat.reduceLT, Nat.reduceLeDiff, Nat.reduceEqDiff, Nat.reduceBEq, Nat.reduceBneDiff, Int.reduceToNat, Int.reduceEq, hD, hli]) | (refine And.intro (by omega) ?_) | (refine ifI (fun hc => ?_) (fun hc => ?_) <;> first | (exfalso; omega) | skip) | (first | (apply hK; clear hK K) | ((iterate 1 (clear hK K)); apply hK; clear hK K) | ((iterate 2 (clear hK K)); apply hK; clear hK K) | ((iterate 3 (clear hK K)); apply hK; clear hK K) | ((iterate 4 (clear hK K)); apply hK; clear hK K) | ((iterate 5 (clear hK K)); apply hK; clear hK K))
          refine ret_pure ?_; simp only [resL_tmp, resL_nil, tupOf, go_sem, ↓reduceIte, reduceCtorEq, Nat.reduceAdd, Nat.reduceMul, Nat.reduceSub, Nat.reduceLT, Nat.reduceLeDiff, Nat.reduceEqDiff, Nat.reduceBEq, Nat.reduceBneDiff, Int.reduceToNat, Int.reduceEq, hD]
    · have q2 : isD c = false := by
        cases hx : isD c with
        | false => rfl
        | true => exact absurd (.inl hx) qn
      have q3 : ¬ ((c = 45 ∨ c = 63) ∧ isD (r.getD 0 0) = true) := fun x => qn (.inr x)
      rw [q2] at md
      by_cases q4 : c = 34
      · have hC0 : R = quoR (34 :: r) := by
          rw [hR, hcr, q4]; unfold refN; simp only; rw [q4] at q1 q2 q3; rw [if_neg (by rw [q1]; simp), if_neg (by rw [q2]; simp), if_neg q3]; rfl
        clear hR
        have c1 : ¬ ((c.toNat : Nat) : Int) = 45 := by rw [q4]; decide
        have c2 : ¬ ((c.toNat : Nat) : Int) = 63 := by rw [q4]; decide
        have c3 : ((c.toNat : Nat) : Int) = 34 := by rw [q4]; rfl
        subst q4
        have t1 : ¬ (((34 : UInt8).toNat : Nat) : Int) = 45 := by decide
        have t2 : ¬ (((34 : UInt8).toNat : Nat) : Int) = 63 := by decide
        have t3 : (((34 : UInt8).toNat : Nat) : Int) = 34 := rfl
        refine Call.enter' (N := 105) (rs := [.tmp 2]) Tryz.func44 rfl rfl rfl (by decide) rfl ?_; simp only [argT]; have hD : (0 : Nat) = 0 := rfl
        repeat' first | (with_reducible refine And.intro (by omega) ?_) | (refine SW.seq_k fun K hK => ?_) | (refine SW.block ?_) | ((first | refine SW.region ?_ | refine SW.regionD (Checked.mixed Tryz.checked) (by kernel_rfl) ?_ | refine SW.cond ?_ | refine SW.skip ?_ | refine SW.exit ?_ | refine SW.ret ?_ | refine Call.of_pure (ml) ?_ | refine ⟨_, ml, ?_⟩ | refine Call.of_pure (md) ?_ | refine ⟨_, md, ?_⟩ | (refine allF_i fun b hb => ?_; replace hD := And.intro hb hD; clear hb; try simp only [fresh_cons, fresh_nil, and_true, ne_eq, neF] at hD) | simp only [appK, appOsK]); try simp only [go_sem, ↓reduceIte, reduceCtorEq, Nat.reduceAdd, Nat.reduceMul, Nat.reduceSub, Nat.reduceLT, Nat.reduceLeDiff, Nat.reduceEqDiff, Nat.reduceBEq, Nat.reduceBneDiff, Int.reduceToNat, Int.reduceEq, hD, h1i, hc, t1, t2, t3]) | (refine And.intro (by omega) ?_) | (refine ifI (fun hc => ?_) (fun hc => ?_) <;> first | (exfalso; omega) | skip) | (first | (apply hK; clear hK K) | ((iterate 1 (clear hK K)); apply hK; clear hK K) | ((iterate 2 (clear hK K)); apply hK; clear hK K) | ((iterate 3 (clear hK K)); apply hK; clear hK K) | ((iterate 4 (clear hK K)); apply hK; clear hK K) | ((iterate 5 (clear hK K)); apply hK; clear hK K))
        obtain ⟨I, hI⟩ : ∃ I : Nat → St → Prop, ∀ k S, I k S ↔ (∃ (n : Nat), k = 803 - n ∧ 2 ≤ n ∧ n ≤ 803 ∧ n ≤ s.size + 2 ∧ (∀ m, 2 ≤ m → m < n → m ≤ s.size → ¬ okT (34 :: r) m) ∧ S = ⟨[(0, Str s), (4, I64 n)], []⟩) := ⟨fun k S => _, fun _ _ => Iff.rfl⟩
        refine SW.loop' I 801 ((hI _ _).2 ⟨2, rfl, by omega, by omega, by omega, fun m a b _ => absurd a (by omega), rfl⟩) (by repeat' (first | exact rfl | exact trivial | exact int_eq (by omega) | exact int_eq (by (rw [i64_wrap] <;> omega)) | constructor)) ?_
        intro k S hIn
        obtain ⟨n, rfl, hn2, hn8, hns, hno, rfl⟩ := (hI _ _).1 hIn
        clear hIn
        have ie : ((n : Nat) : Int).toNat = n := Int.toNat_natCast _
        have i0 : (0 : Int) ≤ ((n : Nat) : Int) := by omega
        by_cases ha : n ≤ s.size
        · have hai : ((n : Nat) : Int) ≤ ((s.size : Nat) : Int) := by omega
          by_cases hb : n ≤ 802
          · have hbi : ((n : Nat) : Int) ≤ 802 := by omega
            have w1 : IntKind.i64.wrap ((n : Int) + 1) = ((n + 1 : Nat) : Int) := by rw [i64_wrap (by omega) (by omega)]; omega
            have w2 : IntKind.i64.wrap ((n : Int) - 1) = ((n - 1 : Nat) : Int) := by rw [i64_wrap (by omega) (by omega)]; omega
            have j0 : (0 : Int) ≤ ((n - 1 : Nat) : Int) := by omega
            have j1 : ((n - 1 : Nat) : Int) < ((s.size : Nat) : Int) := by omega
            have je : ((n - 1 : Nat) : Int).toNat = n - 1 := Int.toNat_natCast _
            by_cases hq : s.data.toList.getD (n - 1) 0 = 34
            · have hqi : ((s.data.toList.getD (n - 1) 0).toNat : Int) = 34 := by rw [hq]; rfl
              have em : s.extract 0 n = mkB ((34 :: r).take n) := by rw [ext_mk, hcr]
              have pr := parse_r (s.extract 0 n) (by rw [em, mkB_size, List.length_take, List.length_cons]; omega)
              by_cases hp : (parseV (s.extract 0 n)).2 = 0
              · have hR : R = n := by rw [hC0]; exact quo_found (by omega) (by omega) (by rw [← em]; exact hp)
                subst hR
                repeat' first | (with_reducible refine And.intro (by omega) ?_) | (refine SW.seq_k fun K hK => ?_) | (refine SW.block ?_) | ((first | refine SW.region ?_ | refine SW.regionD (Checked.mixed Tryz.checked) (by kernel_rfl) ?_ | refine SW.cond ?_ | refine SW.skip ?_ | refine SW.exit ?_ | refine SW.ret ?_ | refine Call.of_pure (pr) ?_ | refine ⟨_, pr, ?_⟩ | (refine allF_i fun b hb => ?_; replace hD := And.intro hb hD; clear hb; try simp only [fresh_cons, fresh_nil, and_true, ne_eq, neF] at hD) | simp only [appK, appOsK]); try simp only [go_sem, ↓reduceIte, reduceCtorEq, Nat.reduceAdd, Nat.reduceMul, Nat.reduceSub, Nat.reduceLT, Nat.reduceLeDiff, Nat.reduceEqDiff, Nat.reduceBEq, Nat.reduceBneDiff, Int.reduceToNat, Int.reduceEq, hD, hai, hbi, ie, i0, w1, w2, j0, j1, je, hqi, hp]) | (refine And.intro (by omega) ?_) | (refine ifI (fun hc => ?_) (fun hc => ?_) <;> first | (exfalso; omega) | skip) | (first | (apply hK; clear hK K) | ((iterate 1 (clear hK K)); apply hK; clear hK K) | ((iterate 2 (clear hK K)); apply hK; clear hK K) | ((iterate 3 (clear hK K)); apply hK; clear hK K) | ((iterate 4 (clear hK K)); apply hK; clear hK K) | ((iterate 5 (clear hK K)); apply hK; clear hK K))
                refine ret_pure ?_; simp only [resL_tmp, resL_nil, tupOf, go_sem, ↓reduceIte, reduceCtorEq, Nat.reduceAdd, Nat.reduceMul, Nat.reduceSub, Nat.reduceLT, Nat.reduceLeDiff, Nat.reduceEqDiff, Nat.reduceBEq, Nat.reduceBneDiff, Int.reduceToNat, Int.reduceEq, hD]
              · have hno2 : ∀ m, 2 ≤ m → m < n + 1 → m ≤ s.size → ¬ okT (34 :: r) m := fun m a b c => by
                  rcases Nat.lt_or_ge m n with h | h
                  · exact hno m a h c
                  · obtain rfl : m = n := by omega
                    rintro ⟨_, y⟩
                    rw [em] at hp
                    exact hp y
                repeat' first | (with_reducible refine And.intro (by omega) ?_) | (refine SW.seq_k fun K hK => ?_) | (refine SW.block ?_) | ((first | refine SW.region ?_ | refine SW.regionD (Checked.mixed Tryz.checked) (by kernel_rfl) ?_ | refine SW.cond ?_ | refine SW.skip ?_ | refine SW.exit ?_ | refine SW.ret ?_ | refine Call.of_pure (pr) ?_ | refine ⟨_, pr, ?_⟩ | (refine allF_i fun b hb => ?_; replace hD := And.intro hb hD; clear hb; try simp only [fresh_cons, fresh_nil, and_true, ne_eq, neF] at hD) | simp only [appK, appOsK]); try simp only [go_sem, ↓reduceIte, reduceCtorEq, Nat.reduceAdd, Nat.reduceMul, Nat.reduceSub, Nat.reduceLT, Nat.reduceLeDiff, Nat.reduceEqDiff, Nat.reduceBEq, Nat.reduceBneDiff, Int.reduceToNat, Int.reduceEq, hD, hai, hbi, ie, i0, w1, w2, j0, j1, je, hqi, hp]) | (refine And.intro (by omega) ?_) | (refine ifI (fun hc => ?_) (fun hc => ?_) <;> first | (exfalso; omega) | skip) | (first | (apply hK; clear hK K) | ((iterate 1 (clear hK K)); apply hK; clear hK K) | ((iterate 2 (clear hK K)); apply hK; clear hK K) | ((iterate 3 (clear hK K)); apply hK; clear hK K) | ((iterate 4 (clear hK K)); apply hK; clear hK K) | ((iterate 5 (clear hK K)); apply hK; clear hK K))
                refine Rnd.drop (Rnd.sub (803 - (n + 1)) (by omega) ((hI _ _).2 ⟨n + 1, rfl, by omega, by omega, by omega, hno2, rfl⟩) (by repeat' (first | exact rfl | exact trivial | exact int_eq (by omega) | exact int_eq (by (rw [i64_wrap] <;> omega)) | constructor)))
            · have hqi : ¬ ((s.data.toList.getD (n - 1) 0).toNat : Int) = 34 := fun x => hq (u8_of (d := 34) x)
              have hno2 : ∀ m, 2 ≤ m → m < n + 1 → m ≤ s.size → ¬ okT (34 :: r) m := fun m a b c => by
                rcases Nat.lt_or_ge m n with h | h
                · exact hno m a h c
                · obtain rfl : m = n := by omega
                  rintro ⟨y, _⟩
                  rw [hcr] at hq
                  exact hq y
              repeat' first | (with_reducible refine And.intro (by omega) ?_) | (refine SW.seq_k fun K hK => ?_) | (refine SW.block ?_) | ((first | refine SW.region ?_ | refine SW.regionD (Checked.mixed Tryz.checked) (by kernel_rfl) ?_ | refine SW.cond ?_ | refine SW.skip ?_ | refine SW.exit ?_ | refine SW.ret ?_ | (refine allF_i fun b hb => ?_; replace hD := And.intro hb hD; clear hb; try simp only [fresh_cons, fresh_nil, and_true, ne_eq, neF] at hD) | simp only [appK, appOsK]); try simp only [go_sem, ↓reduceIte, reduceCtorEq, Nat.reduceAdd, Nat.reduceMul, Nat.reduceSub, Nat.reduceLT, Nat.reduceLeDiff, Nat.reduceEqDiff, Nat.reduceBEq, Nat.reduceBneDiff, Int.reduceToNat, Int.reduceEq, hD, hai, hbi, ie, i0, w1, w2, j0, j1, je, hqi]) | (refine And.intro (by omega) ?_) | (refine ifI (fun hc => ?_) (fun hc => ?_) <;> first | (exfalso; omega) | skip) | (first | (apply hK; clear hK K) | ((iterate 1 (clear hK K)); apply hK; clear hK K) | ((iterate 2 (clear hK K)); apply hK; clear hK K) | ((iterate 3 (clear hK K)); apply hK; clear hK K) | ((iterate 4 (clear hK K)); apply hK; clear hK K) | ((iterate 5 (clear hK K)); apply hK; clear hK K))
              refine Rnd.sub (803 - (n + 1)) (by omega) ((hI _ _).2 ⟨n + 1, rfl, by omega, by omega, by omega, hno2, rfl⟩) (by repeat' (first | exact rfl | exact trivial | exact int_eq (by omega) | exact int_eq (by (rw [i64_wrap] <;> omega)) | constructor))
          · have hbi : ¬ ((n : Nat) : Int) ≤ 802 := by omega
            have hR : R = 0 := by rw [hC0]; exact quo_none fun m a b c => hno m a (by omega) (by omega)
            subst hR
            repeat' first | (with_reducible refine And.intro (by omega) ?_) | (refine SW.seq_k fun K hK => ?_) | (refine SW.block ?_) | ((first | refine SW.region ?_ | refine SW.regionD (Checked.mixed Tryz.checked) (by kernel_rfl) ?_ | refine SW.cond ?_ | refine SW.skip ?_ | refine SW.exit ?_ | refine SW.ret ?_ | (refine allF_i fun b hb => ?_; replace hD := And.intro hb hD; clear hb; try simp only [fresh_cons, fresh_nil, and_true, ne_eq, neF] at hD) | simp only [appK, appOsK]); try simp only [go_sem, ↓reduceIte, reduceCtorEq, Nat.reduceAdd, Nat.reduceMul, Nat.reduceSub, Nat.reduceLT, Nat.reduceLeDiff, Nat.reduceEqDiff, Nat.reduceBEq, Nat.reduceBneDiff, Int.reduceToNat, Int.reduceEq, hD, hai, hbi]) | (refine And.intro (by omega) ?_) | (refine ifI (fun hc => ?_) (fun hc => ?_) <;> first | (exfalso; omega) | skip) | (first | (apply hK; clear hK K) | ((iterate 1 (clear hK K)); apply hK; clear hK K) | ((iterate 2 (clear hK K)); apply hK; clear hK K) | ((iterate 3 (clear hK K)); apply hK; clear hK K) | ((iterate 4 (clear hK K)); apply hK; clear hK K) | ((iterate 5 (clear hK K)); apply hK; clear hK K))
            refine ret_pure ?_; simp only [resL_tmp, resL_nil, tupOf, go_sem, ↓reduceIte, reduceCtorEq, Nat.reduceAdd, Nat.reduceMul, Nat.reduceSub, Nat.reduceLT, Nat.reduceLeDiff, Nat.reduceEqDiff, Nat.reduceBEq, Nat.reduceBneDiff, Int.reduceToNat, Int.reduceEq, hD]
        · have hai : ¬ ((n : Nat) : Int) ≤ ((s.size : Nat) : Int) := by omega
          have hR : R = 0 := by rw [hC0]; exact quo_none fun m a b c => hno m a (by omega) (by omega)
          subst hR
          repeat' first | (with_reducible refine And.intro (by omega) ?_) | (refine SW.seq_k fun K hK => ?_) | (refine SW.block ?_) | ((first | refine SW.region ?_ | refine SW.regionD (Checked.mixed Tryz.checked) (by kernel_rfl) ?_ | refine SW.cond ?_ | refine SW.skip ?_ | refine SW.exit ?_ | refine SW.ret ?_ | (refine allF_i fun b hb => ?_; replace hD := And.intro hb hD; clear hb; try simp only [fresh_cons, fresh_nil, and_true, ne_eq, neF] at hD) | simp only [appK, appOsK]); try simp only [go_sem, ↓reduceIte, reduceCtorEq, Nat.reduceAdd, Nat.reduceMul, Nat.reduceSub, Nat.reduceLT, Nat.reduceLeDiff, Nat.reduceEqDiff, Nat.reduceBEq, Nat.reduceBneDiff, Int.reduceToNat, Int.reduceEq, hD, hai]) | (refine And.intro (by omega) ?_) | (refine ifI (fun hc => ?_) (fun hc => ?_) <;> first | (exfalso; omega) | skip) | (first | (apply hK; clear hK K) | ((iterate 1 (clear hK K)); apply hK; clear hK K) | ((iterate 2 (clear hK K)); apply hK; clear hK K) | ((iterate 3 (clear hK K)); apply hK; clear hK K) | ((iterate 4 (clear hK K)); apply hK; clear hK K) | ((iterate 5 (clear hK K)); apply hK; clear hK K))
          refine ret_pure ?_; simp only [resL_tmp, resL_nil, tupOf, go_sem, ↓reduceIte, reduceCtorEq, Nat.reduceAdd, Nat.reduceMul, Nat.reduceSub, Nat.reduceLT, Nat.reduceLeDiff, Nat.reduceEqDiff, Nat.reduceBEq, Nat.reduceBneDiff, Int.reduceToNat, Int.reduceEq, hD]
      · have hC0 : R = symD s.data.toList (min 3 s.size) := by
          rw [hR, ← ls, ← symR_D, hcr]; unfold refN; simp only; rw [if_neg (by rw [q1]; simp), if_neg (by rw [q2]; simp), if_neg q3, if_neg q4]
        clear hR
        have c4 : ¬ ((c.toNat : Nat) : Int) = 34 := fun x => q4 (u8_of (d := 34) x)
        have mn : (if ((s.size : Nat) : Int) < 3 then ((s.size : Nat) : Int) else 3) = ((min 3 s.size : Nat) : Int) := by split <;> omega
        have md1 := digit_r (r.getD 0 0)
        have hd2 : s.data.toList.getD 1 0 = r.getD 0 0 := by rw [hcr]; rfl
        have ways : (c = 45 ∧ isD (r.getD 0 0) = false ∧ (1 : Int) < ((s.size : Nat) : Int)) ∨ (c = 63 ∧ isD (r.getD 0 0) = false ∧ (1 : Int) < ((s.size : Nat) : Int)) ∨ (c = 45 ∧ ¬ (1 : Int) < ((s.size : Nat) : Int)) ∨ (c = 63 ∧ ¬ (1 : Int) < ((s.size : Nat) : Int)) ∨ (¬ c = 45 ∧ ¬ c = 63) := by
          by_cases q5 : c = 45 ∨ c = 63
          · have q7 : isD (r.getD 0 0) = false := by
              cases hx : isD (r.getD 0 0) with
              | false => rfl
              | true => exact absurd ⟨q5, hx⟩ q3
            by_cases q6 : (1 : Int) < ((s.size : Nat) : Int)
            · rcases q5 with q5 | q5
              · exact .inl ⟨q5, q7, q6⟩
              · exact .inr (.inl ⟨q5, q7, q6⟩)
            · rcases q5 with q5 | q5
              · exact .inr (.inr (.inl ⟨q5, q6⟩))
              · exact .inr (.inr (.inr (.inl ⟨q5, q6⟩)))
          · exact .inr (.inr (.inr (.inr ⟨fun x => q5 (.inl x), fun x => q5 (.inr x)⟩)))
        have t1 : (((45 : UInt8).toNat : Nat) : Int) = 45 := rfl
        have t2 : ¬ (((63 : UInt8).toNat : Nat) : Int) = 45 := by decide
        have t3 : (((63 : UInt8).toNat : Nat) : Int) = 63 := rfl
        rcases ways with ⟨rfl, q7, h2i⟩ | ⟨rfl, q7, h2i⟩ | ⟨rfl, h2i⟩ | ⟨rfl, h2i⟩ | ⟨q5, q6⟩
        focus
          rw [q7] at md1
          refine Call.enter' (N := 105) (rs := [.tmp 2]) Tryz.func44 rfl rfl rfl (by decide) rfl ?_; simp only [argT]; have hD : (0 : Nat) = 0 := rfl
          repeat' first | (with_reducible refine And.intro (by omega) ?_) | (refine SW.seq_k fun K hK => ?_) | (refine SW.block ?_) | ((first | refine SW.region ?_ | refine SW.regionD (Checked.mixed Tryz.checked) (by kernel_rfl) ?_ | refine SW.cond ?_ | refine SW.skip ?_ | refine SW.exit ?_ | refine SW.ret ?_ | refine Call.of_pure (ml) ?_ | refine ⟨_, ml, ?_⟩ | refine Call.of_pure (md) ?_ | refine ⟨_, md, ?_⟩ | refine Call.of_pure (md1) ?_ | refine ⟨_, md1, ?_⟩ | (refine allF_i fun b hb => ?_; replace hD := And.intro hb hD; clear hb; try simp only [fresh_cons, fresh_nil, and_true, ne_eq, neF] at hD) | simp only [appK, appOsK]); try simp only [go_sem, ↓reduceIte, reduceCtorEq, Nat.reduceAdd, Nat.reduceMul, Nat.reduceSub, Nat.reduceLT, Nat.reduceLeDiff, Nat.reduceEqDiff, Nat.reduceBEq, Nat.reduceBneDiff, Int.reduceToNat, Int.reduceEq, hD, h1i, h2i, hc, hd2, t1, c4, mn]) | (refine And.intro (by omega) ?_) | (refine ifI (fun hc => ?_) (fun hc => ?_) <;> first | (exfalso; omega) | skip) | (first | (apply hK; clear hK K) | ((iterate 1 (clear hK K)); apply hK; clear hK K) | ((iterate 2 (clear hK K)); apply hK; clear hK K) | ((iterate 3 (clear hK K)); apply hK; clear hK K) | ((iterate 4 (clear hK K)); apply hK; clear hK K) | ((iterate 5 (clear hK K)); apply hK; clear hK K))
        rotate_left
        focus
          rw [q7] at md1
          refine Call.enter' (N := 105) (rs := [.tmp 2]) Tryz.func44 rfl rfl rfl (by decide) rfl ?_; simp only [argT]; have hD : (0 : Nat) = 0 := rfl
          repeat' first | (with_reducible refine And.intro (by omega) ?_) | (refine SW.seq_k fun K hK => ?_) | (refine SW.block ?_) | ((first | refine SW.region ?_ | refine SW.regionD (Checked.mixed Tryz.checked) (by kernel_rfl) ?_ | refine SW.cond ?_ | refine SW.skip ?_ | refine SW.exit ?_ | refine SW.ret ?_ | refine Call.of_pure (ml) ?_ | refine ⟨_, ml, ?_⟩ | refine Call.of_pure (md) ?_ | refine ⟨_, md, ?_⟩ | refine Call.of_pure (md1) ?_ | refine ⟨_, md1, ?_⟩ | (refine allF_i fun b hb => ?_; replace hD := And.intro hb hD; clear hb; try simp only [fresh_cons, fresh_nil, and_true, ne_eq, neF] at hD) | simp only [appK, appOsK]); try simp only [go_sem, ↓reduceIte, reduceCtorEq, Nat.reduceAdd, Nat.reduceMul, Nat.reduceSub, Nat.reduceLT, Nat.reduceLeDiff, Nat.reduceEqDiff, Nat.reduceBEq, Nat.reduceBneDiff, Int.reduceToNat, Int.reduceEq, hD, h1i, h2i, hc, hd2, t2, t3, c4, mn]) | (refine And.intro (by omega) ?_) | (refine ifI (fun hc => ?_) (fun hc => ?_) <;> first | (exfalso; omega) | skip) | (first | (apply hK; clear hK K) | ((iterate 1 (clear hK K)); apply hK; clear hK K) | ((iterate 2 (clear hK K)); apply hK; clear hK K) | ((iterate 3 (clear hK K)); apply hK; clear hK K) | ((iterate 4 (clear hK K)); apply hK; clear hK K) | ((iterate 5 (clear hK K)); apply hK; clear hK K))
        rotate_left
        focus
          refine Call.enter' (N := 105) (rs := [.tmp 2]) Tryz.func44 rfl rfl rfl (by decide) rfl ?_; simp only [argT]; have hD : (0 : Nat) = 0 := rfl
          repeat' first | (with_reducible refine And.intro (by omega) ?_) | (refine SW.seq_k fun K hK => ?_) | (refine SW.block ?_) | ((first | refine SW.region ?_ | refine SW.regionD (Checked.mixed Tryz.checked) (by kernel_rfl) ?_ | refine SW.cond ?_ | refine SW.skip ?_ | refine SW.exit ?_ | refine SW.ret ?_ | refine Call.of_pure (ml) ?_ | refine ⟨_, ml, ?_⟩ | refine Call.of_pure (md) ?_ | refine ⟨_, md, ?_⟩ | (refine allF_i fun b hb => ?_; replace hD := And.intro hb hD; clear hb; try simp only [fresh_cons, fresh_nil, and_true, ne_eq, neF] at hD) | simp only [appK, appOsK]); try simp only [go_sem, ↓reduceIte, reduceCtorEq, Nat.reduceAdd, Nat.reduceMul, Nat.reduceSub, Nat.reduceLT, Nat.reduceLeDiff, Nat.reduceEqDiff, Nat.reduceBEq, Nat.reduceBneDiff, Int.reduceToNat, Int.reduceEq, hD, h1i, h2i, hc, t1, c4, mn]) | (refine And.intro (by omega) ?_) | (refine ifI (fun hc => ?_) (fun hc => ?_) <;> first | (exfalso; omega) | skip) | (first | (apply hK; clear hK K) | ((iterate 1 (clear hK K)); apply hK; clear hK K) | ((iterate 2 (clear hK K)); apply hK; clear hK K) | ((iterate 3 (clear hK K)); apply hK; clear hK K) | ((iterate 4 (clear hK K)); apply hK; clear hK K) | ((iterate 5 (clear hK K)); apply hK; clear hK K))
        rotate_left
        focus
          refine Call.enter' (N := 105) (rs := [.tmp 2]) Tryz.func44 rfl rfl rfl (by decide) rfl ?_; simp only [argT]; have hD : (0 : Nat) = 0 := rfl
          repeat' first | (with_reducible refine And.intro (by omega) ?_) | (refine SW.seq_k fun K hK => ?_) | (refine SW.block ?_) | ((first | refine SW.region ?_ | refine SW.regionD (Checked.mixed Tryz.checked) (by kernel_rfl) ?_ | refine SW.cond ?_ | refine SW.skip ?_ | refine SW.exit ?_ | refine SW.ret ?_ | refine Call.of_pure (ml) ?_ | refine ⟨_, ml, ?_⟩ | refine Call.of_pure (md) ?_ | refine ⟨_, md, ?_⟩ | (refine allF_i fun b hb => ?_; replace hD := And.intro hb hD; clear hb; try simp only [fresh_cons, fresh_nil, and_true, ne_eq, neF] at hD) | simp only [appK, appOsK]); try simp only [go_sem, ↓reduceIte, reduceCtorEq, Nat.reduceAdd, Nat.reduceMul, Nat.reduceSub, Nat.reduceLT, Nat.reduceLeDiff, Nat.reduceEqDiff, Nat.reduceBEq, Nat.reduceBneDiff, Int.reduceToNat, Int.reduceEq, hD, h1i, h2i, hc, t2, t3, c4, mn]) | (refine And.intro (by omega) ?_) | (refine ifI (fun hc => ?_) (fun hc => ?_) <;> first | (exfalso; omega) | skip) | (first | (apply hK; clear hK K) | ((iterate 1 (clear hK K)); apply hK; clear hK K) | ((iterate 2 (clear hK K)); apply hK; clear hK K) | ((iterate 3 (clear hK K)); apply hK; clear hK K) | ((iterate 4 (clear hK K)); apply hK; clear hK K) | ((iterate 5 (clear hK K)); apply hK; clear hK K))
        rotate_left
        focus
          have c1 : ¬ ((c.toNat : Nat) : Int) = 45 := fun x => q5 (u8_of (d := 45) x)
          have c2 : ¬ ((c.toNat : Nat) : Int) = 63 := fun x => q6 (u8_of (d := 63) x)
          refine Call.enter' (N := 105) (rs := [.tmp 2]) Tryz.func44 rfl rfl rfl (by decide) rfl ?_; simp only [argT]; have hD : (0 : Nat) = 0 := rfl
          repeat' first | (with_reducible refine And.intro (by omega) ?_) | (refine SW.seq_k fun K hK => ?_) | (refine SW.block ?_) | ((first | refine SW.region ?_ | refine SW.regionD (Checked.mixed Tryz.checked) (by kernel_rfl) ?_ | refine SW.cond ?_ | refine SW.skip ?_ | refine SW.exit ?_ | refine SW.ret ?_ | refine Call.of_pure (ml) ?_ | refine ⟨_, ml, ?_⟩ | refine Call.of_pure (md) ?_ | refine ⟨_, md, ?_⟩ | (refine allF_i fun b hb => ?_; replace hD := And.intro hb hD; clear hb; try simp only [fresh_cons, fresh_nil, and_true, ne_eq, neF] at hD) | simp only [appK, appOsK]); try simp only [go_sem, ↓reduceIte, reduceCtorEq, Nat.reduceAdd, Nat.reduceMul, Nat.reduceSub, Nat.reduceLT, Nat.reduceLeDiff, Nat.reduceEqDiff, Nat.reduceBEq, Nat.reduceBneDiff, Int.reduceToNat, Int.reduceEq, hD, h1i, hc, c1, c2, c4, mn]) | (refine And.intro (by omega) ?_) | (refine ifI (fun hc => ?_) (fun hc => ?_) <;> first | (exfalso; omega) | skip) | (first | (apply hK; clear hK K) | ((iterate 1 (clear hK K)); apply hK; clear hK K) | ((iterate 2 (clear hK K)); apply hK; clear hK K) | ((iterate 3 (clear hK K)); apply hK; clear hK K) | ((iterate 4 (clear hK K)); apply hK; clear hK K) | ((iterate 5 (clear hK K)); apply hK; clear hK K))
        rotate_left
        all_goals
          obtain ⟨I, hI⟩ : ∃ I : Nat → St → Prop, ∀ k S, I k S ↔ (∃ (i : Nat), k = i ∧ i ≤ s.size ∧ i ≤ 3 ∧ R = symD s.data.toList i ∧ S = ⟨[(0, Str s), (4, I64 i)], []⟩) := ⟨fun k S => _, fun _ _ => Iff.rfl⟩
          refine SW.loop' I (min 3 s.size) ((hI _ _).2 ⟨min 3 s.size, rfl, by omega, by omega, hC0, rfl⟩) (by repeat' (first | exact rfl | exact trivial | exact int_eq (by omega) | exact int_eq (by (rw [i64_wrap] <;> omega)) | constructor)) ?_
          clear hC0
          intro k S hIn
          obtain ⟨i, rfl, hi, hi3, hC, rfl⟩ := (hI _ _).1 hIn
          clear hIn
          have i0 : (0 : Int) ≤ ((k : Nat) : Int) := by omega
          cases k with
          | zero =>
            have z0 : (((0 : Nat) : Nat) : Int) = 0 := rfl
            have hC2 : R = 0 := hC
            subst hC2
            repeat' first | (with_reducible refine And.intro (by omega) ?_) | (refine SW.seq_k fun K hK => ?_) | (refine SW.block ?_) | ((first | refine SW.region ?_ | refine SW.regionD (Checked.mixed Tryz.checked) (by kernel_rfl) ?_ | refine SW.cond ?_ | refine SW.skip ?_ | refine SW.exit ?_ | refine SW.ret ?_ | (refine allF_i fun b hb => ?_; replace hD := And.intro hb hD; clear hb; try simp only [fresh_cons, fresh_nil, and_true, ne_eq, neF] at hD) | simp only [appK, appOsK]); try simp only [go_sem, ↓reduceIte, reduceCtorEq, Nat.reduceAdd, Nat.reduceMul, Nat.reduceSub, Nat.reduceLT, Nat.reduceLeDiff, Nat.reduceEqDiff, Nat.reduceBEq, Nat.reduceBneDiff, Int.reduceToNat, Int.reduceEq, hD, z0]) | (refine And.intro (by omega) ?_) | (refine ifI (fun hc => ?_) (fun hc => ?_) <;> first | (exfalso; omega) | skip) | (first | (apply hK; clear hK K) | ((iterate 1 (clear hK K)); apply hK; clear hK K) | ((iterate 2 (clear hK K)); apply hK; clear hK K) | ((iterate 3 (clear hK K)); apply hK; clear hK K) | ((iterate 4 (clear hK K)); apply hK; clear hK K) | ((iterate 5 (clear hK K)); apply hK; clear hK K))
            refine ret_pure ?_; simp only [resL_tmp, resL_nil, tupOf, go_sem, ↓reduceIte, reduceCtorEq, Nat.reduceAdd, Nat.reduceMul, Nat.reduceSub, Nat.reduceLT, Nat.reduceLeDiff, Nat.reduceEqDiff, Nat.reduceBEq, Nat.reduceBneDiff, Int.reduceToNat, Int.reduceEq, hD]
          | succ i =>
            have ie : ((i + 1 : Nat) : Int).toNat = i + 1 := Int.toNat_natCast _
            have hp : (0 : Int) < ((i + 1 : Nat) : Int) := by omega
            have il : ((i + 1 : Nat) : Int) ≤ ((s.size : Nat) : Int) := by omega
            have w1 : IntKind.i64.wrap (((i + 1 : Nat) : Int) - 1) = ((i : Nat) : Int) := by rw [i64_wrap (by omega) (by omega)]; omega
            have es : (s.extract 0 (i + 1)).data.toList = s.data.toList.take (i + 1) := by rw [extr_list, List.drop_zero, Nat.sub_zero]
            have sy := isSymbol_r (s.extract 0 (i + 1))
            rw [es] at sy
            rw [symD] at hC
            cases q9 : symB (s.data.toList.take (i + 1)) with
            | true =>
              rw [q9] at sy
              rw [q9, if_pos rfl] at hC
              subst hC
              repeat' first | (with_reducible refine And.intro (by omega) ?_) | (refine SW.seq_k fun K hK => ?_) | (refine SW.block ?_) | ((first | refine SW.region ?_ | refine SW.regionD (Checked.mixed Tryz.checked) (by kernel_rfl) ?_ | refine SW.cond ?_ | refine SW.skip ?_ | refine SW.exit ?_ | refine SW.ret ?_ | refine Call.of_pure (sy) ?_ | refine ⟨_, sy, ?_⟩ | (refine allF_i fun b hb => ?_; replace hD := And.intro hb hD; clear hb; try simp only [fresh_cons, fresh_nil, and_true, ne_eq, neF] at hD) | simp only [appK, appOsK]); try simp only [go_sem, ↓reduceIte, reduceCtorEq, Nat.reduceAdd, Nat.reduceMul, Nat.reduceSub, Nat.reduceLT, Nat.reduceLeDiff, Nat.reduceEqDiff, Nat.reduceBEq, Nat.reduceBneDiff, Int.reduceToNat, Int.reduceEq, hD, hp, il, i0, ie, w1]) | (refine And.intro (by omega) ?_) | (refine ifI (fun hc => ?_) (fun hc => ?_) <;> first | (exfalso; omega) | skip) | (first | (apply hK; clear hK K) | ((iterate 1 (clear hK K)); apply hK; clear hK K) | ((iterate 2 (clear hK K)); apply hK; clear hK K) | ((iterate 3 (clear hK K)); apply hK; clear hK K) | ((iterate 4 (clear hK K)); apply hK; clear hK K) | ((iterate 5 (clear hK K)); apply hK; clear hK K))
              refine ret_pure ?_; simp only [resL_tmp, resL_nil, tupOf, go_sem, ↓reduceIte, reduceCtorEq, Nat.reduceAdd, Nat.reduceMul, Nat.reduceSub, Nat.reduceLT, Nat.reduceLeDiff, Nat.reduceEqDiff, Nat.reduceBEq, Nat.reduceBneDiff, Int.reduceToNat, Int.reduceEq, hD]
            | false =>
              rw [q9] at sy
              rw [q9, if_neg (by simp)] at hC
              repeat' first | (with_reducible refine And.intro (by omega) ?_) | (refine SW.seq_k fun K hK => ?_) | (refine SW.block ?_) | ((first | refine SW.region ?_ | refine SW.regionD (Checked.mixed Tryz.checked) (by kernel_rfl) ?_ | refine SW.cond ?_ | refine SW.skip ?_ | refine SW.exit ?_ | refine SW.ret ?_ | refine Call.of_pure (sy) ?_ | refine ⟨_, sy, ?_⟩ | (refine allF_i fun b hb => ?_; replace hD := And.intro hb hD; clear hb; try simp only [fresh_cons, fresh_nil, and_true, ne_eq, neF] at hD) | simp only [appK, appOsK]); try simp only [go_sem, ↓reduceIte, reduceCtorEq, Nat.reduceAdd, Nat.reduceMul, Nat.reduceSub, Nat.reduceLT, Nat.reduceLeDiff, Nat.reduceEqDiff, Nat.reduceBEq, Nat.reduceBneDiff, Int.reduceToNat, Int.reduceEq, hD, hp, il, i0, ie, w1]) | (refine And.intro (by omega) ?_) | (refine ifI (fun hc => ?_) (fun hc => ?_) <;> first | (exfalso; omega) | skip) | (first | (apply hK; clear hK K) | ((iterate 1 (clear hK K)); apply hK; clear hK K) | ((iterate 2 (clear hK K)); apply hK; clear hK K) | ((iterate 3 (clear hK K)); apply hK; clear hK K) | ((iterate 4 (clear hK K)); apply hK; clear hK K) | ((iterate 5 (clear hK K)); apply hK; clear hK K))
              refine Rnd.sub i (by omega) ((hI _ _).2 ⟨i, rfl, by omega, by omega, hC, rfl⟩) (by repeat' (first | exact rfl | exact trivial | exact int_eq (by omega) | exact int_eq (by (rw [i64_wrap] <;> omega)) | constructor))
end Go.Proofs.YtajbifibhgppfaaGreatDoor
/- Contracts: Tokens of the reference. -/
set_option linter.unusedSimpArgs false
set_option linter.unusedVariables false
set_option linter.unusedSectionVars false
namespace Go.Ab.A05
open Go Go.Ab Go.Ab.A01 Go.Proofs.YtajbifibhgppfaaGreatDoor
theorem lexF_white {g : Nat} {s : List UInt8} {i : Nat} {acc : List Tok} (hi : i < s.length) (hg : s.length ≤ i + g) (hw : white (s.getD i 0) = true) : lexF g s i acc = lexF g s (i + 1) acc := by
  cases g with
  | zero => omega
  | succ g =>
    conv => lhs; rw [lexF, if_neg (by omega), if_pos hw]
    exact lexF_fuel g s _ acc (g + 1) (by omega) (by omega)
theorem lexF_hash {g : Nat} {s : List UInt8} {i : Nat} {acc : List Tok} (hi : i < s.length) (hg : s.length ≤ i + g) (h35 : s.getD i 0 = 35) : lexF g s i acc = lexF g s (i + lineN (s.drop i)) acc := by
  have hp : 1 ≤ lineN (s.drop i) := by
    rw [drop_cons hi, lineN_cons, if_neg (by rw [h35]; decide)]
    omega
  cases g with
  | zero => omega
  | succ g =>
    conv => lhs; rw [lexF, if_neg (by omega), if_neg (by rw [h35]; decide), if_pos h35]
    exact lexF_fuel g s _ acc (g + 1) (by omega) (by omega)
theorem refN_le (l : List UInt8) : refN l ≤ l.length := by
  obtain ⟨_, h⟩ := token_ref l
  have hf := firstN_le l
  cases l with
  | nil => exact Nat.le_refl _
  | cons c r =>
    unfold refN
    simp only
    unfold firstN at hf
    simp only at hf
    split
    · exact runN_le _ _
    · split
      · exact runN_le _ _
      · split
        · have := runN_le isD r
          rw [List.length_cons]
          omega
        · split
          · split
            · have := (qF_le r.length 1 r (Nat.le_refl _)).1
              rw [List.length_cons]
              omega
            · exact Nat.zero_le _
          · rw [← symN_R]
            exact symN_le _
end Go.Ab.A05
namespace Go.Proofs.YtajbifibhgppfaaGreatDoor
open Go Go.Ab Go.Ab.A01 Go.Ab.A05
variable [Gl] [Tabs] [Syms]

set_option maxHeartbeats 4000000 in
set_option maxRecDepth 20000 in
theorem tokens_r (s : ByteArray) (hs : s.size ≤ 1000000) : PCall Tryz.prog 22 [Str s] (tokR (tokensS s)) := by
  have ls : s.data.toList.length = s.size := Array.length_toList
  by_cases hbig : 65536 < s.size
  · have hbi : (65536 : Int) < ((s.size : Nat) : Int) := by omega
    have e : tokensS s = ([], 0, 0, 3) := by unfold tokensS; rw [if_pos hbig]
    rw [e]
    refine Call.enter' (N := 92) (rs := [.tmp 2, .tmp 3, .tmp 4, .tmp 5]) Tryz.func22 rfl rfl rfl (by decide) rfl ?_; simp only [argT]; have hD : (0 : Nat) = 0 := rfl
    repeat' first | (with_reducible refine And.intro (by omega) ?_) | (refine SW.seq_k fun K hK => ?_) | (refine SW.block ?_) | ((first | refine SW.region ?_ | refine SW.regionD (Checked.mixed Tryz.checked) (by kernel_rfl) ?_ | refine SW.cond ?_ | refine SW.skip ?_ | refine SW.exit ?_ | refine SW.ret ?_ | (refine allF_i fun b hb => ?_; replace hD := And.intro hb hD; clear hb; try simp only [fresh_cons, fresh_nil, and_true, ne_eq, neF] at hD) | simp only [appK, appOsK]); try simp only [go_sem, ↓reduceIte, reduceCtorEq, Nat.reduceAdd, Nat.reduceMul, Nat.reduceSub, Nat.reduceLT, Nat.reduceLeDiff, Nat.reduceEqDiff, Nat.reduceBEq, Nat.reduceBneDiff, Int.reduceToNat, Int.reduceEq, hD, hbi]) | (refine And.intro (by omega) ?_) | (refine ifI (fun hc => ?_) (fun hc => ?_) <;> first | (exfalso; omega) | skip) | (first | (apply hK; clear hK K) | ((iterate 1 (clear hK K)); apply hK; clear hK K) | ((iterate 2 (clear hK K)); apply hK; clear hK K) | ((iterate 3 (clear hK K)); apply hK; clear hK K) | ((iterate 4 (clear hK K)); apply hK; clear hK K) | ((iterate 5 (clear hK K)); apply hK; clear hK K))
    refine retQ_le (St.le_nil_fl (i := 2) (sz := 7) (f := tokF []) rfl) ?_
    simp only [resL_tmp, resL_nil, tupOf, go_sem, ↓reduceIte, reduceCtorEq, Nat.reduceAdd, Nat.reduceMul, Nat.reduceSub, Nat.reduceLT, Nat.reduceLeDiff, Nat.reduceEqDiff, Nat.reduceBEq, Nat.reduceBneDiff, Int.reduceToNat, Int.reduceEq, hD]
    rfl
  · have hbi : ¬ (65536 : Int) < ((s.size : Nat) : Int) := by omega
    obtain ⟨R, hR⟩ : ∃ R, R = tokensS s := ⟨_, rfl⟩
    rw [← hR]
    have hR0 : R = lexF s.size s.data.toList 0 [] := by rw [hR]; unfold tokensS; rw [if_neg hbig]
    clear hR
    refine Call.enter' (N := 92) (rs := [.tmp 2, .tmp 3, .tmp 4, .tmp 5]) Tryz.func22 rfl rfl rfl (by decide) rfl ?_; simp only [argT]; have hD : (0 : Nat) = 0 := rfl
    repeat' first | (with_reducible refine And.intro (by omega) ?_) | (refine SW.seq_k fun K hK => ?_) | (refine SW.block ?_) | ((first | refine SW.region ?_ | refine SW.regionD (Checked.mixed Tryz.checked) (by kernel_rfl) ?_ | refine SW.cond ?_ | refine SW.skip ?_ | refine SW.exit ?_ | refine SW.ret ?_ | (refine allF_i fun b hb => ?_; replace hD := And.intro hb hD; clear hb; try simp only [fresh_cons, fresh_nil, and_true, ne_eq, neF] at hD) | simp only [appK, appOsK]); try simp only [go_sem, ↓reduceIte, reduceCtorEq, Nat.reduceAdd, Nat.reduceMul, Nat.reduceSub, Nat.reduceLT, Nat.reduceLeDiff, Nat.reduceEqDiff, Nat.reduceBEq, Nat.reduceBneDiff, Int.reduceToNat, Int.reduceEq, hD, hbi]) | (refine And.intro (by omega) ?_) | (refine ifI (fun hc => ?_) (fun hc => ?_) <;> first | (exfalso; omega) | skip) | (first | (apply hK; clear hK K) | ((iterate 1 (clear hK K)); apply hK; clear hK K) | ((iterate 2 (clear hK K)); apply hK; clear hK K) | ((iterate 3 (clear hK K)); apply hK; clear hK K) | ((iterate 4 (clear hK K)); apply hK; clear hK K) | ((iterate 5 (clear hK K)); apply hK; clear hK K))
    obtain ⟨I, hI⟩ : ∃ I : Nat → St → Prop, ∀ k S, I k S ↔ (∃ (i : Nat) (acc : List Tok) (x : SV) (h : Heap), k = s.size - i ∧ i ≤ s.size ∧ acc.length ≤ i ∧ R = lexF s.size s.data.toList i acc ∧ Acc 7 x h [] acc.length (cellsT acc) ∧ S = ⟨[(0, Str s), (6, x), (7, I64 i)], h⟩) := ⟨fun k S => _, fun _ _ => Iff.rfl⟩
    refine SW.loop' I s.size ((hI _ _).2 ⟨0, [], _, _, rfl, Nat.zero_le _, Nat.le_refl _, hR0, .nil _ _, rfl⟩) (by repeat' (first | exact rfl | exact trivial | exact int_eq (by omega) | exact int_eq (by (rw [i64_wrap] <;> omega)) | constructor)) ?_
    clear hR0
    intro k S hIn
    obtain ⟨i, acc, x, h, rfl, hi, hacc, hC, hB, rfl⟩ := (hI _ _).1 hIn
    clear hIn
    have ie : ((i : Nat) : Int).toNat = i := Int.toNat_natCast _
    have i0 : (0 : Int) ≤ ((i : Nat) : Int) := by omega
    have il : ((i : Nat) : Int) ≤ ((s.size : Nat) : Int) := by omega
    by_cases hlt : i < s.size
    · have hli : ((i : Nat) : Int) < ((s.size : Nat) : Int) := by omega
      have w1 : IntKind.i64.wrap ((i : Int) + 1) = ((i + 1 : Nat) : Int) := by rw [i64_wrap (by omega) (by omega)]; omega
      by_cases h1 : s.data.toList.getD i 0 = 32 ∨ s.data.toList.getD i 0 = 9 ∨ s.data.toList.getD i 0 = 10
      · rw [lexF_white (by omega) (by omega) (by rcases h1 with h1 | h1 | h1 <;> rw [h1] <;> rfl)] at hC
        rcases h1 with hb | hb | hb
        · have t1 : (((32 : UInt8).toNat : Nat) : Int) = 32 := rfl
          have t2 := t1
          have t3 := t1
          repeat' first | (with_reducible refine And.intro (by omega) ?_) | (refine SW.seq_k fun K hK => ?_) | (refine SW.block ?_) | ((first | refine SW.region ?_ | refine SW.regionD (Checked.mixed Tryz.checked) (by kernel_rfl) ?_ | refine SW.cond ?_ | refine SW.skip ?_ | refine SW.exit ?_ | refine SW.ret ?_ | (refine allF_i fun b hb => ?_; replace hD := And.intro hb hD; clear hb; try simp only [fresh_cons, fresh_nil, and_true, ne_eq, neF] at hD) | simp only [appK, appOsK]); try simp only [go_sem, ↓reduceIte, reduceCtorEq, Nat.reduceAdd, Nat.reduceMul, Nat.reduceSub, Nat.reduceLT, Nat.reduceLeDiff, Nat.reduceEqDiff, Nat.reduceBEq, Nat.reduceBneDiff, Int.reduceToNat, Int.reduceEq, hD, hli, ie, i0, w1, hb, t1, t2, t3]) | (refine And.intro (by omega) ?_) | (refine ifI (fun hc => ?_) (fun hc => ?_) <;> first | (exfalso; omega) | skip) | (first | (apply hK; clear hK K) | ((iterate 1 (clear hK K)); apply hK; clear hK K) | ((iterate 2 (clear hK K)); apply hK; clear hK K) | ((iterate 3 (clear hK K)); apply hK; clear hK K) | ((iterate 4 (clear hK K)); apply hK; clear hK K) | ((iterate 5 (clear hK K)); apply hK; clear hK K))
          refine Rnd.sub (s.size - (i + 1)) (by omega) ((hI _ _).2 ⟨i + 1, acc, x, h, rfl, by omega, by omega, hC, hB, rfl⟩) (by repeat' (first | exact rfl | exact trivial | exact int_eq (by omega) | exact int_eq (by (rw [i64_wrap] <;> omega)) | constructor))
        · have t1 : ¬ (((9 : UInt8).toNat : Nat) : Int) = 32 := by decide
          have t2 : (((9 : UInt8).toNat : Nat) : Int) = 9 := rfl
          have t3 := t2
          repeat' first | (with_reducible refine And.intro (by omega) ?_) | (refine SW.seq_k fun K hK => ?_) | (refine SW.block ?_) | ((first | refine SW.region ?_ | refine SW.regionD (Checked.mixed Tryz.checked) (by kernel_rfl) ?_ | refine SW.cond ?_ | refine SW.skip ?_ | refine SW.exit ?_ | refine SW.ret ?_ | (refine allF_i fun b hb => ?_; replace hD := And.intro hb hD; clear hb; try simp only [fresh_cons, fresh_nil, and_true, ne_eq, neF] at hD) | simp only [appK, appOsK]); try simp only [go_sem, ↓reduceIte, reduceCtorEq, Nat.reduceAdd, Nat.reduceMul, Nat.reduceSub, Nat.reduceLT, Nat.reduceLeDiff, Nat.reduceEqDiff, Nat.reduceBEq, Nat.reduceBneDiff, Int.reduceToNat, Int.reduceEq, hD, hli, ie, i0, w1, hb, t1, t2, t3]) | (refine And.intro (by omega) ?_) | (refine ifI (fun hc => ?_) (fun hc => ?_) <;> first | (exfalso; omega) | skip) | (first | (apply hK; clear hK K) | ((iterate 1 (clear hK K)); apply hK; clear hK K) | ((iterate 2 (clear hK K)); apply hK; clear hK K) | ((iterate 3 (clear hK K)); apply hK; clear hK K) | ((iterate 4 (clear hK K)); apply hK; clear hK K) | ((iterate 5 (clear hK K)); apply hK; clear hK K))
          refine Rnd.sub (s.size - (i + 1)) (by omega) ((hI _ _).2 ⟨i + 1, acc, x, h, rfl, by omega, by omega, hC, hB, rfl⟩) (by repeat' (first | exact rfl | exact trivial | exact int_eq (by omega) | exact int_eq (by (rw [i64_wrap] <;> omega)) | constructor))
        · have t1 : ¬ (((10 : UInt8).toNat : Nat) : Int) = 32 := by decide
          have t2 : ¬ (((10 : UInt8).toNat : Nat) : Int) = 9 := by decide
          have t3 : (((10 : UInt8).toNat : Nat) : Int) = 10 := rfl
          repeat' first | (with_reducible refine And.intro (by omega) ?_) | (refine SW.seq_k fun K hK => ?_) | (refine SW.block ?_) | ((first | refine SW.region ?_ | refine SW.regionD (Checked.mixed Tryz.checked) (by kernel_rfl) ?_ | refine SW.cond ?_ | refine SW.skip ?_ | refine SW.exit ?_ | refine SW.ret ?_ | (refine allF_i fun b hb => ?_; replace hD := And.intro hb hD; clear hb; try simp only [fresh_cons, fresh_nil, and_true, ne_eq, neF] at hD) | simp only [appK, appOsK]); try simp only [go_sem, ↓reduceIte, reduceCtorEq, Nat.reduceAdd, Nat.reduceMul, Nat.reduceSub, Nat.reduceLT, Nat.reduceLeDiff, Nat.reduceEqDiff, Nat.reduceBEq, Nat.reduceBneDiff, Int.reduceToNat, Int.reduceEq, hD, hli, ie, i0, w1, hb, t1, t2, t3]) | (refine And.intro (by omega) ?_) | (refine ifI (fun hc => ?_) (fun hc => ?_) <;> first | (exfalso; omega) | skip) | (first | (apply hK; clear hK K) | ((iterate 1 (clear hK K)); apply hK; clear hK K) | ((iterate 2 (clear hK K)); apply hK; clear hK K) | ((iterate 3 (clear hK K)); apply hK; clear hK K) | ((iterate 4 (clear hK K)); apply hK; clear hK K) | ((iterate 5 (clear hK K)); apply hK; clear hK K))
          refine Rnd.sub (s.size - (i + 1)) (by omega) ((hI _ _).2 ⟨i + 1, acc, x, h, rfl, by omega, by omega, hC, hB, rfl⟩) (by repeat' (first | exact rfl | exact trivial | exact int_eq (by omega) | exact int_eq (by (rw [i64_wrap] <;> omega)) | constructor))
      · have hw : white (s.data.toList.getD i 0) = false := by
          cases hx : white (s.data.toList.getD i 0) with
          | false => rfl
          | true =>
            unfold white at hx
            simp only [Bool.or_eq_true, decide_eq_true_eq] at hx
            exact absurd hx h1
        have c1 : ¬ ((s.data.toList.getD i 0).toNat : Int) = 32 := fun x => h1 (.inl (u8_of (d := 32) x))
        have c2 : ¬ ((s.data.toList.getD i 0).toNat : Int) = 9 := fun x => h1 (.inr (.inl (u8_of (d := 9) x)))
        have c3 : ¬ ((s.data.toList.getD i 0).toNat : Int) = 10 := fun x => h1 (.inr (.inr (u8_of (d := 10) x)))
        by_cases h2 : s.data.toList.getD i 0 = 35
        · have c4 : ((s.data.toList.getD i 0).toNat : Int) = 35 := by rw [h2]; rfl
          rw [lexF_hash (by omega) (by omega) h2] at hC
          have hp : 1 ≤ lineN (s.data.toList.drop i) := by
            rw [drop_cons (by omega), lineN_cons, if_neg (by rw [h2]; decide)]
            omega
          have hle := lineN_le (s.data.toList.drop i)
          rw [List.length_drop, ls] at hle
          obtain ⟨E, hE⟩ : ∃ E, E = i + lineN (s.data.toList.drop i) := ⟨_, rfl⟩
          rw [← hE] at hC
          repeat' first | (with_reducible refine And.intro (by omega) ?_) | (refine SW.seq_k fun K hK => ?_) | (refine SW.block ?_) | ((first | refine SW.region ?_ | refine SW.regionD (Checked.mixed Tryz.checked) (by kernel_rfl) ?_ | refine SW.cond ?_ | refine SW.skip ?_ | refine SW.exit ?_ | refine SW.ret ?_ | (refine allF_i fun b hb => ?_; replace hD := And.intro hb hD; clear hb; try simp only [fresh_cons, fresh_nil, and_true, ne_eq, neF] at hD) | simp only [appK, appOsK]); try simp only [go_sem, ↓reduceIte, reduceCtorEq, Nat.reduceAdd, Nat.reduceMul, Nat.reduceSub, Nat.reduceLT, Nat.reduceLeDiff, Nat.reduceEqDiff, Nat.reduceBEq, Nat.reduceBneDiff, Int.reduceToNat, Int.reduceEq, hD, hli, ie, i0, w1, c1, c2, c3, c4]) | (refine And.intro (by omega) ?_) | (refine ifI (fun hc => ?_) (fun hc => ?_) <;> first | (exfalso; omega) | skip) | (first | (apply hK; clear hK K) | ((iterate 1 (clear hK K)); apply hK; clear hK K) | ((iterate 2 (clear hK K)); apply hK; clear hK K) | ((iterate 3 (clear hK K)); apply hK; clear hK K) | ((iterate 4 (clear hK K)); apply hK; clear hK K) | ((iterate 5 (clear hK K)); apply hK; clear hK K))
          obtain ⟨J, hJ⟩ : ∃ I : Nat → St → Prop, ∀ k S, I k S ↔ (∃ (m : Nat), k = s.size - m ∧ m ≤ s.size ∧ E = m + lineN (s.data.toList.drop m) ∧ S = ⟨[(0, Str s), (6, x), (7, I64 m)], h⟩) := ⟨fun k S => _, fun _ _ => Iff.rfl⟩
          refine SW.loop' J (s.size - i) ((hJ _ _).2 ⟨i, rfl, by omega, hE, rfl⟩) (by repeat' (first | exact rfl | exact trivial | exact int_eq (by omega) | exact int_eq (by (rw [i64_wrap] <;> omega)) | constructor)) ?_
          intro k S hIn
          obtain ⟨m, rfl, hm, hEm, rfl⟩ := (hJ _ _).1 hIn
          clear hIn
          have je : ((m : Nat) : Int).toNat = m := Int.toNat_natCast _
          have j0 : (0 : Int) ≤ ((m : Nat) : Int) := by omega
          by_cases hlm : m < s.size
          · have hlmi : ((m : Nat) : Int) < ((s.size : Nat) : Int) := by omega
            have w2 : IntKind.i64.wrap ((m : Int) + 1) = ((m + 1 : Nat) : Int) := by rw [i64_wrap (by omega) (by omega)]; omega
            rw [drop_cons (by omega), lineN_cons] at hEm
            by_cases h3 : s.data.toList.getD m 0 = 10
            · have d1 : ((s.data.toList.getD m 0).toNat : Int) = 10 := by rw [h3]; rfl
              rw [if_pos h3] at hEm
              repeat' first | (with_reducible refine And.intro (by omega) ?_) | (refine SW.seq_k fun K hK => ?_) | (refine SW.block ?_) | ((first | refine SW.region ?_ | refine SW.regionD (Checked.mixed Tryz.checked) (by kernel_rfl) ?_ | refine SW.cond ?_ | refine SW.skip ?_ | refine SW.exit ?_ | refine SW.ret ?_ | (refine allF_i fun b hb => ?_; replace hD := And.intro hb hD; clear hb; try simp only [fresh_cons, fresh_nil, and_true, ne_eq, neF] at hD) | simp only [appK, appOsK]); try simp only [go_sem, ↓reduceIte, reduceCtorEq, Nat.reduceAdd, Nat.reduceMul, Nat.reduceSub, Nat.reduceLT, Nat.reduceLeDiff, Nat.reduceEqDiff, Nat.reduceBEq, Nat.reduceBneDiff, Int.reduceToNat, Int.reduceEq, hD, hlmi, je, j0, w2, d1]) | (refine And.intro (by omega) ?_) | (refine ifI (fun hc => ?_) (fun hc => ?_) <;> first | (exfalso; omega) | skip) | (first | (apply hK; clear hK K) | ((iterate 1 (clear hK K)); apply hK; clear hK K) | ((iterate 2 (clear hK K)); apply hK; clear hK K) | ((iterate 3 (clear hK K)); apply hK; clear hK K) | ((iterate 4 (clear hK K)); apply hK; clear hK K) | ((iterate 5 (clear hK K)); apply hK; clear hK K))
              refine Rnd.sub (s.size - m) (by omega) ((hI _ _).2 ⟨m, acc, x, h, rfl, by omega, by omega, by rw [hC, hEm]; rfl, hB, rfl⟩) (by repeat' (first | exact rfl | exact trivial | exact int_eq (by omega) | exact int_eq (by (rw [i64_wrap] <;> omega)) | constructor))
            · have d1 : ¬ ((s.data.toList.getD m 0).toNat : Int) = 10 := fun x => h3 (u8_of (d := 10) x)
              rw [if_neg h3] at hEm
              repeat' first | (with_reducible refine And.intro (by omega) ?_) | (refine SW.seq_k fun K hK => ?_) | (refine SW.block ?_) | ((first | refine SW.region ?_ | refine SW.regionD (Checked.mixed Tryz.checked) (by kernel_rfl) ?_ | refine SW.cond ?_ | refine SW.skip ?_ | refine SW.exit ?_ | refine SW.ret ?_ | (refine allF_i fun b hb => ?_; replace hD := And.intro hb hD; clear hb; try simp only [fresh_cons, fresh_nil, and_true, ne_eq, neF] at hD) | simp only [appK, appOsK]); try simp only [go_sem, ↓reduceIte, reduceCtorEq, Nat.reduceAdd, Nat.reduceMul, Nat.reduceSub, Nat.reduceLT, Nat.reduceLeDiff, Nat.reduceEqDiff, Nat.reduceBEq, Nat.reduceBneDiff, Int.reduceToNat, Int.reduceEq, hD, hlmi, je, j0, w2, d1]) | (refine And.intro (by omega) ?_) | (refine ifI (fun hc => ?_) (fun hc => ?_) <;> first | (exfalso; omega) | skip) | (first | (apply hK; clear hK K) | ((iterate 1 (clear hK K)); apply hK; clear hK K) | ((iterate 2 (clear hK K)); apply hK; clear hK K) | ((iterate 3 (clear hK K)); apply hK; clear hK K) | ((iterate 4 (clear hK K)); apply hK; clear hK K) | ((iterate 5 (clear hK K)); apply hK; clear hK K))
              refine Rnd.sub (s.size - (m + 1)) (by omega) ((hJ _ _).2 ⟨m + 1, rfl, by omega, by omega, rfl⟩) (by repeat' (first | exact rfl | exact trivial | exact int_eq (by omega) | exact int_eq (by (rw [i64_wrap] <;> omega)) | constructor))
          · have hlmi : ¬ ((m : Nat) : Int) < ((s.size : Nat) : Int) := by omega
            have hEm2 : E = m := by rw [hEm, List.drop_of_length_le (by omega), lineN_nil, Nat.add_zero]
            repeat' first | (with_reducible refine And.intro (by omega) ?_) | (refine SW.seq_k fun K hK => ?_) | (refine SW.block ?_) | ((first | refine SW.region ?_ | refine SW.regionD (Checked.mixed Tryz.checked) (by kernel_rfl) ?_ | refine SW.cond ?_ | refine SW.skip ?_ | refine SW.exit ?_ | refine SW.ret ?_ | (refine allF_i fun b hb => ?_; replace hD := And.intro hb hD; clear hb; try simp only [fresh_cons, fresh_nil, and_true, ne_eq, neF] at hD) | simp only [appK, appOsK]); try simp only [go_sem, ↓reduceIte, reduceCtorEq, Nat.reduceAdd, Nat.reduceMul, Nat.reduceSub, Nat.reduceLT, Nat.reduceLeDiff, Nat.reduceEqDiff, Nat.reduceBEq, Nat.reduceBneDiff, Int.reduceToNat, Int.reduceEq, hD, hlmi]) | (refine And.intro (by omega) ?_) | (refine ifI (fun hc => ?_) (fun hc => ?_) <;> first | (exfalso; omega) | skip) | (first | (apply hK; clear hK K) | ((iterate 1 (clear hK K)); apply hK; clear hK K) | ((iterate 2 (clear hK K)); apply hK; clear hK K) | ((iterate 3 (clear hK K)); apply hK; clear hK K) | ((iterate 4 (clear hK K)); apply hK; clear hK K) | ((iterate 5 (clear hK K)); apply hK; clear hK K))
            refine Rnd.sub (s.size - m) (by omega) ((hI _ _).2 ⟨m, acc, x, h, rfl, by omega, by omega, by rw [hC, hEm2], hB, rfl⟩) (by repeat' (first | exact rfl | exact trivial | exact int_eq (by omega) | exact int_eq (by (rw [i64_wrap] <;> omega)) | constructor))
        · have c4 : ¬ ((s.data.toList.getD i 0).toNat : Int) = 35 := fun x => h2 (u8_of (d := 35) x)
          rw [lexF_at (by omega) (by omega) hw h2] at hC
          have pos := position_r s hs i
          have hpr : posR s.data.toList i = .tup [I64 (lineS (s.data.toList.take i) : Nat), I64 (1 + tailS (s.data.toList.take i) : Nat), I64 0] := by
            unfold posR
            rw [if_neg (by rintro (x | x) <;> omega), ie]
          rw [hpr] at pos
          have ed : (s.extract i s.size).data.toList = s.data.toList.drop i := ext_tail _ _
          have es : (s.extract i s.size).size = s.size - i := by rw [← len_list, ed, List.length_drop, ls]
          have lr := length_r (s.extract i s.size) (by omega) (by omega)
          rw [ed] at lr
          obtain ⟨tr1, tr2⟩ := token_ref (s.data.toList.drop i)
          have rl := refN_le (s.data.toList.drop i)
          rw [List.length_drop, ls] at rl
          have fl := firstN_le (s.data.toList.drop i)
          rw [List.length_drop, ls] at fl
          have el : ∀ n, (s.extract i (i + n)).data.toList = (s.data.toList.drop i).take n := fun n => by rw [extr_list, Nat.add_sub_cancel_left]
          have em : s.extract i (i + refN (s.data.toList.drop i)) = mkB ((s.data.toList.drop i).take (refN (s.data.toList.drop i))) := ba_ext (by rw [el, mkB_L])
          have tk := token_r (s.extract i (i + refN (s.data.toList.drop i))) (by rw [em, mkB_size, List.length_take]; omega)
          rw [el, tr1] at tk
          have a1 : IntKind.i64.wrap ((i : Int) + ((refN (s.data.toList.drop i) : Nat) : Int)) = ((i + refN (s.data.toList.drop i) : Nat) : Int) := by rw [i64_wrap (by omega) (by omega)]; omega
          have a2 : (i : Int) ≤ ((i + refN (s.data.toList.drop i) : Nat) : Int) := by omega
          have a3 : ((i + refN (s.data.toList.drop i) : Nat) : Int) ≤ ((s.size : Nat) : Int) := by omega
          have a4 : ((i + refN (s.data.toList.drop i) : Nat) : Int).toNat = i + refN (s.data.toList.drop i) := Int.toNat_natCast _
          cases ht : tokenS ((s.data.toList.drop i).take (firstN (s.data.toList.drop i))) with
          | none =>
            rw [ht] at hC tk
            simp only at hC tk
            subst hC
            repeat' first | (with_reducible refine And.intro (by omega) ?_) | (refine SW.seq_k fun K hK => ?_) | (refine SW.block ?_) | ((first | refine SW.region ?_ | refine SW.regionD (Checked.mixed Tryz.checked) (by kernel_rfl) ?_ | refine SW.cond ?_ | refine SW.skip ?_ | refine SW.exit ?_ | refine SW.ret ?_ | refine Call.of_pure (pos) ?_ | refine ⟨_, pos, ?_⟩ | refine Call.of_pure (lr) ?_ | refine ⟨_, lr, ?_⟩ | refine Call.of_pure (tk) ?_ | refine ⟨_, tk, ?_⟩ | (refine allF_i fun b hb => ?_; replace hD := And.intro hb hD; clear hb; try simp only [fresh_cons, fresh_nil, and_true, ne_eq, neF] at hD) | simp only [appK, appOsK]); try simp only [go_sem, ↓reduceIte, reduceCtorEq, Nat.reduceAdd, Nat.reduceMul, Nat.reduceSub, Nat.reduceLT, Nat.reduceLeDiff, Nat.reduceEqDiff, Nat.reduceBEq, Nat.reduceBneDiff, Int.reduceToNat, Int.reduceEq, hD, hli, ie, i0, il, w1, c1, c2, c3, c4, a1, a2, a3, a4]) | (refine And.intro (by omega) ?_) | (refine ifI (fun hc => ?_) (fun hc => ?_) <;> first | (exfalso; omega) | skip) | (first | (apply hK; clear hK K) | ((iterate 1 (clear hK K)); apply hK; clear hK K) | ((iterate 2 (clear hK K)); apply hK; clear hK K) | ((iterate 3 (clear hK K)); apply hK; clear hK K) | ((iterate 4 (clear hK K)); apply hK; clear hK K) | ((iterate 5 (clear hK K)); apply hK; clear hK K))
            refine retQ_le (St.le_nil_fl (i := 2) (sz := 7) (f := tokF []) rfl) ?_
            simp only [resL_tmp, resL_nil, tupOf, go_sem, ↓reduceIte, reduceCtorEq, Nat.reduceAdd, Nat.reduceMul, Nat.reduceSub, Nat.reduceLT, Nat.reduceLeDiff, Nat.reduceEqDiff, Nat.reduceBEq, Nat.reduceBneDiff, Int.reduceToNat, Int.reduceEq, hD]
            rfl
          | some kv =>
            obtain ⟨kk, vv⟩ := kv
            have hrf := tr2 (by rw [ht]; simp)
            rw [ht] at hC tk
            simp only at hC tk
            rw [← hrf, ← em] at hC
            have fp : 1 ≤ refN (s.data.toList.drop i) := by
              rw [hrf]
              rcases Nat.eq_zero_or_pos (firstN (s.data.toList.drop i)) with h0 | h0
              · rw [h0, List.take_zero, tokenS_nil] at ht
                cases ht
              · exact h0
            generalize lineS (s.data.toList.take i) = L at *
            generalize tailS (s.data.toList.take i) = T at *
            generalize hgn : refN (s.data.toList.drop i) = fn at *
            have ba : (acc.length + 1) * 104 ≤ 140737488355328 := by omega
            rcases hB.cases with ⟨e0, e1, rfl, rfl⟩ | ⟨b, e0, rfl, hle⟩
            · repeat' first | (with_reducible refine And.intro (by omega) ?_) | (refine SW.seq_k fun K hK => ?_) | (refine SW.block ?_) | ((first | refine SW.region ?_ | refine SW.regionD (Checked.mixed Tryz.checked) (by kernel_rfl) ?_ | refine SW.cond ?_ | refine SW.skip ?_ | refine SW.exit ?_ | refine SW.ret ?_ | refine Call.of_pure (pos) ?_ | refine ⟨_, pos, ?_⟩ | refine Call.of_pure (lr) ?_ | refine ⟨_, lr, ?_⟩ | refine Call.of_pure (tk) ?_ | refine ⟨_, tk, ?_⟩ | (refine allF_i fun b hb => ?_; replace hD := And.intro hb hD; clear hb; try simp only [fresh_cons, fresh_nil, and_true, ne_eq, neF] at hD) | simp only [appK, appOsK]); try simp only [go_sem, ↓reduceIte, reduceCtorEq, Nat.reduceAdd, Nat.reduceMul, Nat.reduceSub, Nat.reduceLT, Nat.reduceLeDiff, Nat.reduceEqDiff, Nat.reduceBEq, Nat.reduceBneDiff, Int.reduceToNat, Int.reduceEq, hD, hli, ie, i0, il, w1, c1, c2, c3, c4, a1, a2, a3, a4, ba, true_implies]) | (refine And.intro (by omega) ?_) | (refine ifI (fun hc => ?_) (fun hc => ?_) <;> first | (exfalso; omega) | skip) | (first | (apply hK; clear hK K) | ((iterate 1 (clear hK K)); apply hK; clear hK K) | ((iterate 2 (clear hK K)); apply hK; clear hK K) | ((iterate 3 (clear hK K)); apply hK; clear hK K) | ((iterate 4 (clear hK K)); apply hK; clear hK K) | ((iterate 5 (clear hK K)); apply hK; clear hK K))
              obtain rfl : acc = [] := List.eq_nil_of_length_eq_zero e0
              obtain ⟨hB2, hle2⟩ := Acc.keep (sz := 7) (n := 1) (b := b) (cs := tokC ⟨kk, s.extract i (i + fn), vv, ((L : Nat) : Int), ((1 + T : Nat) : Int)⟩) (h' := _) (List.mem_cons_self ..) rfl
              refine Rnd.le (hle2 _) ?_
              refine Rnd.sub (s.size - (i + fn)) (by omega) ((hI _ _).2 ⟨i + fn, [] ++ [⟨kk, s.extract i (i + fn), vv, ((L : Nat) : Int), ((1 + T : Nat) : Int)⟩], _, _, rfl, by omega, by rw [List.length_append]; simp only [List.length_cons, List.length_nil]; omega, hC, hB2, rfl⟩) (by repeat' (first | exact rfl | exact trivial | exact int_eq (by omega) | exact int_eq (by (rw [i64_wrap] <;> omega)) | constructor))
            · refine SW.le (hle _) ?_
              repeat' first | (with_reducible refine And.intro (by omega) ?_) | (refine SW.seq_k fun K hK => ?_) | (refine SW.block ?_) | ((first | refine SW.region ?_ | refine SW.regionD (Checked.mixed Tryz.checked) (by kernel_rfl) ?_ | refine SW.cond ?_ | refine SW.skip ?_ | refine SW.exit ?_ | refine SW.ret ?_ | refine Call.of_pure (pos) ?_ | refine ⟨_, pos, ?_⟩ | refine Call.of_pure (lr) ?_ | refine ⟨_, lr, ?_⟩ | refine Call.of_pure (tk) ?_ | refine ⟨_, tk, ?_⟩ | (refine allF_i fun b hb => ?_; replace hD := And.intro hb hD; clear hb; try simp only [fresh_cons, fresh_nil, and_true, ne_eq, neF] at hD) | simp only [appK, appOsK]); try simp only [go_sem, ↓reduceIte, reduceCtorEq, Nat.reduceAdd, Nat.reduceMul, Nat.reduceSub, Nat.reduceLT, Nat.reduceLeDiff, Nat.reduceEqDiff, Nat.reduceBEq, Nat.reduceBneDiff, Int.reduceToNat, Int.reduceEq, hD, hli, ie, i0, il, w1, c1, c2, c3, c4, a1, a2, a3, a4, ba, true_implies]) | (refine And.intro (by omega) ?_) | (refine ifI (fun hc => ?_) (fun hc => ?_) <;> first | (exfalso; omega) | skip) | (first | (apply hK; clear hK K) | ((iterate 1 (clear hK K)); apply hK; clear hK K) | ((iterate 2 (clear hK K)); apply hK; clear hK K) | ((iterate 3 (clear hK K)); apply hK; clear hK K) | ((iterate 4 (clear hK K)); apply hK; clear hK K) | ((iterate 5 (clear hK K)); apply hK; clear hK K))
              obtain ⟨hB2, hle2⟩ := Acc.keep (sz := 7) (n := acc.length + 1) (b := b) (cs := cellsT acc ++ tokC ⟨kk, s.extract i (i + fn), vv, ((L : Nat) : Int), ((1 + T : Nat) : Int)⟩) (h' := _) (List.mem_cons_of_mem _ (List.mem_cons_of_mem _ (List.mem_cons_self ..))) (by rw [List.length_append, ← cells_len]; show _ = _ + 7; omega)
              refine Rnd.le (hle2 _) ?_
              refine Rnd.sub (s.size - (i + fn)) (by omega) ((hI _ _).2 ⟨i + fn, acc ++ [⟨kk, s.extract i (i + fn), vv, ((L : Nat) : Int), ((1 + T : Nat) : Int)⟩], _, _, rfl, by omega, by rw [List.length_append]; simp only [List.length_cons, List.length_nil]; omega, hC, by rw [cells_snoc, List.length_append]; exact hB2, rfl⟩) (by repeat' (first | exact rfl | exact trivial | exact int_eq (by omega) | exact int_eq (by (rw [i64_wrap] <;> omega)) | constructor))
    · have hli : ¬ ((i : Nat) : Int) < ((s.size : Nat) : Int) := by omega
      rw [lexF_end (by omega)] at hC
      subst hC
      refine SW.le (St.le_acc_fl (i := 6) rfl hB (tokF acc) (cells_at acc)) ?_
      repeat' first | (with_reducible refine And.intro (by omega) ?_) | (refine SW.seq_k fun K hK => ?_) | (refine SW.block ?_) | ((first | refine SW.region ?_ | refine SW.regionD (Checked.mixed Tryz.checked) (by kernel_rfl) ?_ | refine SW.cond ?_ | refine SW.skip ?_ | refine SW.exit ?_ | refine SW.ret ?_ | (refine allF_i fun b hb => ?_; replace hD := And.intro hb hD; clear hb; try simp only [fresh_cons, fresh_nil, and_true, ne_eq, neF] at hD) | simp only [appK, appOsK]); try simp only [go_sem, ↓reduceIte, reduceCtorEq, Nat.reduceAdd, Nat.reduceMul, Nat.reduceSub, Nat.reduceLT, Nat.reduceLeDiff, Nat.reduceEqDiff, Nat.reduceBEq, Nat.reduceBneDiff, Int.reduceToNat, Int.reduceEq, hD, hli]) | (refine And.intro (by omega) ?_) | (refine ifI (fun hc => ?_) (fun hc => ?_) <;> first | (exfalso; omega) | skip) | (first | (apply hK; clear hK K) | ((iterate 1 (clear hK K)); apply hK; clear hK K) | ((iterate 2 (clear hK K)); apply hK; clear hK K) | ((iterate 3 (clear hK K)); apply hK; clear hK K) | ((iterate 4 (clear hK K)); apply hK; clear hK K) | ((iterate 5 (clear hK K)); apply hK; clear hK K))
      refine ret_pure ?_; simp only [resL_tmp, resL_nil, tupOf, go_sem, ↓reduceIte, reduceCtorEq, Nat.reduceAdd, Nat.reduceMul, Nat.reduceSub, Nat.reduceLT, Nat.reduceLeDiff, Nat.reduceEqDiff, Nat.reduceBEq, Nat.reduceBneDiff, Int.reduceToNat, Int.reduceEq, hD]
      rfl
end Go.Proofs.YtajbifibhgppfaaGreatDoor
/- Contracts: a builder of bytes: WriteString, WriteByte, Len. -/
set_option linter.unusedSimpArgs false
set_option linter.unusedVariables false
set_option linter.unusedSectionVars false
namespace Go.Ab
open Go Go.RowKit
section
variable {P : Program} {K : St → Prop} {t : List (Nat × SV)} {h h0 : Heap}
theorem len_nt {st : Bool} {L : TypeId × Nat × Nat} {A : Option (Nat × Nat)} : lenSV st (some L) A .nt = .ok True (.sc (.int .i64 0)) := rfl
theorem len_ot {st : Bool} {L : TypeId × Nat × Nat} {A : Option (Nat × Nat)} {b n : Nat} {e : TypeId} : lenSV st (some L) A (.ot b n e) = .ok True (.sc (.int .i64 n)) := rfl
theorem cells_nt : svCells .nt = some [.nt] := rfl
theorem cells_ot {b n : Nat} {e : TypeId} : svCells (.ot b n e) = some [.ot b n e] := rfl
theorem cells_opT {b n : Nat} {e : TypeId} : svCells (.opT b e n) = some [.opT b e n] := rfl
theorem single_nt : single .nt = true := rfl
theorem single_ot {b n : Nat} {e : TypeId} : single (.ot b n e) = true := rfl
theorem single_opT {b n : Nat} {e : TypeId} : single (.opT b e n) = true := rfl
attribute [go_sem] len_nt len_ot cells_nt cells_ot cells_opT single_nt single_ot single_opT
theorem byts_one (l : List UInt8) : (byts l).all single = true := by
  rw [List.all_eq_true]
  intro x hx
  simp only [byts, List.mem_map] at hx
  obtain ⟨c, _, rfl⟩ := hx
  rfl
theorem src_str (s : ByteArray) (h : Heap) : srcCells (.sc (.string s)) h = some (s.data.toList.length, byts s.data.toList) := by
  show some (s.size, _) = _
  rw [show s.data.toList.length = s.size from Array.length_toList]
  rfl
theorem src_ok (s : ByteArray) (h : Heap) : srcOk 1 (.sc (.string s)) h := by
  unfold srcOk
  rfl
/-- Bytes are appended to a builder's bytes. -/
theorem appK_ot [Gl] {g bytes e : Nat} {l l2 : List UInt8} {y : SV} {z : List Value} {d : Tmp} {blk : Blk} (hsrc : srcCells y h = some (l2.length, byts l2)) (hok : srcOk 1 y h) (hf : h.find g = some blk) (hc : blk.cells = byts l) (hz : z.length = 1)
    (hb : (l.length + l2.length) * bytes ≤ 140737488355328) (hn : l.length + l2.length ≤ 140737488355328)
    (hK : ∀ g' blk', fresh (h.del g) g' → blk'.cells = byts (l ++ l2) → K ⟨(d, .ot g' (l ++ l2).length e) :: t, h.ren g g' blk'⟩) :
    appK (some (e, 1, bytes)) (some z) true (.ot g l.length e) y (some d) K ⟨t, h⟩ := by
  unfold appK
  simp only [hsrc]
  refine ⟨trivial, hok, byts_one l2, hz, Nat.one_pos, ?_⟩
  unfold appOtK
  simp only [hf]
  refine ⟨trivial, trivial, by rw [← Blk.length_cells, hc]; simp [byts], hb, hn, fun g' hfr => ?_⟩
  rw [← List.length_append]
  exact hK g' _ hfr (by rw [appB_cells, hc]; simp [byts])
/-- Bytes are appended to a builder that has none. -/
theorem appK_nt [Gl] {bytes e : Nat} {l2 : List UInt8} {y : SV} {z : List Value} {d : Tmp} (hsrc : srcCells y h = some (l2.length, byts l2)) (hok : srcOk 1 y h) (hpos : 0 < l2.length) (hz : z.length = 1)
    (hb : l2.length * bytes ≤ 140737488355328) (hn : l2.length ≤ 140737488355328)
    (hK : ∀ g' blk', fresh h g' → blk'.cells = byts l2 → K ⟨(d, .ot g' l2.length e) :: t, (g', blk') :: h⟩) :
    appK (some (e, 1, bytes)) (some z) true .nt y (some d) K ⟨t, h⟩ := by
  unfold appK
  simp only [hsrc]
  refine ⟨trivial, hok, byts_one l2, hz, Nat.one_pos, ?_⟩
  unfold appNtK
  exact ⟨rfl, hb, hn, fun x => by omega, fun _ g' hfr => hK g' _ hfr (newB_cells _)⟩
end
end Go.Ab
namespace Go.Proofs.YtajbifibhgppfaaGreatDoor
open Go Go.Ab Go.Ab.A01 Go.Ab.A05
variable [Gl] [Tabs] [Syms]
/-- A builder b with these bytes, ahead of other blocks. -/
def BH (b : Nat) (l : List UInt8) (h h0 : Heap) : Prop :=
  (l = [] ∧ h = (b, .svs [.sc (.pointer none), .nt]) :: h0) ∨
  (l ≠ [] ∧ ∃ g blk, fresh h0 g ∧ g ≠ b ∧ blk.cells = byts l ∧ h = (b, .svs [.op b 0, .ot g l.length 5]) :: (g, blk) :: h0)
abbrev BP (b : Nat) : SV := .opT b 39 2

set_option maxHeartbeats 1000000 in
set_option maxRecDepth 20000 in
theorem blen_c (b : Nat) (l : List UInt8) (h h0 : Heap) (hB : BH b l h h0) : Ab.Call Tryz.prog 12 [BP b] h (fun r h' => r = I64 l.length ∧ h' = h) := by
  rcases hB with ⟨rfl, rfl⟩ | ⟨hl, g, blk, hf, hg, hc, rfl⟩
  · refine Call.enter' (N := 8) (rs := [.tmp 2]) Tryz.func12 rfl rfl rfl (by decide) rfl ?_; simp only [argT]; have hD : (0 : Nat) = 0 := rfl
    repeat' first | (with_reducible refine And.intro (by omega) ?_) | (refine SW.seq_k fun K hK => ?_) | (refine SW.block ?_) | ((first | refine SW.region ?_ | refine SW.regionD (Checked.mixed Tryz.checked) (by kernel_rfl) ?_ | refine SW.cond ?_ | refine SW.skip ?_ | refine SW.exit ?_ | refine SW.ret ?_ | (refine allF_i fun b hb => ?_; replace hD := And.intro hb hD; clear hb; try simp only [fresh_cons, fresh_nil, and_true, ne_eq, neF] at hD) | simp only [appK, appOsK]); try simp only [go_sem, ↓reduceIte, reduceCtorEq, Nat.reduceAdd, Nat.reduceMul, Nat.reduceSub, Nat.reduceLT, Nat.reduceLeDiff, Nat.reduceEqDiff, Nat.reduceBEq, Nat.reduceBneDiff, Int.reduceToNat, Int.reduceEq, hD]) | (refine And.intro (by omega) ?_) | (refine ifI (fun hc => ?_) (fun hc => ?_) <;> first | (exfalso; omega) | skip) | (first | (apply hK; clear hK K) | ((iterate 1 (clear hK K)); apply hK; clear hK K) | ((iterate 2 (clear hK K)); apply hK; clear hK K) | ((iterate 3 (clear hK K)); apply hK; clear hK K) | ((iterate 4 (clear hK K)); apply hK; clear hK K) | ((iterate 5 (clear hK K)); apply hK; clear hK K))
    refine retQ_ret ?_
    simp only [resL_tmp, resL_nil, tupOf, go_sem, ↓reduceIte, reduceCtorEq, Nat.reduceAdd, Nat.reduceMul, Nat.reduceSub, Nat.reduceLT, Nat.reduceLeDiff, Nat.reduceEqDiff, Nat.reduceBEq, Nat.reduceBneDiff, Int.reduceToNat, Int.reduceEq, hD]
  · refine Call.enter' (N := 8) (rs := [.tmp 2]) Tryz.func12 rfl rfl rfl (by decide) rfl ?_; simp only [argT]; have hD : (0 : Nat) = 0 := rfl
    repeat' first | (with_reducible refine And.intro (by omega) ?_) | (refine SW.seq_k fun K hK => ?_) | (refine SW.block ?_) | ((first | refine SW.region ?_ | refine SW.regionD (Checked.mixed Tryz.checked) (by kernel_rfl) ?_ | refine SW.cond ?_ | refine SW.skip ?_ | refine SW.exit ?_ | refine SW.ret ?_ | (refine allF_i fun b hb => ?_; replace hD := And.intro hb hD; clear hb; try simp only [fresh_cons, fresh_nil, and_true, ne_eq, neF] at hD) | simp only [appK, appOsK]); try simp only [go_sem, ↓reduceIte, reduceCtorEq, Nat.reduceAdd, Nat.reduceMul, Nat.reduceSub, Nat.reduceLT, Nat.reduceLeDiff, Nat.reduceEqDiff, Nat.reduceBEq, Nat.reduceBneDiff, Int.reduceToNat, Int.reduceEq, hD]) | (refine And.intro (by omega) ?_) | (refine ifI (fun hc => ?_) (fun hc => ?_) <;> first | (exfalso; omega) | skip) | (first | (apply hK; clear hK K) | ((iterate 1 (clear hK K)); apply hK; clear hK K) | ((iterate 2 (clear hK K)); apply hK; clear hK K) | ((iterate 3 (clear hK K)); apply hK; clear hK K) | ((iterate 4 (clear hK K)); apply hK; clear hK K) | ((iterate 5 (clear hK K)); apply hK; clear hK K))
    refine retQ_ret ?_
    simp only [resL_tmp, resL_nil, tupOf, go_sem, ↓reduceIte, reduceCtorEq, Nat.reduceAdd, Nat.reduceMul, Nat.reduceSub, Nat.reduceLT, Nat.reduceLeDiff, Nat.reduceEqDiff, Nat.reduceBEq, Nat.reduceBneDiff, Int.reduceToNat, Int.reduceEq, hD]

set_option maxHeartbeats 1000000 in
set_option maxRecDepth 20000 in
theorem wstr_c (b : Nat) (l : List UInt8) (h h0 : Heap) (hB : BH b l h h0) (hf0 : fresh h0 b) (s : ByteArray) (h1 : 1 ≤ s.size) (hs : l.length + s.size ≤ 1000000) :
    Ab.Call Tryz.prog 15 [BP b, Str s] h (fun r h' => r = .tup [I64 s.size, .sc .nilIface] ∧ BH b (l ++ s.data.toList) h' h0) := by
  have hsl : s.size = s.data.toList.length := by rw [len_list]
  have hne : l ++ s.data.toList ≠ [] := fun e => by
    have := congrArg List.length e
    rw [List.length_append, List.length_nil] at this
    omega
  have hp1 : 0 < s.data.toList.length := by omega
  have hz1 : ([Value.int IntKind.u8 0] : List Value).length = 1 := rfl
  rcases hB with ⟨rfl, rfl⟩ | ⟨hl, g, blk, hf, hg, hc, rfl⟩
  · have hb1 : s.data.toList.length * 1 ≤ 140737488355328 := by omega
    have hn1 : s.data.toList.length ≤ 140737488355328 := by omega
    refine Call.enter' (N := 19) (rs := [.tmp 4, .tmp 5]) Tryz.func15 rfl rfl rfl (by decide) rfl ?_; simp only [argT]; have hD : (0 : Nat) = 0 := rfl
    repeat' first | (with_reducible refine Call.mono (copy_new b SV.nt h0) ?_; intro r h' hx; obtain ⟨rfl, rfl⟩ := hx) | (with_reducible refine appK_nt (l2 := s.data.toList) (src_str _ _) (src_ok _ _) hp1 hz1 hb1 hn1 ?_; intro g' blk' hfr hcl; refine stop_i ?_) | (with_reducible refine And.intro (by omega) ?_) | (refine SW.seq_k fun K hK => ?_) | (refine SW.block ?_) | ((first | refine SW.region ?_ | refine SW.regionD (Checked.mixed Tryz.checked) (by kernel_rfl) ?_ | refine SW.cond ?_ | refine SW.skip ?_ | refine SW.exit ?_ | refine SW.ret ?_ | (refine allF_i fun b hb => ?_; replace hD := And.intro hb hD; clear hb; try simp only [fresh_cons, fresh_nil, and_true, ne_eq, neF] at hD) | simp only [appK, appOsK]); try simp only [go_sem, ↓reduceIte, reduceCtorEq, Nat.reduceAdd, Nat.reduceMul, Nat.reduceSub, Nat.reduceLT, Nat.reduceLeDiff, Nat.reduceEqDiff, Nat.reduceBEq, Nat.reduceBneDiff, Int.reduceToNat, Int.reduceEq, hD, true_implies]) | (refine And.intro (by omega) ?_) | (refine ifI (fun hc => ?_) (fun hc => ?_) <;> first | (exfalso; omega) | skip) | (first | (apply hK; clear hK K) | ((iterate 1 (clear hK K)); apply hK; clear hK K) | ((iterate 2 (clear hK K)); apply hK; clear hK K) | ((iterate 3 (clear hK K)); apply hK; clear hK K) | ((iterate 4 (clear hK K)); apply hK; clear hK K) | ((iterate 5 (clear hK K)); apply hK; clear hK K))
    refine Stop.mk ?_
    have hf1 : ¬ g' = b := hfr.1.2
    simp only [go_sem, ↓reduceIte, reduceCtorEq, Nat.reduceAdd, Nat.reduceMul, Nat.reduceSub, Nat.reduceLT, Nat.reduceLeDiff, Nat.reduceEqDiff, Nat.reduceBEq, Nat.reduceBneDiff, Int.reduceToNat, Int.reduceEq, hD, hf1]
    first | (apply hK; clear hK K) | ((iterate 1 (clear hK K)); apply hK; clear hK K) | ((iterate 2 (clear hK K)); apply hK; clear hK K) | ((iterate 3 (clear hK K)); apply hK; clear hK K) | ((iterate 4 (clear hK K)); apply hK; clear hK K) | ((iterate 5 (clear hK K)); apply hK; clear hK K)
    repeat' first | (with_reducible refine And.intro (by omega) ?_) | (refine SW.seq_k fun K hK => ?_) | (refine SW.block ?_) | ((first | refine SW.region ?_ | refine SW.regionD (Checked.mixed Tryz.checked) (by kernel_rfl) ?_ | refine SW.cond ?_ | refine SW.skip ?_ | refine SW.exit ?_ | refine SW.ret ?_ | (refine allF_i fun b hb => ?_; replace hD := And.intro hb hD; clear hb; try simp only [fresh_cons, fresh_nil, and_true, ne_eq, neF] at hD) | simp only [appK, appOsK]); try simp only [go_sem, ↓reduceIte, reduceCtorEq, Nat.reduceAdd, Nat.reduceMul, Nat.reduceSub, Nat.reduceLT, Nat.reduceLeDiff, Nat.reduceEqDiff, Nat.reduceBEq, Nat.reduceBneDiff, Int.reduceToNat, Int.reduceEq, hD]) | (refine And.intro (by omega) ?_) | (refine ifI (fun hc => ?_) (fun hc => ?_) <;> first | (exfalso; omega) | skip) | (first | (apply hK; clear hK K) | ((iterate 1 (clear hK K)); apply hK; clear hK K) | ((iterate 2 (clear hK K)); apply hK; clear hK K) | ((iterate 3 (clear hK K)); apply hK; clear hK K) | ((iterate 4 (clear hK K)); apply hK; clear hK K) | ((iterate 5 (clear hK K)); apply hK; clear hK K))
    refine retQ_le (S' := ⟨_, (b, .svs [.op b 0, .ot g' s.data.toList.length 5]) :: (g', blk') :: h0⟩) (St.le_perm (List.Perm.swap ..)) ?_
    simp only [resL_tmp, resL_nil, tupOf, go_sem, ↓reduceIte, reduceCtorEq, Nat.reduceAdd, Nat.reduceMul, Nat.reduceSub, Nat.reduceLT, Nat.reduceLeDiff, Nat.reduceEqDiff, Nat.reduceBEq, Nat.reduceBneDiff, Int.reduceToNat, Int.reduceEq, hD]
    refine .inr ⟨by rw [List.nil_append] at hne; exact hne, g', blk', hfr.2, hf1, hcl, rfl⟩
  · have hgb : ¬ b = g := fun x => hg x.symm
    have hb1 : (l.length + s.data.toList.length) * 1 ≤ 140737488355328 := by omega
    have hn1 : l.length + s.data.toList.length ≤ 140737488355328 := by omega
    have hfd : Heap.find ((b, Blk.svs [.op b 0, .ot g l.length 5]) :: (g, blk) :: h0) g = some blk := by rw [find_cons, if_neg hgb, find_cons, if_pos rfl]
    refine Call.enter' (N := 19) (rs := [.tmp 4, .tmp 5]) Tryz.func15 rfl rfl rfl (by decide) rfl ?_; simp only [argT]; have hD : (0 : Nat) = 0 := rfl
    repeat' first | (with_reducible refine Call.mono (copy_used b (SV.ot g l.length 5) ((g, blk) :: h0)) ?_; intro r h' hx; obtain ⟨rfl, rfl⟩ := hx) | (with_reducible refine appK_ot (l2 := s.data.toList) (blk := blk) (src_str _ _) (src_ok _ _) hfd hc hz1 hb1 hn1 ?_; intro g' blk' hfr hcl; refine stop_i ?_) | (with_reducible refine And.intro (by omega) ?_) | (refine SW.seq_k fun K hK => ?_) | (refine SW.block ?_) | ((first | refine SW.region ?_ | refine SW.regionD (Checked.mixed Tryz.checked) (by kernel_rfl) ?_ | refine SW.cond ?_ | refine SW.skip ?_ | refine SW.exit ?_ | refine SW.ret ?_ | (refine allF_i fun b hb => ?_; replace hD := And.intro hb hD; clear hb; try simp only [fresh_cons, fresh_nil, and_true, ne_eq, neF] at hD) | simp only [appK, appOsK]); try simp only [go_sem, ↓reduceIte, reduceCtorEq, Nat.reduceAdd, Nat.reduceMul, Nat.reduceSub, Nat.reduceLT, Nat.reduceLeDiff, Nat.reduceEqDiff, Nat.reduceBEq, Nat.reduceBneDiff, Int.reduceToNat, Int.reduceEq, hD, true_implies, hgb]) | (refine And.intro (by omega) ?_) | (refine ifI (fun hc => ?_) (fun hc => ?_) <;> first | (exfalso; omega) | skip) | (first | (apply hK; clear hK K) | ((iterate 1 (clear hK K)); apply hK; clear hK K) | ((iterate 2 (clear hK K)); apply hK; clear hK K) | ((iterate 3 (clear hK K)); apply hK; clear hK K) | ((iterate 4 (clear hK K)); apply hK; clear hK K) | ((iterate 5 (clear hK K)); apply hK; clear hK K))
    refine Stop.mk ?_
    rw [del_cons, if_neg hgb, del_cons, if_pos rfl] at hfr
    have hf1 : ¬ g' = b := hfr.1.2
    have hf2 : ¬ b = g' := hfr.1.1
    simp only [go_sem, ↓reduceIte, reduceCtorEq, Nat.reduceAdd, Nat.reduceMul, Nat.reduceSub, Nat.reduceLT, Nat.reduceLeDiff, Nat.reduceEqDiff, Nat.reduceBEq, Nat.reduceBneDiff, Int.reduceToNat, Int.reduceEq, hD, hf1, hf2, hgb]
    first | (apply hK; clear hK K) | ((iterate 1 (clear hK K)); apply hK; clear hK K) | ((iterate 2 (clear hK K)); apply hK; clear hK K) | ((iterate 3 (clear hK K)); apply hK; clear hK K) | ((iterate 4 (clear hK K)); apply hK; clear hK K) | ((iterate 5 (clear hK K)); apply hK; clear hK K)
    repeat' first | (with_reducible refine And.intro (by omega) ?_) | (refine SW.seq_k fun K hK => ?_) | (refine SW.block ?_) | ((first | refine SW.region ?_ | refine SW.regionD (Checked.mixed Tryz.checked) (by kernel_rfl) ?_ | refine SW.cond ?_ | refine SW.skip ?_ | refine SW.exit ?_ | refine SW.ret ?_ | (refine allF_i fun b hb => ?_; replace hD := And.intro hb hD; clear hb; try simp only [fresh_cons, fresh_nil, and_true, ne_eq, neF] at hD) | simp only [appK, appOsK]); try simp only [go_sem, ↓reduceIte, reduceCtorEq, Nat.reduceAdd, Nat.reduceMul, Nat.reduceSub, Nat.reduceLT, Nat.reduceLeDiff, Nat.reduceEqDiff, Nat.reduceBEq, Nat.reduceBneDiff, Int.reduceToNat, Int.reduceEq, hD]) | (refine And.intro (by omega) ?_) | (refine ifI (fun hc => ?_) (fun hc => ?_) <;> first | (exfalso; omega) | skip) | (first | (apply hK; clear hK K) | ((iterate 1 (clear hK K)); apply hK; clear hK K) | ((iterate 2 (clear hK K)); apply hK; clear hK K) | ((iterate 3 (clear hK K)); apply hK; clear hK K) | ((iterate 4 (clear hK K)); apply hK; clear hK K) | ((iterate 5 (clear hK K)); apply hK; clear hK K))
    refine retQ_ret ?_
    simp only [resL_tmp, resL_nil, tupOf, go_sem, ↓reduceIte, reduceCtorEq, Nat.reduceAdd, Nat.reduceMul, Nat.reduceSub, Nat.reduceLT, Nat.reduceLeDiff, Nat.reduceEqDiff, Nat.reduceBEq, Nat.reduceBneDiff, Int.reduceToNat, Int.reduceEq, hD]
    refine .inr ⟨hne, g', blk', hfr.2, hf1, hcl, by rw [List.length_append]⟩

theorem src_one {b2 : Nat} {k : Blk} {h : Heap} {l2 : List UInt8} (hl : l2.length = 1) (hk : k.cells = byts l2) : srcCells (.os b2 0 1 1) ((b2, k) :: h) = some (l2.length, byts l2) := by
  rw [src_os, find_cons, if_pos rfl, hl]
  have := getN_cells hk
  rw [show (byts l2).length = 1 * 1 by simp [byts, hl]] at this
  simp only [this]
theorem src_one_ok {b2 : Nat} {k : Blk} {h : Heap} (hk : 1 ≤ k.len) : srcOk 1 (.os b2 0 1 1) ((b2, k) :: h) := by
  rw [srcOk_os, find_cons, if_pos rfl]
  exact ⟨rfl, by omega⟩
set_option maxHeartbeats 1000000 in
set_option maxRecDepth 20000 in
theorem wbyte_c (bb : Nat) (l : List UInt8) (h h0 : Heap) (hB : BH bb l h h0) (hl : l ≠ []) (hf0 : fresh h0 bb) (c : UInt8) (hs : l.length ≤ 1000000) :
    Ab.Call Tryz.prog 14 [BP bb, B8 c] h (fun r h' => r = .sc .nilIface ∧ BH bb (l ++ [c]) h' h0) := by
  rcases hB with ⟨rfl, rfl⟩ | ⟨hl, g, blk, hf, hg, hc, rfl⟩
  · exact absurd rfl hl
  · have hgb : ¬ bb = g := fun x => hg x.symm
    have hz1 : ([Value.int IntKind.u8 0] : List Value).length = 1 := rfl
    have hb1 : (l.length + [c].length) * 1 ≤ 140737488355328 := by simp only [List.length_cons, List.length_nil]; omega
    have hn1 : l.length + [c].length ≤ 140737488355328 := by simp only [List.length_cons, List.length_nil]; omega
    refine Call.enter' (N := 17) (rs := [.tmp 4]) Tryz.func14 rfl rfl rfl (by decide) rfl ?_; simp only [argT]; have hD : (0 : Nat) = 0 := rfl
    repeat' first | (with_reducible refine Call.mono (copy_used bb (SV.ot g l.length 5) ((g, blk) :: h0)) ?_; intro r h' hx; obtain ⟨rfl, rfl⟩ := hx) | (with_reducible refine appK_ot (l2 := [c]) (blk := blk) (src_one rfl rfl) (src_one_ok (Nat.le_refl _)) ?_ hc hz1 hb1 hn1 ?_; rotate_left; intro g' blk' hfr hcl; refine stop_i ?_) | (with_reducible refine And.intro (by omega) ?_) | (refine SW.seq_k fun K hK => ?_) | (refine SW.block ?_) | ((first | refine SW.region ?_ | refine SW.regionD (Checked.mixed Tryz.checked) (by kernel_rfl) ?_ | refine SW.cond ?_ | refine SW.skip ?_ | refine SW.exit ?_ | refine SW.ret ?_ | (refine allF_i fun b hb => ?_; replace hD := And.intro hb hD; clear hb; try simp only [fresh_cons, fresh_nil, and_true, ne_eq, neF] at hD) | simp only [appK, appOsK]); try simp only [go_sem, ↓reduceIte, reduceCtorEq, Nat.reduceAdd, Nat.reduceMul, Nat.reduceSub, Nat.reduceLT, Nat.reduceLeDiff, Nat.reduceEqDiff, Nat.reduceBEq, Nat.reduceBneDiff, Int.reduceToNat, Int.reduceEq, hD, true_implies, hgb]) | (refine And.intro (by omega) ?_) | (refine ifI (fun hc => ?_) (fun hc => ?_) <;> first | (exfalso; omega) | skip) | (first | (apply hK; clear hK K) | ((iterate 1 (clear hK K)); apply hK; clear hK K) | ((iterate 2 (clear hK K)); apply hK; clear hK K) | ((iterate 3 (clear hK K)); apply hK; clear hK K) | ((iterate 4 (clear hK K)); apply hK; clear hK K) | ((iterate 5 (clear hK K)); apply hK; clear hK K))
    · refine Stop.mk ?_
      have hbg : ¬ b = g := fun x => by have := hD.2.1.2; rw [this] at x; exact x
      rw [del_cons, if_neg hbg, del_cons, if_neg hgb, del_cons, if_pos rfl] at hfr
      have hf1 : ¬ g' = bb := hfr.2.1.2
      have hf2 : ¬ bb = g' := hfr.2.1.1
      have hf3 : ¬ b = g' := hfr.1.1
      simp only [go_sem, ↓reduceIte, reduceCtorEq, Nat.reduceAdd, Nat.reduceMul, Nat.reduceSub, Nat.reduceLT, Nat.reduceLeDiff, Nat.reduceEqDiff, Nat.reduceBEq, Nat.reduceBneDiff, Int.reduceToNat, Int.reduceEq, hD, hf1, hf2, hf3, hgb, hbg]
      first | (apply hK; clear hK K) | ((iterate 1 (clear hK K)); apply hK; clear hK K) | ((iterate 2 (clear hK K)); apply hK; clear hK K) | ((iterate 3 (clear hK K)); apply hK; clear hK K) | ((iterate 4 (clear hK K)); apply hK; clear hK K) | ((iterate 5 (clear hK K)); apply hK; clear hK K)
      repeat' first | (with_reducible refine And.intro (by omega) ?_) | (refine SW.seq_k fun K hK => ?_) | (refine SW.block ?_) | ((first | refine SW.region ?_ | refine SW.regionD (Checked.mixed Tryz.checked) (by kernel_rfl) ?_ | refine SW.cond ?_ | refine SW.skip ?_ | refine SW.exit ?_ | refine SW.ret ?_ | (refine allF_i fun b hb => ?_; replace hD := And.intro hb hD; clear hb; try simp only [fresh_cons, fresh_nil, and_true, ne_eq, neF] at hD) | simp only [appK, appOsK]); try simp only [go_sem, ↓reduceIte, reduceCtorEq, Nat.reduceAdd, Nat.reduceMul, Nat.reduceSub, Nat.reduceLT, Nat.reduceLeDiff, Nat.reduceEqDiff, Nat.reduceBEq, Nat.reduceBneDiff, Int.reduceToNat, Int.reduceEq, hD]) | (refine And.intro (by omega) ?_) | (refine ifI (fun hc => ?_) (fun hc => ?_) <;> first | (exfalso; omega) | skip) | (first | (apply hK; clear hK K) | ((iterate 1 (clear hK K)); apply hK; clear hK K) | ((iterate 2 (clear hK K)); apply hK; clear hK K) | ((iterate 3 (clear hK K)); apply hK; clear hK K) | ((iterate 4 (clear hK K)); apply hK; clear hK K) | ((iterate 5 (clear hK K)); apply hK; clear hK K))
      refine retQ_le (S' := ⟨_, (bb, .svs [.op bb 0, .ot g' (l ++ [c]).length 5]) :: (g', blk') :: h0⟩) (St.le_sublist (fun x hx => ?_) (fun hn => ?_)) ?_
      · rw [List.length_append] at hx
        exact List.mem_cons_of_mem _ hx
      · simp only [List.map_cons, List.nodup_cons] at hn ⊢
        exact hn.2
      · simp only [resL_tmp, resL_nil, tupOf, go_sem, ↓reduceIte, reduceCtorEq, Nat.reduceAdd, Nat.reduceMul, Nat.reduceSub, Nat.reduceLT, Nat.reduceLeDiff, Nat.reduceEqDiff, Nat.reduceBEq, Nat.reduceBneDiff, Int.reduceToNat, Int.reduceEq, hD]
        refine .inr ⟨by simp, g', blk', hfr.2.2, hf1, hcl, by rw [List.length_append]; rfl⟩
    · have hbg : ¬ b = g := fun x => by have := hD.2.1.2; rw [this] at x; exact x
      rw [find_cons, if_neg hbg, find_cons, if_neg hgb, find_cons, if_pos rfl]
end Go.Proofs.YtajbifibhgppfaaGreatDoor
/- Contracts: Same, Short, Plain of the reference. -/
set_option linter.unusedSimpArgs false
set_option linter.unusedVariables false
set_option linter.unusedSectionVars false
namespace Go.Ab.A05
open Go Go.Ab Go.Ab.A01 Go.Proofs.YtajbifibhgppfaaGreatDoor
def shortT (t : Tok) : Bool := decide (t.text.size ≤ 1000) && decide (t.val.2.2.size ≤ 1000)
def shortS (l : List Tok) (m : Int) : Bool := decide ((l.length : Int) ≤ m) && l.all shortT
def strip (t : Tok) : Tok := ⟨t.kind, t.text, t.val, 0, 0⟩
def vTok (t : Tok) : Bool := vtok t.kind t.text t.val
def plainS (l : List Tok) : List Tok := (l.filter vTok).map strip
theorem tok_eta (t : Tok) : tokC t = [I64 t.kind, Str t.text, I64 t.val.1, I64 t.val.2.1, Str t.val.2.2, I64 t.line, I64 t.col] := rfl
end Go.Ab.A05
namespace Go.Proofs.YtajbifibhgppfaaGreatDoor
open Go Go.Ab Go.Ab.A01 Go.Ab.A05
variable [Gl] [Tabs] [Syms]

set_option maxHeartbeats 2000000 in
set_option maxRecDepth 20000 in
theorem same_r (a : List Tok) (ha : a.length ≤ 1000000) : PCall Tryz.prog 9 [TS a, TS a] (SB true) := by
  refine Call.enter' (N := 26) (rs := [.tmp 4]) Tryz.func9 rfl rfl rfl (by decide) rfl ?_; simp only [argT]; have hD : (0 : Nat) = 0 := rfl
  repeat' first | (with_reducible refine And.intro (by omega) ?_) | (refine SW.seq_k fun K hK => ?_) | (refine SW.block ?_) | ((first | refine SW.region ?_ | refine SW.regionD (Checked.mixed Tryz.checked) (by kernel_rfl) ?_ | refine SW.cond ?_ | refine SW.skip ?_ | refine SW.exit ?_ | refine SW.ret ?_ | (refine allF_i fun b hb => ?_; replace hD := And.intro hb hD; clear hb; try simp only [fresh_cons, fresh_nil, and_true, ne_eq, neF] at hD) | simp only [appK, appOsK]); try simp only [go_sem, ↓reduceIte, reduceCtorEq, Nat.reduceAdd, Nat.reduceMul, Nat.reduceSub, Nat.reduceLT, Nat.reduceLeDiff, Nat.reduceEqDiff, Nat.reduceBEq, Nat.reduceBneDiff, Int.reduceToNat, Int.reduceEq, hD]) | (refine And.intro (by omega) ?_) | (refine ifI (fun hc => ?_) (fun hc => ?_) <;> first | (exfalso; omega) | skip) | (first | (apply hK; clear hK K) | ((iterate 1 (clear hK K)); apply hK; clear hK K) | ((iterate 2 (clear hK K)); apply hK; clear hK K) | ((iterate 3 (clear hK K)); apply hK; clear hK K) | ((iterate 4 (clear hK K)); apply hK; clear hK K) | ((iterate 5 (clear hK K)); apply hK; clear hK K))
  obtain ⟨I, hI⟩ : ∃ I : Nat → St → Prop, ∀ k S, I k S ↔ (∃ (i : Nat), k = a.length - i ∧ i ≤ a.length ∧ S = ⟨[(0, TS a), (1, TS a), (5, I64 i)], []⟩) := ⟨fun k S => _, fun _ _ => Iff.rfl⟩
  refine SW.loop' I a.length ((hI _ _).2 ⟨0, rfl, Nat.zero_le _, rfl⟩) (by repeat' (first | exact rfl | exact trivial | exact int_eq (by omega) | exact int_eq (by (rw [i64_wrap] <;> omega)) | constructor)) ?_
  intro k S hIn
  obtain ⟨i, rfl, hi, rfl⟩ := (hI _ _).1 hIn
  clear hIn
  have ie : ((i : Nat) : Int).toNat = i := Int.toNat_natCast _
  have i0 : (0 : Int) ≤ ((i : Nat) : Int) := by omega
  by_cases hlt : i < a.length
  · have hli : ((i : Nat) : Int) < ((a.length : Nat) : Int) := by omega
    have w1 : IntKind.i64.wrap ((i : Int) + 1) = ((i + 1 : Nat) : Int) := by rw [i64_wrap (by omega) (by omega)]; omega
    obtain ⟨k, s, v, ln, cl, ht⟩ : ∃ k s v ln cl, a.getD i tok0 = ⟨k, s, v, ln, cl⟩ := ⟨_, _, _, _, _, rfl⟩
    have tf : tokF a i = [I64 k, Str s, I64 v.1, I64 v.2.1, Str v.2.2, I64 ln, I64 cl] := by unfold tokF; rw [ht]; rfl
    have b1 : (s.toList == s.toList) = true := by rw [beq_self_eq_true]
    have b2 : (v.2.2.toList == v.2.2.toList) = true := by rw [beq_self_eq_true]
    repeat' first | (with_reducible refine And.intro (by omega) ?_) | (refine SW.seq_k fun K hK => ?_) | (refine SW.block ?_) | ((first | refine SW.region ?_ | refine SW.regionZ (id := 6) (Checked.mixed Tryz.checked) ((.one 0 [0, 2, 3, 8] (.one 1 [1, 2, 3, 8] (.one 2 [2, 3, 8] (.one 3 [3, 8] (.one 4 [4, 6, 7, 8] (.one 5 [5, 6, 7, 8] (.one 6 [6, 7, 8] (.one 7 [7, 8] (.one 8 [8] .done))))))))) : OZ) (by kernel_rfl) ?_ | refine SW.regionD (Checked.mixed Tryz.checked) (by kernel_rfl) ?_ | refine SW.cond ?_ | refine SW.skip ?_ | refine SW.exit ?_ | refine SW.ret ?_ | (refine allF_i fun b hb => ?_; replace hD := And.intro hb hD; clear hb; try simp only [fresh_cons, fresh_nil, and_true, ne_eq, neF] at hD) | simp only [appK, appOsK]); try simp only [go_sem, ↓reduceIte, reduceCtorEq, Nat.reduceAdd, Nat.reduceMul, Nat.reduceSub, Nat.reduceLT, Nat.reduceLeDiff, Nat.reduceEqDiff, Nat.reduceBEq, Nat.reduceBneDiff, Int.reduceToNat, Int.reduceEq, hD, hli, ie, i0, w1, tf, b1, b2]) | (refine And.intro (by omega) ?_) | (refine ifI (fun hc => ?_) (fun hc => ?_) <;> first | (exfalso; omega) | skip) | (first | (apply hK; clear hK K) | ((iterate 1 (clear hK K)); apply hK; clear hK K) | ((iterate 2 (clear hK K)); apply hK; clear hK K) | ((iterate 3 (clear hK K)); apply hK; clear hK K) | ((iterate 4 (clear hK K)); apply hK; clear hK K) | ((iterate 5 (clear hK K)); apply hK; clear hK K)) | (refine And.intro ?_ ?_)
    refine Rnd.sub (a.length - (i + 1)) (by omega) ((hI _ _).2 ⟨i + 1, rfl, by omega, rfl⟩) (by repeat' (first | exact rfl | exact trivial | exact int_eq (by omega) | exact int_eq (by (rw [i64_wrap] <;> omega)) | constructor))
  · have hli : ¬ ((i : Nat) : Int) < ((a.length : Nat) : Int) := by omega
    repeat' first | (with_reducible refine And.intro (by omega) ?_) | (refine SW.seq_k fun K hK => ?_) | (refine SW.block ?_) | ((first | refine SW.region ?_ | refine SW.regionD (Checked.mixed Tryz.checked) (by kernel_rfl) ?_ | refine SW.cond ?_ | refine SW.skip ?_ | refine SW.exit ?_ | refine SW.ret ?_ | (refine allF_i fun b hb => ?_; replace hD := And.intro hb hD; clear hb; try simp only [fresh_cons, fresh_nil, and_true, ne_eq, neF] at hD) | simp only [appK, appOsK]); try simp only [go_sem, ↓reduceIte, reduceCtorEq, Nat.reduceAdd, Nat.reduceMul, Nat.reduceSub, Nat.reduceLT, Nat.reduceLeDiff, Nat.reduceEqDiff, Nat.reduceBEq, Nat.reduceBneDiff, Int.reduceToNat, Int.reduceEq, hD, hli]) | (refine And.intro (by omega) ?_) | (refine ifI (fun hc => ?_) (fun hc => ?_) <;> first | (exfalso; omega) | skip) | (first | (apply hK; clear hK K) | ((iterate 1 (clear hK K)); apply hK; clear hK K) | ((iterate 2 (clear hK K)); apply hK; clear hK K) | ((iterate 3 (clear hK K)); apply hK; clear hK K) | ((iterate 4 (clear hK K)); apply hK; clear hK K) | ((iterate 5 (clear hK K)); apply hK; clear hK K))
    refine ret_pure ?_; simp only [resL_tmp, resL_nil, tupOf, go_sem, ↓reduceIte, reduceCtorEq, Nat.reduceAdd, Nat.reduceMul, Nat.reduceSub, Nat.reduceLT, Nat.reduceLeDiff, Nat.reduceEqDiff, Nat.reduceBEq, Nat.reduceBneDiff, Int.reduceToNat, Int.reduceEq, hD]

set_option maxHeartbeats 2000000 in
set_option maxRecDepth 20000 in
theorem short_r (l : List Tok) (m : Int) (hl : l.length ≤ 9223372036854775807) : PCall Tryz.prog 5 [TS l, I64 m] (SB (shortS l m)) := by
  obtain ⟨R, hR⟩ : ∃ R, R = shortS l m := ⟨_, rfl⟩
  rw [← hR]
  unfold shortS at hR
  by_cases hm : (l.length : Int) ≤ m
  · have hmi : ¬ m < (l.length : Int) := by omega
    rw [decide_eq_true hm, Bool.true_and] at hR
    have hC0 : R = (l.drop 0).all shortT := by rw [hR, List.drop_zero]
    clear hR
    refine Call.enter' (N := 33) (rs := [.tmp 4]) Tryz.func5 rfl rfl rfl (by decide) rfl ?_; simp only [argT]; have hD : (0 : Nat) = 0 := rfl
    repeat' first | (with_reducible refine And.intro (by omega) ?_) | (refine SW.seq_k fun K hK => ?_) | (refine SW.block ?_) | ((first | refine SW.region ?_ | refine SW.regionD (Checked.mixed Tryz.checked) (by kernel_rfl) ?_ | refine SW.cond ?_ | refine SW.skip ?_ | refine SW.exit ?_ | refine SW.ret ?_ | (refine allF_i fun b hb => ?_; replace hD := And.intro hb hD; clear hb; try simp only [fresh_cons, fresh_nil, and_true, ne_eq, neF] at hD) | simp only [appK, appOsK]); try simp only [go_sem, ↓reduceIte, reduceCtorEq, Nat.reduceAdd, Nat.reduceMul, Nat.reduceSub, Nat.reduceLT, Nat.reduceLeDiff, Nat.reduceEqDiff, Nat.reduceBEq, Nat.reduceBneDiff, Int.reduceToNat, Int.reduceEq, hD, hmi]) | (refine And.intro (by omega) ?_) | (refine ifI (fun hc => ?_) (fun hc => ?_) <;> first | (exfalso; omega) | skip) | (first | (apply hK; clear hK K) | ((iterate 1 (clear hK K)); apply hK; clear hK K) | ((iterate 2 (clear hK K)); apply hK; clear hK K) | ((iterate 3 (clear hK K)); apply hK; clear hK K) | ((iterate 4 (clear hK K)); apply hK; clear hK K) | ((iterate 5 (clear hK K)); apply hK; clear hK K))
    obtain ⟨I, hI⟩ : ∃ I : Nat → St → Prop, ∀ k S, I k S ↔ (∃ (i : Nat), k = l.length - i ∧ i ≤ l.length ∧ R = (l.drop i).all shortT ∧ S = ⟨[(0, TS l), (1, I64 m), (5, I64 i)], []⟩) := ⟨fun k S => _, fun _ _ => Iff.rfl⟩
    refine SW.loop' I l.length ((hI _ _).2 ⟨0, rfl, Nat.zero_le _, hC0, rfl⟩) (by repeat' (first | exact rfl | exact trivial | exact int_eq (by omega) | exact int_eq (by (rw [i64_wrap] <;> omega)) | constructor)) ?_
    clear hC0
    intro k S hIn
    obtain ⟨i, rfl, hi, hC, rfl⟩ := (hI _ _).1 hIn
    clear hIn
    have ie : ((i : Nat) : Int).toNat = i := Int.toNat_natCast _
    have i0 : (0 : Int) ≤ ((i : Nat) : Int) := by omega
    by_cases hlt : i < l.length
    · have hli : ((i : Nat) : Int) < ((l.length : Nat) : Int) := by omega
      have w1 : IntKind.i64.wrap ((i : Int) + 1) = ((i + 1 : Nat) : Int) := by rw [i64_wrap (by omega) (by omega)]; omega
      have hd : l.drop i = l.getD i tok0 :: l.drop (i + 1) := by
        rw [List.drop_eq_getElem_cons hlt]
        simp [List.getD_eq_getElem?_getD, hlt]
      rw [hd, List.all_cons] at hC
      obtain ⟨k, s, v, ln, cl, ht⟩ : ∃ k s v ln cl, l.getD i tok0 = ⟨k, s, v, ln, cl⟩ := ⟨_, _, _, _, _, rfl⟩
      have tf : tokF l i = [I64 k, Str s, I64 v.1, I64 v.2.1, Str v.2.2, I64 ln, I64 cl] := by unfold tokF; rw [ht]; rfl
      have f1 : (([I64 k, Str s, I64 v.1, I64 v.2.1, Str v.2.2, I64 ln, I64 cl] : List SV).drop 1).take 1 = [Str s] := rfl
      have f2 : (([I64 k, Str s, I64 v.1, I64 v.2.1, Str v.2.2, I64 ln, I64 cl] : List SV).drop 2).take 3 = [I64 v.1, I64 v.2.1, Str v.2.2] := rfl
      have f3 : (([I64 v.1, I64 v.2.1, Str v.2.2] : List SV).drop 2).take 1 = [Str v.2.2] := rfl
      rw [ht] at hC
      unfold shortT at hC
      by_cases h1 : s.size ≤ 1000
      · have h1i : ¬ (1000 : Int) < ((s.size : Nat) : Int) := by omega
        by_cases h2 : v.2.2.size ≤ 1000
        · have h2i : ¬ (1000 : Int) < ((v.2.2.size : Nat) : Int) := by omega
          rw [decide_eq_true h1, decide_eq_true h2, Bool.true_and, Bool.true_and] at hC
          repeat' first | (with_reducible refine And.intro (by omega) ?_) | (refine SW.seq_k fun K hK => ?_) | (refine SW.block ?_) | ((first | refine SW.region ?_ | refine SW.regionD (Checked.mixed Tryz.checked) (by kernel_rfl) ?_ | refine SW.cond ?_ | refine SW.skip ?_ | refine SW.exit ?_ | refine SW.ret ?_ | (refine allF_i fun b hb => ?_; replace hD := And.intro hb hD; clear hb; try simp only [fresh_cons, fresh_nil, and_true, ne_eq, neF] at hD) | simp only [appK, appOsK]); try simp only [go_sem, ↓reduceIte, reduceCtorEq, Nat.reduceAdd, Nat.reduceMul, Nat.reduceSub, Nat.reduceLT, Nat.reduceLeDiff, Nat.reduceEqDiff, Nat.reduceBEq, Nat.reduceBneDiff, Int.reduceToNat, Int.reduceEq, hD, hli, ie, i0, w1, tf, f1, f2, f3, h1i, h2i]) | (refine And.intro (by omega) ?_) | (refine ifI (fun hc => ?_) (fun hc => ?_) <;> first | (exfalso; omega) | skip) | (first | (apply hK; clear hK K) | ((iterate 1 (clear hK K)); apply hK; clear hK K) | ((iterate 2 (clear hK K)); apply hK; clear hK K) | ((iterate 3 (clear hK K)); apply hK; clear hK K) | ((iterate 4 (clear hK K)); apply hK; clear hK K) | ((iterate 5 (clear hK K)); apply hK; clear hK K))
          refine Rnd.sub (l.length - (i + 1)) (by omega) ((hI _ _).2 ⟨i + 1, rfl, by omega, hC, rfl⟩) (by repeat' (first | exact rfl | exact trivial | exact int_eq (by omega) | exact int_eq (by (rw [i64_wrap] <;> omega)) | constructor))
        · have h2i : (1000 : Int) < ((v.2.2.size : Nat) : Int) := by omega
          rw [decide_eq_false h2, Bool.and_false, Bool.false_and] at hC
          subst hC
          repeat' first | (with_reducible refine And.intro (by omega) ?_) | (refine SW.seq_k fun K hK => ?_) | (refine SW.block ?_) | ((first | refine SW.region ?_ | refine SW.regionD (Checked.mixed Tryz.checked) (by kernel_rfl) ?_ | refine SW.cond ?_ | refine SW.skip ?_ | refine SW.exit ?_ | refine SW.ret ?_ | (refine allF_i fun b hb => ?_; replace hD := And.intro hb hD; clear hb; try simp only [fresh_cons, fresh_nil, and_true, ne_eq, neF] at hD) | simp only [appK, appOsK]); try simp only [go_sem, ↓reduceIte, reduceCtorEq, Nat.reduceAdd, Nat.reduceMul, Nat.reduceSub, Nat.reduceLT, Nat.reduceLeDiff, Nat.reduceEqDiff, Nat.reduceBEq, Nat.reduceBneDiff, Int.reduceToNat, Int.reduceEq, hD, hli, ie, i0, w1, tf, f1, f2, f3, h1i, h2i]) | (refine And.intro (by omega) ?_) | (refine ifI (fun hc => ?_) (fun hc => ?_) <;> first | (exfalso; omega) | skip) | (first | (apply hK; clear hK K) | ((iterate 1 (clear hK K)); apply hK; clear hK K) | ((iterate 2 (clear hK K)); apply hK; clear hK K) | ((iterate 3 (clear hK K)); apply hK; clear hK K) | ((iterate 4 (clear hK K)); apply hK; clear hK K) | ((iterate 5 (clear hK K)); apply hK; clear hK K))
          refine ret_pure ?_; simp only [resL_tmp, resL_nil, tupOf, go_sem, ↓reduceIte, reduceCtorEq, Nat.reduceAdd, Nat.reduceMul, Nat.reduceSub, Nat.reduceLT, Nat.reduceLeDiff, Nat.reduceEqDiff, Nat.reduceBEq, Nat.reduceBneDiff, Int.reduceToNat, Int.reduceEq, hD]
      · have h1i : (1000 : Int) < ((s.size : Nat) : Int) := by omega
        rw [decide_eq_false h1, Bool.false_and, Bool.false_and] at hC
        subst hC
        repeat' first | (with_reducible refine And.intro (by omega) ?_) | (refine SW.seq_k fun K hK => ?_) | (refine SW.block ?_) | ((first | refine SW.region ?_ | refine SW.regionD (Checked.mixed Tryz.checked) (by kernel_rfl) ?_ | refine SW.cond ?_ | refine SW.skip ?_ | refine SW.exit ?_ | refine SW.ret ?_ | (refine allF_i fun b hb => ?_; replace hD := And.intro hb hD; clear hb; try simp only [fresh_cons, fresh_nil, and_true, ne_eq, neF] at hD) | simp only [appK, appOsK]); try simp only [go_sem, ↓reduceIte, reduceCtorEq, Nat.reduceAdd, Nat.reduceMul, Nat.reduceSub, Nat.reduceLT, Nat.reduceLeDiff, Nat.reduceEqDiff, Nat.reduceBEq, Nat.reduceBneDiff, Int.reduceToNat, Int.reduceEq, hD, hli, ie, i0, w1, tf, f1, f2, f3, h1i]) | (refine And.intro (by omega) ?_) | (refine ifI (fun hc => ?_) (fun hc => ?_) <;> first | (exfalso; omega) | skip) | (first | (apply hK; clear hK K) | ((iterate 1 (clear hK K)); apply hK; clear hK K) | ((iterate 2 (clear hK K)); apply hK; clear hK K) | ((iterate 3 (clear hK K)); apply hK; clear hK K) | ((iterate 4 (clear hK K)); apply hK; clear hK K) | ((iterate 5 (clear hK K)); apply hK; clear hK K))
        refine ret_pure ?_; simp only [resL_tmp, resL_nil, tupOf, go_sem, ↓reduceIte, reduceCtorEq, Nat.reduceAdd, Nat.reduceMul, Nat.reduceSub, Nat.reduceLT, Nat.reduceLeDiff, Nat.reduceEqDiff, Nat.reduceBEq, Nat.reduceBneDiff, Int.reduceToNat, Int.reduceEq, hD]
    · have hli : ¬ ((i : Nat) : Int) < ((l.length : Nat) : Int) := by omega
      rw [List.drop_of_length_le (by omega)] at hC
      subst hC
      repeat' first | (with_reducible refine And.intro (by omega) ?_) | (refine SW.seq_k fun K hK => ?_) | (refine SW.block ?_) | ((first | refine SW.region ?_ | refine SW.regionD (Checked.mixed Tryz.checked) (by kernel_rfl) ?_ | refine SW.cond ?_ | refine SW.skip ?_ | refine SW.exit ?_ | refine SW.ret ?_ | (refine allF_i fun b hb => ?_; replace hD := And.intro hb hD; clear hb; try simp only [fresh_cons, fresh_nil, and_true, ne_eq, neF] at hD) | simp only [appK, appOsK]); try simp only [go_sem, ↓reduceIte, reduceCtorEq, Nat.reduceAdd, Nat.reduceMul, Nat.reduceSub, Nat.reduceLT, Nat.reduceLeDiff, Nat.reduceEqDiff, Nat.reduceBEq, Nat.reduceBneDiff, Int.reduceToNat, Int.reduceEq, hD, hli]) | (refine And.intro (by omega) ?_) | (refine ifI (fun hc => ?_) (fun hc => ?_) <;> first | (exfalso; omega) | skip) | (first | (apply hK; clear hK K) | ((iterate 1 (clear hK K)); apply hK; clear hK K) | ((iterate 2 (clear hK K)); apply hK; clear hK K) | ((iterate 3 (clear hK K)); apply hK; clear hK K) | ((iterate 4 (clear hK K)); apply hK; clear hK K) | ((iterate 5 (clear hK K)); apply hK; clear hK K))
      refine ret_pure ?_; simp only [resL_tmp, resL_nil, tupOf, go_sem, ↓reduceIte, reduceCtorEq, Nat.reduceAdd, Nat.reduceMul, Nat.reduceSub, Nat.reduceLT, Nat.reduceLeDiff, Nat.reduceEqDiff, Nat.reduceBEq, Nat.reduceBneDiff, Int.reduceToNat, Int.reduceEq, hD]
  · have hmi : m < (l.length : Int) := by omega
    rw [decide_eq_false hm, Bool.false_and] at hR
    subst hR
    refine Call.enter' (N := 33) (rs := [.tmp 4]) Tryz.func5 rfl rfl rfl (by decide) rfl ?_; simp only [argT]; have hD : (0 : Nat) = 0 := rfl
    repeat' first | (with_reducible refine And.intro (by omega) ?_) | (refine SW.seq_k fun K hK => ?_) | (refine SW.block ?_) | ((first | refine SW.region ?_ | refine SW.regionD (Checked.mixed Tryz.checked) (by kernel_rfl) ?_ | refine SW.cond ?_ | refine SW.skip ?_ | refine SW.exit ?_ | refine SW.ret ?_ | (refine allF_i fun b hb => ?_; replace hD := And.intro hb hD; clear hb; try simp only [fresh_cons, fresh_nil, and_true, ne_eq, neF] at hD) | simp only [appK, appOsK]); try simp only [go_sem, ↓reduceIte, reduceCtorEq, Nat.reduceAdd, Nat.reduceMul, Nat.reduceSub, Nat.reduceLT, Nat.reduceLeDiff, Nat.reduceEqDiff, Nat.reduceBEq, Nat.reduceBneDiff, Int.reduceToNat, Int.reduceEq, hD, hmi]) | (refine And.intro (by omega) ?_) | (refine ifI (fun hc => ?_) (fun hc => ?_) <;> first | (exfalso; omega) | skip) | (first | (apply hK; clear hK K) | ((iterate 1 (clear hK K)); apply hK; clear hK K) | ((iterate 2 (clear hK K)); apply hK; clear hK K) | ((iterate 3 (clear hK K)); apply hK; clear hK K) | ((iterate 4 (clear hK K)); apply hK; clear hK K) | ((iterate 5 (clear hK K)); apply hK; clear hK K))
    refine ret_pure ?_; simp only [resL_tmp, resL_nil, tupOf, go_sem, ↓reduceIte, reduceCtorEq, Nat.reduceAdd, Nat.reduceMul, Nat.reduceSub, Nat.reduceLT, Nat.reduceLeDiff, Nat.reduceEqDiff, Nat.reduceBEq, Nat.reduceBneDiff, Int.reduceToNat, Int.reduceEq, hD]

set_option maxHeartbeats 4000000 in
set_option maxRecDepth 20000 in
theorem plain_r (l : List Tok) (hl : l.length ≤ 1000000) (hs : ∀ t ∈ l, t.text.size ≤ 1000000) : PCall Tryz.prog 10 [TS l] (TS (plainS l)) := by
  obtain ⟨R, hR⟩ : ∃ R, R = plainS l := ⟨_, rfl⟩
  rw [← hR]
  have hC0 : R = [] ++ plainS (l.drop 0) := by rw [hR, List.drop_zero]; rfl
  clear hR
  refine Call.enter' (N := 35) (rs := [.tmp 2]) Tryz.func10 rfl rfl rfl (by decide) rfl ?_; simp only [argT]; have hD : (0 : Nat) = 0 := rfl
  repeat' first | (with_reducible refine And.intro (by omega) ?_) | (refine SW.seq_k fun K hK => ?_) | (refine SW.block ?_) | ((first | refine SW.region ?_ | refine SW.regionD (Checked.mixed Tryz.checked) (by kernel_rfl) ?_ | refine SW.cond ?_ | refine SW.skip ?_ | refine SW.exit ?_ | refine SW.ret ?_ | (refine allF_i fun b hb => ?_; replace hD := And.intro hb hD; clear hb; try simp only [fresh_cons, fresh_nil, and_true, ne_eq, neF] at hD) | simp only [appK, appOsK]); try simp only [go_sem, ↓reduceIte, reduceCtorEq, Nat.reduceAdd, Nat.reduceMul, Nat.reduceSub, Nat.reduceLT, Nat.reduceLeDiff, Nat.reduceEqDiff, Nat.reduceBEq, Nat.reduceBneDiff, Int.reduceToNat, Int.reduceEq, hD]) | (refine And.intro (by omega) ?_) | (refine ifI (fun hc => ?_) (fun hc => ?_) <;> first | (exfalso; omega) | skip) | (first | (apply hK; clear hK K) | ((iterate 1 (clear hK K)); apply hK; clear hK K) | ((iterate 2 (clear hK K)); apply hK; clear hK K) | ((iterate 3 (clear hK K)); apply hK; clear hK K) | ((iterate 4 (clear hK K)); apply hK; clear hK K) | ((iterate 5 (clear hK K)); apply hK; clear hK K))
  obtain ⟨I, hI⟩ : ∃ I : Nat → St → Prop, ∀ k S, I k S ↔ (∃ (i : Nat) (acc : List Tok) (x : SV) (h : Heap), k = l.length - i ∧ i ≤ l.length ∧ acc.length ≤ i ∧ R = acc ++ plainS (l.drop i) ∧ Acc 7 x h [] acc.length (cellsT acc) ∧ S = ⟨[(0, TS l), (3, x), (4, I64 i)], h⟩) := ⟨fun k S => _, fun _ _ => Iff.rfl⟩
  refine SW.loop' I l.length ((hI _ _).2 ⟨0, [], _, _, rfl, Nat.zero_le _, Nat.le_refl _, hC0, .nil _ _, rfl⟩) (by repeat' (first | exact rfl | exact trivial | exact int_eq (by omega) | exact int_eq (by (rw [i64_wrap] <;> omega)) | constructor)) ?_
  clear hC0
  intro k S hIn
  obtain ⟨i, acc, x, h, rfl, hi, hacc, hC, hB, rfl⟩ := (hI _ _).1 hIn
  clear hIn
  have ie : ((i : Nat) : Int).toNat = i := Int.toNat_natCast _
  have i0 : (0 : Int) ≤ ((i : Nat) : Int) := by omega
  by_cases hlt : i < l.length
  · have hli : ((i : Nat) : Int) < ((l.length : Nat) : Int) := by omega
    have w1 : IntKind.i64.wrap ((i : Int) + 1) = ((i + 1 : Nat) : Int) := by rw [i64_wrap (by omega) (by omega)]; omega
    have hg : l.getD i tok0 = l[i] := by simp [List.getD_eq_getElem?_getD, hlt]
    have hd : l.drop i = l.getD i tok0 :: l.drop (i + 1) := by rw [List.drop_eq_getElem_cons hlt, hg]
    have hsz : (l.getD i tok0).text.size ≤ 1000000 := by rw [hg]; exact hs _ (List.getElem_mem hlt)
    rw [hd] at hC
    obtain ⟨k, s, ⟨a, n, t⟩, ln, cl, ht⟩ : ∃ k s v ln cl, l.getD i tok0 = ⟨k, s, v, ln, cl⟩ := ⟨_, _, _, _, _, rfl⟩
    have tf : tokF l i = [I64 k, Str s, I64 a, I64 n, Str t, I64 ln, I64 cl] := by unfold tokF; rw [ht]; rfl
    rw [ht] at hC hsz
    simp only at hsz
    have f1 : (([I64 k, Str s, I64 a, I64 n, Str t, I64 ln, I64 cl] : List SV).drop 1).take 1 = [Str s] := rfl
    have tk := token_r s hsz
    have tv := tvalid_r k s a n t ln cl hsz
    have pc : plainS (⟨k, s, (a, n, t), ln, cl⟩ :: l.drop (i + 1)) = if vtok k s (a, n, t) = true then ⟨k, s, (a, n, t), 0, 0⟩ :: plainS (l.drop (i + 1)) else plainS (l.drop (i + 1)) := by
      unfold plainS
      rw [List.filter_cons]
      by_cases q : vtok k s (a, n, t) = true
      · rw [if_pos q, if_pos (show vTok ⟨k, s, (a, n, t), ln, cl⟩ = true from q)]
        rfl
      · rw [if_neg q, if_neg (show ¬ vTok ⟨k, s, (a, n, t), ln, cl⟩ = true from q)]
    rw [pc] at hC
    cases hv : vtok k s (a, n, t) with
    | true =>
      rw [hv] at tv
      rw [hv, if_pos rfl] at hC
      have h2 : tokenS s.data.toList = some (k, a, n, t) := by
        unfold vtok at hv
        exact of_decide_eq_true hv
      rw [h2] at tk
      simp only at tk
      have ba : (acc.length + 1) * 104 ≤ 140737488355328 := by omega
      have hC2 : R = (acc ++ [⟨k, s, (a, n, t), 0, 0⟩]) ++ plainS (l.drop (i + 1)) := by rw [hC, List.append_assoc]; rfl
      rcases hB.cases with ⟨e0, e1, rfl, rfl⟩ | ⟨b, e0, rfl, hle⟩
      · repeat' first | (with_reducible refine And.intro (by omega) ?_) | (refine SW.seq_k fun K hK => ?_) | (refine SW.block ?_) | ((first | refine SW.region ?_ | refine SW.regionD (Checked.mixed Tryz.checked) (by kernel_rfl) ?_ | refine SW.cond ?_ | refine SW.skip ?_ | refine SW.exit ?_ | refine SW.ret ?_ | refine Call.of_pure (tk) ?_ | refine ⟨_, tk, ?_⟩ | refine Call.of_pure (tv) ?_ | refine ⟨_, tv, ?_⟩ | (refine allF_i fun b hb => ?_; replace hD := And.intro hb hD; clear hb; try simp only [fresh_cons, fresh_nil, and_true, ne_eq, neF] at hD) | simp only [appK, appOsK]); try simp only [go_sem, ↓reduceIte, reduceCtorEq, Nat.reduceAdd, Nat.reduceMul, Nat.reduceSub, Nat.reduceLT, Nat.reduceLeDiff, Nat.reduceEqDiff, Nat.reduceBEq, Nat.reduceBneDiff, Int.reduceToNat, Int.reduceEq, hD, hli, ie, i0, w1, tf, f1, ba, true_implies]) | (refine And.intro (by omega) ?_) | (refine ifI (fun hc => ?_) (fun hc => ?_) <;> first | (exfalso; omega) | skip) | (first | (apply hK; clear hK K) | ((iterate 1 (clear hK K)); apply hK; clear hK K) | ((iterate 2 (clear hK K)); apply hK; clear hK K) | ((iterate 3 (clear hK K)); apply hK; clear hK K) | ((iterate 4 (clear hK K)); apply hK; clear hK K) | ((iterate 5 (clear hK K)); apply hK; clear hK K))
        obtain rfl : acc = [] := List.eq_nil_of_length_eq_zero e0
        obtain ⟨hB2, hle2⟩ := Acc.keep (sz := 7) (n := 1) (b := b) (cs := tokC ⟨k, s, (a, n, t), 0, 0⟩) (h' := _) (List.mem_cons_self ..) rfl
        refine Rnd.le (hle2 _) ?_
        refine Rnd.sub (l.length - (i + 1)) (by omega) ((hI _ _).2 ⟨i + 1, [] ++ [⟨k, s, (a, n, t), 0, 0⟩], _, _, rfl, by omega, by rw [List.length_append]; simp only [List.length_cons, List.length_nil]; omega, hC2, hB2, rfl⟩) (by repeat' (first | exact rfl | exact trivial | exact int_eq (by omega) | exact int_eq (by (rw [i64_wrap] <;> omega)) | constructor))
      · refine SW.le (hle _) ?_
        repeat' first | (with_reducible refine And.intro (by omega) ?_) | (refine SW.seq_k fun K hK => ?_) | (refine SW.block ?_) | ((first | refine SW.region ?_ | refine SW.regionD (Checked.mixed Tryz.checked) (by kernel_rfl) ?_ | refine SW.cond ?_ | refine SW.skip ?_ | refine SW.exit ?_ | refine SW.ret ?_ | refine Call.of_pure (tk) ?_ | refine ⟨_, tk, ?_⟩ | refine Call.of_pure (tv) ?_ | refine ⟨_, tv, ?_⟩ | (refine allF_i fun b hb => ?_; replace hD := And.intro hb hD; clear hb; try simp only [fresh_cons, fresh_nil, and_true, ne_eq, neF] at hD) | simp only [appK, appOsK]); try simp only [go_sem, ↓reduceIte, reduceCtorEq, Nat.reduceAdd, Nat.reduceMul, Nat.reduceSub, Nat.reduceLT, Nat.reduceLeDiff, Nat.reduceEqDiff, Nat.reduceBEq, Nat.reduceBneDiff, Int.reduceToNat, Int.reduceEq, hD, hli, ie, i0, w1, tf, f1, ba, true_implies]) | (refine And.intro (by omega) ?_) | (refine ifI (fun hc => ?_) (fun hc => ?_) <;> first | (exfalso; omega) | skip) | (first | (apply hK; clear hK K) | ((iterate 1 (clear hK K)); apply hK; clear hK K) | ((iterate 2 (clear hK K)); apply hK; clear hK K) | ((iterate 3 (clear hK K)); apply hK; clear hK K) | ((iterate 4 (clear hK K)); apply hK; clear hK K) | ((iterate 5 (clear hK K)); apply hK; clear hK K))
        obtain ⟨hB2, hle2⟩ := Acc.keep (sz := 7) (n := acc.length + 1) (b := b) (cs := cellsT acc ++ tokC ⟨k, s, (a, n, t), 0, 0⟩) (h' := _) (List.mem_cons_of_mem _ (List.mem_cons_of_mem _ (List.mem_cons_self ..))) (by rw [List.length_append, ← cells_len]; show _ = _ + 7; omega)
        refine Rnd.le (hle2 _) ?_
        refine Rnd.sub (l.length - (i + 1)) (by omega) ((hI _ _).2 ⟨i + 1, acc ++ [⟨k, s, (a, n, t), 0, 0⟩], _, _, rfl, by omega, by rw [List.length_append]; simp only [List.length_cons, List.length_nil]; omega, hC2, by rw [cells_snoc, List.length_append]; exact hB2, rfl⟩) (by repeat' (first | exact rfl | exact trivial | exact int_eq (by omega) | exact int_eq (by (rw [i64_wrap] <;> omega)) | constructor))
    | false =>
      rw [hv] at tv
      rw [hv, if_neg (by simp)] at hC
      rcases hB.cases with ⟨e0, e1, rfl, rfl⟩ | ⟨b, e0, rfl, hle⟩
      · cases ht2 : tokenS s.data.toList with
        | none =>
          rw [ht2] at tk
          simp only at tk
          repeat' first | (with_reducible refine And.intro (by omega) ?_) | (refine SW.seq_k fun K hK => ?_) | (refine SW.block ?_) | ((first | refine SW.region ?_ | refine SW.regionD (Checked.mixed Tryz.checked) (by kernel_rfl) ?_ | refine SW.cond ?_ | refine SW.skip ?_ | refine SW.exit ?_ | refine SW.ret ?_ | refine Call.of_pure (tk) ?_ | refine ⟨_, tk, ?_⟩ | refine Call.of_pure (tv) ?_ | refine ⟨_, tv, ?_⟩ | (refine allF_i fun b hb => ?_; replace hD := And.intro hb hD; clear hb; try simp only [fresh_cons, fresh_nil, and_true, ne_eq, neF] at hD) | simp only [appK, appOsK]); try simp only [go_sem, ↓reduceIte, reduceCtorEq, Nat.reduceAdd, Nat.reduceMul, Nat.reduceSub, Nat.reduceLT, Nat.reduceLeDiff, Nat.reduceEqDiff, Nat.reduceBEq, Nat.reduceBneDiff, Int.reduceToNat, Int.reduceEq, hD, hli, ie, i0, w1, tf, f1]) | (refine And.intro (by omega) ?_) | (refine ifI (fun hc => ?_) (fun hc => ?_) <;> first | (exfalso; omega) | skip) | (first | (apply hK; clear hK K) | ((iterate 1 (clear hK K)); apply hK; clear hK K) | ((iterate 2 (clear hK K)); apply hK; clear hK K) | ((iterate 3 (clear hK K)); apply hK; clear hK K) | ((iterate 4 (clear hK K)); apply hK; clear hK K) | ((iterate 5 (clear hK K)); apply hK; clear hK K))
          refine Rnd.drop (Rnd.sub (l.length - (i + 1)) (by omega) ((hI _ _).2 ⟨i + 1, acc, _, _, rfl, by omega, by omega, hC, by rw [e0, e1]; exact .nil _ _, rfl⟩) (by repeat' (first | exact rfl | exact trivial | exact int_eq (by omega) | exact int_eq (by (rw [i64_wrap] <;> omega)) | constructor)))
        | some kv =>
          obtain ⟨k2, v2⟩ := kv
          rw [ht2] at tk
          simp only at tk
          repeat' first | (with_reducible refine And.intro (by omega) ?_) | (refine SW.seq_k fun K hK => ?_) | (refine SW.block ?_) | ((first | refine SW.region ?_ | refine SW.regionD (Checked.mixed Tryz.checked) (by kernel_rfl) ?_ | refine SW.cond ?_ | refine SW.skip ?_ | refine SW.exit ?_ | refine SW.ret ?_ | refine Call.of_pure (tk) ?_ | refine ⟨_, tk, ?_⟩ | refine Call.of_pure (tv) ?_ | refine ⟨_, tv, ?_⟩ | (refine allF_i fun b hb => ?_; replace hD := And.intro hb hD; clear hb; try simp only [fresh_cons, fresh_nil, and_true, ne_eq, neF] at hD) | simp only [appK, appOsK]); try simp only [go_sem, ↓reduceIte, reduceCtorEq, Nat.reduceAdd, Nat.reduceMul, Nat.reduceSub, Nat.reduceLT, Nat.reduceLeDiff, Nat.reduceEqDiff, Nat.reduceBEq, Nat.reduceBneDiff, Int.reduceToNat, Int.reduceEq, hD, hli, ie, i0, w1, tf, f1]) | (refine And.intro (by omega) ?_) | (refine ifI (fun hc => ?_) (fun hc => ?_) <;> first | (exfalso; omega) | skip) | (first | (apply hK; clear hK K) | ((iterate 1 (clear hK K)); apply hK; clear hK K) | ((iterate 2 (clear hK K)); apply hK; clear hK K) | ((iterate 3 (clear hK K)); apply hK; clear hK K) | ((iterate 4 (clear hK K)); apply hK; clear hK K) | ((iterate 5 (clear hK K)); apply hK; clear hK K))
          refine Rnd.drop (Rnd.sub (l.length - (i + 1)) (by omega) ((hI _ _).2 ⟨i + 1, acc, _, _, rfl, by omega, by omega, hC, by rw [e0, e1]; exact .nil _ _, rfl⟩) (by repeat' (first | exact rfl | exact trivial | exact int_eq (by omega) | exact int_eq (by (rw [i64_wrap] <;> omega)) | constructor)))
      · refine SW.le (hle _) ?_
        cases ht2 : tokenS s.data.toList with
        | none =>
          rw [ht2] at tk
          simp only at tk
          repeat' first | (with_reducible refine And.intro (by omega) ?_) | (refine SW.seq_k fun K hK => ?_) | (refine SW.block ?_) | ((first | refine SW.region ?_ | refine SW.regionD (Checked.mixed Tryz.checked) (by kernel_rfl) ?_ | refine SW.cond ?_ | refine SW.skip ?_ | refine SW.exit ?_ | refine SW.ret ?_ | refine Call.of_pure (tk) ?_ | refine ⟨_, tk, ?_⟩ | refine Call.of_pure (tv) ?_ | refine ⟨_, tv, ?_⟩ | (refine allF_i fun b hb => ?_; replace hD := And.intro hb hD; clear hb; try simp only [fresh_cons, fresh_nil, and_true, ne_eq, neF] at hD) | simp only [appK, appOsK]); try simp only [go_sem, ↓reduceIte, reduceCtorEq, Nat.reduceAdd, Nat.reduceMul, Nat.reduceSub, Nat.reduceLT, Nat.reduceLeDiff, Nat.reduceEqDiff, Nat.reduceBEq, Nat.reduceBneDiff, Int.reduceToNat, Int.reduceEq, hD, hli, ie, i0, w1, tf, f1]) | (refine And.intro (by omega) ?_) | (refine ifI (fun hc => ?_) (fun hc => ?_) <;> first | (exfalso; omega) | skip) | (first | (apply hK; clear hK K) | ((iterate 1 (clear hK K)); apply hK; clear hK K) | ((iterate 2 (clear hK K)); apply hK; clear hK K) | ((iterate 3 (clear hK K)); apply hK; clear hK K) | ((iterate 4 (clear hK K)); apply hK; clear hK K) | ((iterate 5 (clear hK K)); apply hK; clear hK K))
          obtain ⟨hB2, hle2⟩ := Acc.keep (sz := 7) (n := acc.length) (cs := cellsT acc) (h' := _) (List.mem_cons_of_mem _ (List.mem_cons_self ..)) e0
          refine Rnd.le (hle2 _) ?_
          refine Rnd.sub (l.length - (i + 1)) (by omega) ((hI _ _).2 ⟨i + 1, acc, _, _, rfl, by omega, by omega, hC, hB2, rfl⟩) (by repeat' (first | exact rfl | exact trivial | exact int_eq (by omega) | exact int_eq (by (rw [i64_wrap] <;> omega)) | constructor))
        | some kv =>
          obtain ⟨k2, v2⟩ := kv
          rw [ht2] at tk
          simp only at tk
          repeat' first | (with_reducible refine And.intro (by omega) ?_) | (refine SW.seq_k fun K hK => ?_) | (refine SW.block ?_) | ((first | refine SW.region ?_ | refine SW.regionD (Checked.mixed Tryz.checked) (by kernel_rfl) ?_ | refine SW.cond ?_ | refine SW.skip ?_ | refine SW.exit ?_ | refine SW.ret ?_ | refine Call.of_pure (tk) ?_ | refine ⟨_, tk, ?_⟩ | refine Call.of_pure (tv) ?_ | refine ⟨_, tv, ?_⟩ | (refine allF_i fun b hb => ?_; replace hD := And.intro hb hD; clear hb; try simp only [fresh_cons, fresh_nil, and_true, ne_eq, neF] at hD) | simp only [appK, appOsK]); try simp only [go_sem, ↓reduceIte, reduceCtorEq, Nat.reduceAdd, Nat.reduceMul, Nat.reduceSub, Nat.reduceLT, Nat.reduceLeDiff, Nat.reduceEqDiff, Nat.reduceBEq, Nat.reduceBneDiff, Int.reduceToNat, Int.reduceEq, hD, hli, ie, i0, w1, tf, f1]) | (refine And.intro (by omega) ?_) | (refine ifI (fun hc => ?_) (fun hc => ?_) <;> first | (exfalso; omega) | skip) | (first | (apply hK; clear hK K) | ((iterate 1 (clear hK K)); apply hK; clear hK K) | ((iterate 2 (clear hK K)); apply hK; clear hK K) | ((iterate 3 (clear hK K)); apply hK; clear hK K) | ((iterate 4 (clear hK K)); apply hK; clear hK K) | ((iterate 5 (clear hK K)); apply hK; clear hK K))
          obtain ⟨hB2, hle2⟩ := Acc.keep (sz := 7) (n := acc.length) (cs := cellsT acc) (h' := _) (List.mem_cons_of_mem _ (List.mem_cons_self ..)) e0
          refine Rnd.le (hle2 _) ?_
          refine Rnd.sub (l.length - (i + 1)) (by omega) ((hI _ _).2 ⟨i + 1, acc, _, _, rfl, by omega, by omega, hC, hB2, rfl⟩) (by repeat' (first | exact rfl | exact trivial | exact int_eq (by omega) | exact int_eq (by (rw [i64_wrap] <;> omega)) | constructor))
  · have hli : ¬ ((i : Nat) : Int) < ((l.length : Nat) : Int) := by omega
    rw [List.drop_of_length_le (by omega)] at hC
    have hR2 : R = acc := by rw [hC]; exact List.append_nil _
    subst hR2
    refine SW.le (St.le_acc_fl (i := 3) rfl hB (tokF R) (cells_at R)) ?_
    repeat' first | (with_reducible refine And.intro (by omega) ?_) | (refine SW.seq_k fun K hK => ?_) | (refine SW.block ?_) | ((first | refine SW.region ?_ | refine SW.regionD (Checked.mixed Tryz.checked) (by kernel_rfl) ?_ | refine SW.cond ?_ | refine SW.skip ?_ | refine SW.exit ?_ | refine SW.ret ?_ | (refine allF_i fun b hb => ?_; replace hD := And.intro hb hD; clear hb; try simp only [fresh_cons, fresh_nil, and_true, ne_eq, neF] at hD) | simp only [appK, appOsK]); try simp only [go_sem, ↓reduceIte, reduceCtorEq, Nat.reduceAdd, Nat.reduceMul, Nat.reduceSub, Nat.reduceLT, Nat.reduceLeDiff, Nat.reduceEqDiff, Nat.reduceBEq, Nat.reduceBneDiff, Int.reduceToNat, Int.reduceEq, hD, hli]) | (refine And.intro (by omega) ?_) | (refine ifI (fun hc => ?_) (fun hc => ?_) <;> first | (exfalso; omega) | skip) | (first | (apply hK; clear hK K) | ((iterate 1 (clear hK K)); apply hK; clear hK K) | ((iterate 2 (clear hK K)); apply hK; clear hK K) | ((iterate 3 (clear hK K)); apply hK; clear hK K) | ((iterate 4 (clear hK K)); apply hK; clear hK K) | ((iterate 5 (clear hK K)); apply hK; clear hK K))
    refine ret_pure ?_; simp only [resL_tmp, resL_nil, tupOf, go_sem, ↓reduceIte, reduceCtorEq, Nat.reduceAdd, Nat.reduceMul, Nat.reduceSub, Nat.reduceLT, Nat.reduceLeDiff, Nat.reduceEqDiff, Nat.reduceBEq, Nat.reduceBneDiff, Int.reduceToNat, Int.reduceEq, hD]
end Go.Proofs.YtajbifibhgppfaaGreatDoor
