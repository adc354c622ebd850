/- Several texts in one: UD, UE, NS, IG, NC, ND, NE, NF, NG, NI, NJ, NK, NL, NM, NN, NO. -/
import Derived.Test.YtpidncgibgiidaaGreatQ4
import Derived.Test.YtpidncgibgiidaaGreatS3
import Derived.Test.YtpidncgibgiidaaGreatQ3
import Derived.Test.YtpidncgibgiidaaGreatS4
import Derived.Test.YtpidncgibgiidaaGreatZ26
import Derived.Test.YtpidncgibgiidaaGreatZ18
import Derived.Test.YtpidncgibgiidaaGreatQ2
import Derived.Test.YtpidncgibgiidaaGreatZ22
set_option linter.unusedSimpArgs false
set_option linter.unusedVariables false
set_option linter.unusedSectionVars false
set_option maxHeartbeats 8000000
set_option maxRecDepth 20000
namespace Go.Proofs.YtpidncgibgiidaaGreat
open Go Go.Ab Go.Ab.A34 Go.Ab.A15
variable [Gl] [Tabs]
theorem compare_c (a b : ByteArray) : PCall Tryz.prog 116 [Str a, Str b] (I64 (Lib.compareBytes a.data.toList b.data.toList)) :=
  PCall.of_calls ⟨_, Tryz.func116, by kernel_rfl, by kernel_rfl⟩ fun w E vs _ _ _ hr => by
    obtain rfl := reps2 hr
    exact (Tryz.strings_Compare a b w).mono fun e w' ⟨he, hw⟩ => ⟨_, he, fun _ => .sc _, by rw [hw]; exact ⟨RowKit.Below.refl _ _, Nat.le_refl _⟩⟩
theorem cmp_l (x y : Int) : PCall Tryz.prog 115 [I64 x, I64 y] (I64 (cmpI x y)) := by
  have nan : ∀ z, PCall Tryz.prog 145 [I64 z] (SB false) := fun z => by
    refine Call.enter' (N := 6) (rs := [.tmp 2]) Tryz.func145 rfl rfl rfl (by decide) rfl ?_; simp only [argT]; have hD : (0 : Nat) = 0 := rfl
    repeat' first | (refine SW.seq_k fun K hK => ?_) | ((first | refine SW.region ?_ | refine SW.ret ?_); try simp only [go_sem, hD]) | (apply hK; clear hK K)
    refine ret_pure ?_; simp only [resL_tmp, resL_nil, tupOf, go_sem, hD]
  have cx := nan x
  have cy := nan y
  obtain ⟨R, hR⟩ : ∃ R, R = cmpI x y := ⟨_, rfl⟩
  rw [← hR]
  unfold cmpI at hR
  by_cases h1 : x < y
  · rw [if_pos h1] at hR
    subst hR
    refine Call.enter' (N := 20) (rs := [.tmp 4]) Tryz.func115 rfl rfl rfl (by decide) rfl ?_; simp only [argT]; have hD : (0 : Nat) = 0 := rfl
    repeat' first | (refine SW.seq_k fun K hK => ?_) | ((first | refine SW.region ?_ | refine SW.cond ?_ | refine SW.skip ?_ | refine SW.ret ?_ | refine Call.of_pure (cx) ?_ | refine Call.of_pure (cy) ?_); try simp only [go_sem, hD, h1]) | (apply hK; clear hK K)
    refine ret_pure ?_; simp only [resL_tmp, resL_nil, tupOf, go_sem, hD]
  · rw [if_neg h1] at hR
    by_cases h2 : y < x
    · rw [if_pos h2] at hR
      subst hR
      refine Call.enter' (N := 20) (rs := [.tmp 4]) Tryz.func115 rfl rfl rfl (by decide) rfl ?_; simp only [argT]; have hD : (0 : Nat) = 0 := rfl
      repeat' first | (refine SW.seq_k fun K hK => ?_) | ((first | refine SW.region ?_ | refine SW.cond ?_ | refine SW.skip ?_ | refine SW.ret ?_ | refine Call.of_pure (cx) ?_ | refine Call.of_pure (cy) ?_); try simp only [go_sem, hD, h1, h2]) | (apply hK; clear hK K)
      refine ret_pure ?_; simp only [resL_tmp, resL_nil, tupOf, go_sem, hD]
    · rw [if_neg h2] at hR
      subst hR
      refine Call.enter' (N := 20) (rs := [.tmp 4]) Tryz.func115 rfl rfl rfl (by decide) rfl ?_; simp only [argT]; have hD : (0 : Nat) = 0 := rfl
      repeat' first | (refine SW.seq_k fun K hK => ?_) | ((first | refine SW.region ?_ | refine SW.cond ?_ | refine SW.skip ?_ | refine SW.ret ?_ | refine Call.of_pure (cx) ?_ | refine Call.of_pure (cy) ?_); try simp only [go_sem, hD, h1, h2]) | (apply hK; clear hK K)
      refine ret_pure ?_; simp only [resL_tmp, resL_nil, tupOf, go_sem, hD]
theorem cmp3_or (a b : V3) : cmp3 a b = orL [cmpI a.1 b.1, cmpI a.2.1 b.2.1, Lib.compareBytes a.2.2.data.toList b.2.2.data.toList] := by
  unfold cmp3 cmpV orL orL orL orL
  change (if cmpI a.1 b.1 = 0 then (if cmpI a.2.1 b.2.1 = 0 then _ else cmpI a.2.1 b.2.1) else cmpI a.1 b.1) = _
  by_cases h1 : cmpI a.1 b.1 = 0
  · rw [if_pos h1, if_pos h1]
    by_cases h2 : cmpI a.2.1 b.2.1 = 0
    · rw [if_pos h2, if_pos h2]
      split <;> simp_all
    · rw [if_neg h2, if_neg h2]
  · rw [if_neg h1, if_neg h1]
theorem compare_p (a b : V3) : PCall Tryz.prog 74 [VV a, VV b] (I64 (cmp3 a b)) := by
  rw [cmp3_or]
  obtain ⟨a1, a2, a3⟩ := a
  obtain ⟨b1, b2, b3⟩ := b
  simp only
  have c1 := cmp_n a1 b1
  have c2 := cmp_l a2 b2
  have c3 := compare_c a3 b3
  generalize cmpI a1 b1 = x at *
  generalize cmpI a2 b2 = y at *
  generalize Lib.compareBytes a3.data.toList b3.data.toList = z at *
  have c4 := or_n [x, y, z] 3 rfl (by simp)
  generalize orL [x, y, z] = u at *
  have cl : ∀ bk H, Heap.find H bk = some (.svs [I64 x, I64 y, I64 z]) → Ab.Call Tryz.prog 94 [.os bk 0 3 1] H (fun r h' => r = I64 u ∧ h' = H) := fun bk H hH =>
    Call.lend (args := [.os bk 0 3 1]) (k := .svs [I64 x, I64 y, I64 z]) (off := 0) (sz := 1) 0 (iF [x, y, z]) (by simp) rfl hH (by show 0 + 3 * 1 ≤ 3; omega) (fun j hj => by
      rcases (by omega : j = 0 ∨ j = 1 ∨ j = 2) with rfl | rfl | rfl <;> rfl) c4
  refine Call.enter' (N := 22) (rs := [.tmp 4]) Tryz.func74 rfl rfl rfl (by decide) rfl ?_; simp only [argT]; have hD : (0 : Nat) = 0 := rfl
  repeat' first | ((refine Call.mono (cl _ _ (by simp [find_cons, hD])) ?_); (intro r h' hx); (obtain ⟨rfl, rfl⟩ := hx); (try simp only [go_sem, hD])) | (refine SW.seq_k fun K hK => ?_) | ((first | refine SW.region ?_ | refine SW.regionY [16] (id := 1) (Checked.mixed Tryz.checked) ((.one 0 [0, 1, 4, 9, 14, 15, 16, 17] (.one 1 [1, 4, 9, 14, 15, 16, 17] (.one 2 [2, 3, 4, 9, 14, 15, 16, 17] (.one 3 [3, 4, 9, 14, 15, 16, 17] (.one 4 [4, 9, 14, 15, 16, 17] (.one 5 [5, 6, 9, 14, 15, 16, 17] (.one 6 [6, 9, 14, 15, 16, 17] (.one 7 [7, 8, 9, 14, 15, 16, 17] (.one 8 [8, 9, 14, 15, 16, 17] (.one 9 [9, 14, 15, 16, 17] (.one 10 [10, 11, 14, 15, 16, 17] (.one 11 [11, 14, 15, 16, 17] (.one 12 [12, 13, 14, 15, 16, 17] (.one 13 [13, 14, 15, 16, 17] (.one 14 [14, 15, 16, 17] (.alt 15 false (.alt 16 true (.one 17 [17] .done) .nil) .nil)))))))))))))))) : OY) (by kernel_rfl) ?_ | refine SW.ret ?_ | refine ⟨_, c1, ?_⟩ | refine ⟨_, c2, ?_⟩ | refine ⟨_, c3, ?_⟩ | (refine allF_i fun b hb => ?_; replace hD := And.intro hb hD; clear hb; try simp only [fresh_cons, fresh_nil, and_true, ne_eq, neF] at hD)); try simp only [go_sem, hD, true_implies]) | (apply hK; clear hK K)
  all_goals
    refine retQ_le (St.le_sublist (h' := []) (fun x hx => by cases hx) (fun _ => by simp)) ?_
    simp only [resL_tmp, resL_nil, tupOf, go_sem, hD]
theorem compF_v (x y : List V3) (hx : x.length ≤ 1000) (hy : y.length ≤ 1000) : PCall Tryz.prog 73 [VL x, VL y, .fn (.func 74) [] []] (I64 (lexV x y)) := by
  obtain ⟨R, hR⟩ : ∃ R, R = lexV x y := ⟨_, rfl⟩
  rw [← hR]
  have hR0 : R = lexV (x.drop 0) (y.drop 0) := hR
  clear hR
  refine Call.enter' (N := 39) (rs := [.tmp 6]) Tryz.func73 rfl rfl rfl (by decide) rfl ?_; simp only [argT]; have hD : (0 : Nat) = 0 := rfl
  repeat' first | (refine SW.seq_k fun K hK => ?_) | (refine SW.region ?_; try simp only [go_sem, hD, true_implies]) | (apply hK; clear hK K)
  refine SW.block ?_
  obtain ⟨I, hI⟩ : ∃ I : Nat → St → Prop, ∀ k S, I k S ↔ (∃ (i : Nat) , k = x.length - i ∧ i ≤ x.length ∧ R = lexV (x.drop i) (y.drop i) ∧ i ≤ y.length ∧ S = ⟨[(0, VL x), (1, VL y), (2, .fn (.func 74) [] []), (11, VL x), (12, I64 x.length), (13, I64 i)], []⟩) := ⟨fun k S => _, fun _ _ => Iff.rfl⟩
  refine SW.loop' I (x.length) ((hI _ _).2 ⟨0, rfl, Nat.zero_le _, hR0, Nat.zero_le _, rfl⟩) (by repeat' (first | exact rfl | exact trivial | constructor)) ?_
  intro k S hIn
  obtain ⟨i, rfl, hi, hC, hiy, rfl⟩ := (hI _ _).1 hIn
  clear hIn
  have ie : ((i : Nat) : Int).toNat = i := Int.toNat_natCast _
  have i0 : (0 : Int) ≤ ((i : Nat) : Int) := by omega
  clear hR0
  by_cases hlt : i < x.length
  · have hli : ((i : Nat) : Int) < (((x.length) : Nat) : Int) := by omega
    have w1 : IntKind.i64.wrap ((i : Int) + 1) = ((i + 1 : Nat) : Int) := by rw [i64_wrap (by omega) (by omega)]; omega
    by_cases hly : i < y.length
    · have hlj : ¬ ((i : Nat) : Int) ≥ ((y.length : Nat) : Int) := by omega
      have hlj2 : ¬ ((y.length : Nat) : Int) ≤ ((i : Nat) : Int) := by omega
      have hlj3 : ((i : Nat) : Int) < ((y.length : Nat) : Int) := by omega
      rw [lexV_step hlt hly] at hC
      have fx : vF x i = vC (x.getD i v0) := rfl
      have fy : vF y i = vC (y.getD i v0) := rfl
      have cc := compare_p (x.getD i v0) (y.getD i v0)
      generalize cmp3 (x.getD i v0) (y.getD i v0) = z at *
      generalize x.getD i v0 = v at *
      generalize y.getD i v0 = w at *
      obtain ⟨v1, v2, v3⟩ := v
      obtain ⟨u1, u2, u3⟩ := w
      by_cases hz : z = 0
      · rw [if_pos hz] at hC
        repeat' first | (refine SW.seq_k fun K hK => ?_) | (refine SW.block ?_) | ((first | refine SW.region ?_ | refine SW.cond ?_ | refine SW.skip ?_ | refine Call.of_pure (cc) ?_ | (refine allF_i fun b hb => ?_; replace hD := And.intro hb hD; clear hb; try simp only [fresh_cons, fresh_nil, and_true, ne_eq, neF] at hD)); try simp only [go_sem, hD, hli, ie, i0, w1, hlj, hlj2, hlj3, fx, fy, hz, true_implies]) | (apply hK; clear hK K)
        refine Rnd.le St.le_drop ?_
        refine Rnd.sub (x.length - (i + 1)) (by omega) ((hI _ _).2 ⟨i + 1, rfl, by omega, hC, by omega, rfl⟩) (by repeat' (first | exact rfl | exact trivial | constructor))
      · rw [if_neg hz] at hC
        subst hC
        repeat' first | (refine SW.seq_k fun K hK => ?_) | (refine SW.block ?_) | ((first | refine SW.region ?_ | refine SW.cond ?_ | refine SW.skip ?_ | refine SW.ret ?_ | refine Call.of_pure (cc) ?_ | (refine allF_i fun b hb => ?_; replace hD := And.intro hb hD; clear hb; try simp only [fresh_cons, fresh_nil, and_true, ne_eq, neF] at hD)); try simp only [go_sem, hD, hli, ie, i0, w1, hlj, hlj2, hlj3, fx, fy, hz, true_implies]) | (apply hK; clear hK K)
        refine ret_pure ?_; simp only [resL_tmp, resL_nil, tupOf, go_sem, hD]
    · have hlj : ((i : Nat) : Int) ≥ ((y.length : Nat) : Int) := by omega
      have hlj2 : ((y.length : Nat) : Int) ≤ ((i : Nat) : Int) := by omega
      rw [lexV_end (by omega) (by omega) (by omega)] at hC
      have h1 : R = 1 := by
        rw [hC]
        unfold sgn
        rw [if_neg (by omega), if_pos (by omega)]
      subst h1
      have fx : vF x i = vC (x.getD i v0) := rfl
      generalize x.getD i v0 = v at *
      obtain ⟨v1, v2, v3⟩ := v
      repeat' first | (refine SW.seq_k fun K hK => ?_) | (refine SW.block ?_) | ((first | refine SW.region ?_ | refine SW.cond ?_ | refine SW.skip ?_ | refine SW.ret ?_ | (refine allF_i fun b hb => ?_; replace hD := And.intro hb hD; clear hb; try simp only [fresh_cons, fresh_nil, and_true, ne_eq, neF] at hD)); try simp only [go_sem, hD, hli, ie, i0, w1, hlj, hlj2, fx, true_implies]) | (apply hK; clear hK K)
      refine ret_pure ?_; simp only [resL_tmp, resL_nil, tupOf, go_sem, hD]
  · have hli : ¬ ((i : Nat) : Int) < (((x.length) : Nat) : Int) := by omega
    obtain rfl : i = x.length := by omega
    rw [lexV_end (by omega) hiy (by omega)] at hC
    by_cases hxy : x.length < y.length
    · have hab : ((x.length : Nat) : Int) < ((y.length : Nat) : Int) := by omega
      have h1 : R = -1 := by
        rw [hC]
        unfold sgn
        rw [if_pos hab]
      subst h1
      repeat' first | (refine SW.seq_k fun K hK => ?_) | ((first | refine SW.region ?_ | refine SW.cond ?_ | refine SW.exit ?_ | refine SW.ret ?_); try simp only [go_sem, hD, hli, hab, true_implies]) | (apply hK; clear hK K) | (clear hK K; apply hK; clear hK K)
      refine ret_pure ?_; simp only [resL_tmp, resL_nil, tupOf, go_sem, hD]
    · have hab : ¬ ((x.length : Nat) : Int) < ((y.length : Nat) : Int) := by omega
      have h1 : R = 0 := by
        rw [hC]
        unfold sgn
        rw [if_neg hab, if_neg (by omega)]
      subst h1
      repeat' first | (refine SW.seq_k fun K hK => ?_) | ((first | refine SW.region ?_ | refine SW.cond ?_ | refine SW.skip ?_ | refine SW.exit ?_ | refine SW.ret ?_); try simp only [go_sem, hD, hli, hab, true_implies]) | (apply hK; clear hK K) | (clear hK K; apply hK; clear hK K)
      refine ret_pure ?_; simp only [resL_tmp, resL_nil, tupOf, go_sem, hD]
theorem ord_v (x y : List V3) (hx : x.length ≤ 1000) (hy : y.length ≤ 1000) : PCall Tryz.prog 72 [VL x, VL y] (I64 (lexV x y)) := by
  have c := compF_v x y hx hy
  generalize lexV x y = z at *
  refine Call.enter' (N := 8) (rs := [.tmp 4]) Tryz.func72 rfl rfl rfl (by decide) rfl ?_; simp only [argT]; have hD : (0 : Nat) = 0 := rfl
  repeat' first | (refine SW.seq_k fun K hK => ?_) | ((first | refine SW.region ?_ | refine SW.ret ?_ | refine Call.of_pure (c) ?_); try simp only [go_sem, hD, true_implies]) | (apply hK; clear hK K)
  refine ret_pure ?_; simp only [resL_tmp, resL_nil, tupOf, go_sem, hD]
theorem ord_e (x y : List V3) (hx : x.length ≤ 1000) (hy : y.length ≤ 1000) : PCall Tryz.prog 77 [VL x, VL y, .fp [.fn (.func 72) [] []]] (SB (decide (lexV x y = 0))) := by
  have c := ord_v x y hx hy
  generalize lexV x y = z at *
  refine Call.enter' (N := 11) (rs := [.tmp 5]) Tryz.func77 rfl rfl rfl (by decide) rfl ?_; simp only [argT]; have hD : (0 : Nat) = 0 := rfl
  repeat' first | (refine SW.seq_k fun K hK => ?_) | ((first | refine SW.region ?_ | refine SW.ret ?_ | refine Call.of_pure (c) ?_); try simp only [go_sem, hD, true_implies]) | (apply hK; clear hK K)
  refine ret_pure ?_; simp only [resL_tmp, resL_nil, tupOf, go_sem, hD]
  try rfl
end Go.Proofs.YtpidncgibgiidaaGreat
namespace Go.Ab.A15
open Go Go.Ab Go.Ab.A34 Go.Ab.A01 Go.Sort Go.Proofs
abbrev LV := List V3
theorem cmp3_swap (a b : V3) : cmp3 b a = -cmp3 a b := cmp_swap _ _ _ _ _ _
theorem cmp3_tr (a b c : V3) : Tr (cmp3 a b) (cmp3 b c) (cmp3 a c) := cmp_tr _ _ _ _ _ _ _ _ _
theorem lexV_cons (a b : V3) (x y : LV) : lexV (a :: x) (b :: y) = lex (cmp3 a b) (lexV x y) := by rw [lexV]; rfl
theorem lexV_swap : ∀ x y : LV, lexV y x = -lexV x y
  | [], y => by rw [lexV_nil, lexV_nil', sgn_swap]
  | a :: x, [] => by rw [lexV_nil, lexV_nil', sgn_swap]
  | a :: x, b :: y => by rw [lexV_cons, lexV_cons, cmp3_swap a b, lexV_swap x y, lex_neg]
theorem sgn_0s (n : Nat) : sgn 0 ((n + 1 : Nat) : Int) = -1 := by unfold sgn; rw [if_pos (by omega)]
theorem sgn_s0 (n : Nat) : sgn ((n + 1 : Nat) : Int) 0 = 1 := by unfold sgn; rw [if_neg (by omega), if_pos (by omega)]
theorem lexV_0s (b : V3) (y : LV) : lexV [] (b :: y) = -1 := by rw [lexV_nil, List.length_cons, sgn_0s]
theorem lexV_s0 (a : V3) (x : LV) : lexV (a :: x) [] = 1 := by rw [lexV_nil', List.length_cons, sgn_s0]
theorem lexV_00 : lexV [] [] = 0 := rfl
theorem lexV_tr : ∀ x y z : LV, Tr (lexV x y) (lexV y z) (lexV x z)
  | [], [], [] => by rw [lexV_00]; unfold Tr; decide
  | [], [], c :: z => by rw [lexV_00, lexV_0s]; unfold Tr; decide
  | [], b :: y, [] => by rw [lexV_00, lexV_0s, lexV_s0]; unfold Tr; decide
  | a :: x, [], [] => by rw [lexV_00, lexV_s0]; unfold Tr; decide
  | [], b :: y, c :: z => by rw [lexV_0s, lexV_0s]; unfold Tr; omega
  | a :: x, [], c :: z => by rw [lexV_s0, lexV_0s]; unfold Tr; omega
  | a :: x, b :: y, [] => by rw [lexV_s0, lexV_s0]; unfold Tr; omega
  | a :: x, b :: y, c :: z => by
    rw [lexV_cons, lexV_cons, lexV_cons]
    exact (cmp3_tr a b c).lex (lexV_tr x y z)
def LtV (a b : LV) : Prop := lexV a b < 0
theorem LtV.irr (a : LV) : ¬ LtV a a := fun h => by unfold LtV at h; have := lexV_swap a a; omega
theorem LtV.tr {a b c : LV} (h1 : LtV a b) (h2 : LtV b c) : LtV a c := by
  unfold LtV at *
  obtain ⟨h3, _⟩ := lexV_tr a b c
  obtain ⟨h4, h5⟩ := h3 (by omega) (by omega)
  rcases Int.lt_or_eq_of_le h4 with h | h
  · exact h
  · have := (h5 h).1
    omega
theorem swo_V : SWO (ltOf lexV) where
  irrefl := fun x => by
    have := lexV_swap x x
    simp only [ltOf, decide_eq_false_iff_not]
    omega
  trans := fun x y z h1 h2 => by
    simp only [ltOf, decide_eq_true_eq] at *
    exact LtV.tr h1 h2
  ntrans := fun x y z h1 h2 => by
    simp only [ltOf, decide_eq_false_iff_not] at *
    have n1 := lexV_swap x y
    have n2 := lexV_swap y z
    have n3 := lexV_swap x z
    have := (lexV_tr z y x).1 (by omega) (by omega)
    omega
theorem pwV_eq : ∀ {L M : List LV}, L.Pairwise LtV → M.Pairwise LtV → (∀ x, x ∈ L ↔ x ∈ M) → L = M
  | [], [], _, _, _ => rfl
  | [], b :: M, _, _, h => by have := (h b).2 List.mem_cons_self; cases this
  | a :: L, [], _, _, h => by have := (h a).1 List.mem_cons_self; cases this
  | a :: L, b :: M, h1, h2, h => by
    rw [List.pairwise_cons] at h1 h2
    have hab : a = b := by
      rcases List.mem_cons.1 ((h a).1 List.mem_cons_self) with e | e
      · exact e
      · rcases List.mem_cons.1 ((h b).2 List.mem_cons_self) with e2 | e2
        · exact e2.symm
        · exact absurd (LtV.tr (h1.1 b e2) (h2.1 a e)) (LtV.irr a)
    subst hab
    rw [pwV_eq h1.2 h2.2 fun x => ⟨fun hx => ?_, fun hx => ?_⟩]
    · rcases List.mem_cons.1 ((h x).1 (List.mem_cons_of_mem _ hx)) with e | e
      · subst e; exact absurd (h1.1 x hx) (LtV.irr x)
      · exact e
    · rcases List.mem_cons.1 ((h x).2 (List.mem_cons_of_mem _ hx)) with e | e
      · subst e; exact absurd (h2.1 x hx) (LtV.irr x)
      · exact e
def lvC (L : List LV) : List SV := L.map fun x => VL x
theorem lvC_len (L : List LV) : (lvC L).length = L.length := List.length_map _
theorem lvC_get {L : List LV} {j : Nat} (h : j < L.length) : (lvC L).getD j .any = VL (L.getD j []) := by
  unfold lvC
  simp [List.getD_eq_getElem?_getD, h]
theorem lvC_set (L : List LV) (j : Nat) (v : LV) : (lvC L).set j (VL v) = lvC (L.set j v) := by
  unfold lvC
  rw [List.map_set]
theorem lvC_take (L : List LV) (j : Nat) : (lvC L).take j = lvC (L.take j) := by
  unfold lvC
  rw [List.map_take]
theorem lvC_snoc (L : List LV) (v : LV) : lvC L ++ [VL v] = lvC (L ++ [v]) := by
  unfold lvC
  rw [List.map_append]
  rfl
def IsOrd (A W : List LV) : Prop := A.Pairwise LtV ∧ ∀ x, x ∈ A ↔ x ∈ W
theorem IsOrd.uniq {A B W : List LV} (h1 : IsOrd A W) (h2 : IsOrd B W) : A = B := pwV_eq h1.1 h2.1 fun x => (h1.2 x).trans (h2.2 x).symm
def newV (l : List LV) (i : Nat) : Bool := decide (i = 0) || !(decide (lexV (l.getD i []) (l.getD (i - 1) []) = 0))
def cptI (l : List LV) : Nat → List LV
  | 0 => []
  | i + 1 => cptI l i ++ if newV l i = true then [l.getD i []] else []
theorem cptI_len (l : List LV) : ∀ i, (cptI l i).length ≤ i
  | 0 => Nat.le_refl _
  | i + 1 => by
    have := cptI_len l i
    unfold cptI
    rw [List.length_append]
    split
    · simp; omega
    · simp; omega
theorem takeV_succ {l : List LV} {i : Nat} (h : i < l.length) : l.take (i + 1) = l.take i ++ [l.getD i []] := by
  rw [List.take_succ_eq_append_getElem h, show l.getD i [] = l[i] by simp [List.getD_eq_getElem?_getD, h]]
theorem cptI_ord {l : List LV} (hs : l.Pairwise fun x y => ltOf lexV y x = false) : ∀ i, i ≤ l.length → IsOrd (cptI l i) (l.take i)
  | 0, _ => ⟨.nil, fun x => by simp [cptI]⟩
  | i + 1, hi => by
    obtain ⟨h1, h2⟩ := cptI_ord hs i (by omega)
    have hil : i < l.length := by omega
    have g : l.getD i [] = l[i] := by simp [List.getD_eq_getElem?_getD, hil]
    unfold cptI
    rw [takeV_succ hil]
    by_cases hn : newV l i = true
    · rw [if_pos hn]
      refine ⟨?_, fun x => by rw [List.mem_append, List.mem_append, h2 x]⟩
      rw [List.pairwise_append]
      refine ⟨h1, by simp, fun x hx y hy => ?_⟩
      rw [List.mem_singleton] at hy
      subst hy
      have hx2 := (h2 x).1 hx
      obtain ⟨j, hj, rfl⟩ := List.mem_take_iff_getElem.1 hx2
      have hi0 : 0 < i := by omega
      have hil2 : i - 1 < l.length := by omega
      have g1 : l.getD (i - 1) [] = l[i - 1] := by simp [List.getD_eq_getElem?_getD, hil2]
      unfold newV at hn
      rw [decide_eq_false (by omega), Bool.false_or, g, g1] at hn
      simp only [Bool.not_eq_true', decide_eq_false_iff_not] at hn
      rw [List.pairwise_iff_getElem] at hs
      have k1 := hs (i - 1) i hil2 hil (by omega)
      have k2 : ¬ lexV l[i - 1] l[j] < 0 := by
        rcases Nat.lt_or_ge j (i - 1) with h | h
        · have := hs j (i - 1) (by omega) hil2 h
          simpa [ltOf] using this
        · obtain rfl : j = i - 1 := by omega
          exact LtV.irr _
      simp only [ltOf, decide_eq_false_iff_not] at k1
      unfold LtV
      rw [g]
      have n1 := lexV_swap l[i - 1] l[i]
      have n2 := lexV_swap l[i - 1] l[j]
      obtain ⟨k3, k4⟩ := (lexV_tr l[j] l[i - 1] l[i]).1 (by omega) (by omega)
      rcases Int.lt_or_eq_of_le k3 with h | h
      · exact h
      · have := (k4 h).2
        omega
    · rw [if_neg hn, List.append_nil]
      refine ⟨h1, fun x => ?_⟩
      rw [h2 x, List.mem_append, List.mem_singleton]
      refine ⟨.inl, fun h => ?_⟩
      rcases h with h | rfl
      · exact h
      · rw [Bool.not_eq_true] at hn
        unfold newV at hn
        rw [Bool.or_eq_false_iff] at hn
        obtain ⟨h3, h4⟩ := hn
        simp only [Bool.not_eq_false', decide_eq_true_eq, decide_eq_false_iff_not] at h3 h4
        have e := lexV_zero.1 h4
        rw [e]
        have hil2 : i - 1 < l.length := by omega
        have g1 : l.getD (i - 1) [] = l[i - 1] := by simp [List.getD_eq_getElem?_getD, hil2]
        rw [g1]
        exact List.mem_take_iff_getElem.2 ⟨i - 1, by omega, rfl⟩
theorem cpt_ord {l W : List LV} (hs : l.Pairwise fun x y => ltOf lexV y x = false) (hp : l.Perm W) : IsOrd (cptI l l.length) W := by
  obtain ⟨h1, h2⟩ := cptI_ord hs l.length (Nat.le_refl _)
  rw [List.take_length] at h2
  exact ⟨h1, fun x => (h2 x).trans hp.mem_iff⟩
def ordV (W : List LV) : List LV := cptI (W.mergeSort fun x y => !(ltOf lexV) y x) (W.mergeSort fun x y => !(ltOf lexV) y x).length
theorem ordV_ord (W : List LV) : IsOrd (ordV W) W := by
  refine cpt_ord ?_ (List.mergeSort_perm W _)
  have h1 := List.pairwise_mergeSort (le := fun x y => !(ltOf lexV) y x) (fun a b c h1 h2 => by
    simp only [Bool.not_eq_true'] at *
    exact swo_V.ntrans c b a h2 h1) (fun a b => by
    have n1 := lexV_swap a b
    simp only [ltOf, Bool.or_eq_true, Bool.not_eq_true', decide_eq_false_iff_not]
    omega) W
  exact h1.imp fun h => by simpa using h
theorem IsOrd.eq {A W : List LV} (h : IsOrd A W) : A = ordV W := h.uniq (ordV_ord W)
end Go.Ab.A15
namespace Go.Proofs.YtpidncgibgiidaaGreat
open Go Go.Ab Go.Ab.A34 Go.Ab.A15 Go.Ab.A01 Go.Sort Go.Shelf Go.RowKit
variable [Gl] [Tabs]
theorem fl_one1 {E : Env} {v : Value} {n sz : Nat} {f : Nat → List SV} (hr : Rep E v (.fl n sz f)) : v.oneCell' = true := by cases hr <;> rfl
theorem sort_v (b : Nat) (l : List LV) (hne : l ≠ []) (hl : l.length ≤ 1000000000) (hs : ∀ r ∈ l, r.length ≤ 1000) :
    Ab.Call Tryz.prog 75 [.os b 0 l.length 1, .fn (.func 72) [] []] [(b, .svs (lvC l))] (fun r h' => r = .tup [] ∧ ∃ s : List LV, s.Perm l ∧ s.Pairwise (fun x y => ltOf lexV y x = false) ∧ h' = [(b, .svs (lvC s))]) :=
  Call.sortP (P := Tryz.prog) (ρ := Tryz.sortM_ren) Tryz.sortM ⟨_, Tryz.func75, by kernel_rfl, by kernel_rfl⟩ (fun r => VL r) (fun x E v hr => fl_one1 hr) lexV swo_V 72 (Go.Proofs.enters_of Tryz.func72 (by kernel_rfl) rfl) b l hne (by omega) (fun x hx y hy => ord_v x y (hs x hx) (hs y hy))
theorem sort_vn : PCall Tryz.prog 75 [SN, .fn (.func 72) [] []] (.tup []) :=
  Call.sortQ0 (P := Tryz.prog) (ρ := Tryz.sortM_ren) { Tryz.sortM with } ⟨_, Tryz.func75, by kernel_rfl, by kernel_rfl⟩ 72
end Go.Proofs.YtpidncgibgiidaaGreat
namespace Go.Ab.A15
open Go Go.Ab Go.Ab.A34
theorem posF_tab (x : ByteArray) : ∀ (l : List Tb) (i : Nat), posF (fun t => decide (t.name = x)) i l = tabI x i l
  | [], i => rfl
  | t :: l, i => by
    unfold posF tabI
    by_cases h : t.name = x
    · rw [if_pos h, if_pos (decide_eq_true h)]
    · rw [if_neg h, if_neg (by rw [decide_eq_false h]; simp), posF_tab x l (i + 1)]
def tabAt (db : List Tb) (x : ByteArray) : Tb := db.getD (idxN x (nmsOf db)) t0
def covS (db : List Tb) (d : Dp) : Int × Int × Int := if (rowsAt db d.f).length = 0 then (1, 1, 0) else mkR (((rowsAt db d.f).length : Int) - ((violS (rowsAt db d.f) (rowsAt db d.t) d.l d.r).length : Int)) ((rowsAt db d.f).length : Int)
theorem mkR_one : mkR 1 1 = (1, 1, 0) := by decide
theorem viol_le (F T : List R3) (a b : List Int) : (violS F T a b).length ≤ F.length := violP_len F T a b F.length
end Go.Ab.A15
namespace Go.Proofs.YtpidncgibgiidaaGreat
open Go Go.Ab Go.Ab.A34 Go.Ab.A15 Go.Ab.A01
variable [Gl] [Tabs]
theorem nm_f (nm : ByteArray) (d : Tb) : PCall Tryz.prog 108 (TB d :: [.fp [Str nm]]) (SB (decide (d.name = nm))) := by
  obtain ⟨dn, da, dr⟩ := d
  have h1 := @barr_eq dn nm
  have h2 : (dn.toList == nm.toList) = decide (dn = nm) := by rw [Bool.eq_iff_iff, decide_eq_true_eq]; exact h1
  refine Call.enter' (N := 8) (rs := [.tmp 3]) Tryz.func108 rfl rfl rfl (by decide) rfl ?_; simp only [argT]; have hD : (0 : Nat) = 0 := rfl
  repeat' first | (refine SW.seq_k fun K hK => ?_) | ((first | refine SW.region ?_ | refine SW.ret ?_ | (refine allF_i fun b hb => ?_; replace hD := And.intro hb hD; clear hb; try simp only [fresh_cons, fresh_nil, and_true, ne_eq, neF] at hD)); try simp only [go_sem, hD, h2, true_implies]) | (apply hK; clear hK K)
  refine ret_pure ?_; simp only [resL_tmp, resL_nil, tupOf, go_sem, hD]
theorem named_p (db : List Tb) (nm : ByteArray) (hn : db.length ≤ 1000000) (hm : nm ∈ nmsOf db) : PCall Tryz.prog 69 [DB db, Str nm] (TB (tabAt db nm)) := by
  have cf := indexF_t 108 [.fp [Str nm]] (fun t => decide (t.name = nm)) db db.length (tF db) rfl (fun _ _ => rfl) hn (fun d _ => nm_f nm d)
  rw [posF_tab, tabI_idx hm, Nat.zero_add] at cf
  have hl := idxN_lt hm
  have hl2 : idxN nm (nmsOf db) < db.length := by unfold nmsOf at hl; rwa [List.length_map] at hl
  unfold tabAt
  generalize idxN nm (nmsOf db) = j at *
  have j0 : ¬ ((j : Nat) : Int) < 0 := by omega
  have j1 : (0 : Int) ≤ ((j : Nat) : Int) := by omega
  have j2 : ((j : Nat) : Int) < ((db.length : Nat) : Int) := by omega
  have j3 : ((j : Nat) : Int).toNat = j := Int.toNat_natCast _
  have fj : tF db j = tC (db.getD j t0) := rfl
  generalize db.getD j t0 = t at *
  obtain ⟨tn, ta, tr⟩ := t
  refine Call.enter' (N := 18) (rs := [.cell 4 72]) Tryz.func69 rfl rfl rfl (by decide) rfl ?_; simp only [argT]; have hD : (0 : Nat) = 0 := rfl
  repeat' first | ((refine Ab.SW.le (St.le_freezeP (i := 3) (n := 1) rfl (by simp [find_cons, hD]; rfl) (by exact Nat.le_refl 1)) ?_); (simp only [getN, Blk.get, go_sem, hD])) | (refine SW.seq_k fun K hK => ?_) | ((first | refine SW.region ?_ | refine SW.cond ?_ | refine SW.skip ?_ | refine SW.ret ?_ | refine Call.of_pure (cf) ?_ | (refine allF_i fun b hb => ?_; replace hD := And.intro hb hD; clear hb; try simp only [fresh_cons, fresh_nil, and_true, ne_eq, neF] at hD)); try simp only [go_sem, hD, j0, j1, j2, j3, fj, true_implies]) | (apply hK; clear hK K)
  all_goals
    apply ret_cell (i := 4) (n := 3); exact rfl; (simp only [go_sem, hD]; try rfl); (first | exact Nat.le_refl _ | decide); simp only [resL_tmp, resL_cellE, resC_ok, resL_nil, tupOf, getN, go_sem, hD]
theorem coverage_p (db : List Tb) (d : Dp) (hdb : db.length ≤ 1000000) (hd : OkD d) (hn : OkN db) (h : vE db d = 0) : PCall Tryz.prog 31 [DB db, DV d] (FR (covS db d)) := by
  have cv := viol_p db d (by omega) hd hn h
  obtain ⟨V, F⟩ := vE_ok h
  have kf := (rows_k V F.f).n
  have cn := named_p db d.f hdb F.f
  have hvl := viol_le (rowsAt db d.f) (rowsAt db d.t) d.l d.r
  have hr : (tabAt db d.f).rows = rowsAt db d.f := rfl
  have c1 := make_p 1 1 (by omega) (by omega) (by omega) (by omega)
  rw [mkR_one] at c1
  have c2 := make_p (((rowsAt db d.f).length : Int) - ((violS (rowsAt db d.f) (rowsAt db d.t) d.l d.r).length : Int)) ((rowsAt db d.f).length : Int) (by omega) (by omega) (by omega) (by omega)
  unfold covS
  have wk : IntKind.i64.wrap (((rowsAt db d.f).length : Int) - ((violS (rowsAt db d.f) (rowsAt db d.t) d.l d.r).length : Int)) = ((rowsAt db d.f).length : Int) - ((violS (rowsAt db d.f) (rowsAt db d.t) d.l d.r).length : Int) := by rw [i64_wrap (by omega) (by omega)]
  have wk2 : IntKind.i64.wrap ((rowsAt db d.f).length : Int) = ((rowsAt db d.f).length : Int) := by rw [i64_wrap (by omega) (by omega)]
  generalize violS (rowsAt db d.f) (rowsAt db d.t) d.l d.r = W at *
  rw [← hr] at *
  clear hr
  generalize tabAt db d.f = t at *
  obtain ⟨tn, ta, tr⟩ := t
  obtain ⟨df, dl, dt, dr⟩ := d
  simp only at *
  by_cases h0 : tr.length = 0
  · rw [if_pos h0]
    have z0 : ((tr.length : Nat) : Int) = 0 := by omega
    refine Call.enter' (N := 42) (rs := [.cell 4 61, .tmp 5]) Tryz.func31 rfl rfl rfl (by decide) rfl ?_; simp only [argT]; have hD : (0 : Nat) = 0 := rfl
    repeat' first | (refine SW.seq_k fun K hK => ?_) | ((first | refine SW.region ?_ | refine SW.cond ?_ | refine SW.skip ?_ | refine SW.ret ?_ | refine Call.of_pure (cv) ?_ | refine Call.of_pure (cn) ?_ | refine Call.of_pure (c1) ?_ | (refine allF_i fun b hb => ?_; replace hD := And.intro hb hD; clear hb; try simp only [fresh_cons, fresh_nil, and_true, ne_eq, neF] at hD)); try simp only [go_sem, hD, z0, true_implies]) | (apply hK; clear hK K)
    all_goals
      apply ret_cell (i := 4) (n := 2); exact rfl; (simp only [go_sem, hD]; try rfl); (first | exact Nat.le_refl _ | decide); simp only [resL_tmp, resL_cellE, resC_ok, resL_nil, tupOf, getN, go_sem, hD]
  · rw [if_neg h0]
    have z0 : ¬ ((tr.length : Nat) : Int) = 0 := by omega
    generalize mkR (((tr.length : Nat) : Int) - ((W.length : Nat) : Int)) ((tr.length : Nat) : Int) = M at *
    obtain ⟨m1, m2, m3⟩ := M
    refine Call.enter' (N := 42) (rs := [.cell 4 61, .tmp 5]) Tryz.func31 rfl rfl rfl (by decide) rfl ?_; simp only [argT]; have hD : (0 : Nat) = 0 := rfl
    repeat' first | (refine SW.seq_k fun K hK => ?_) | ((first | refine SW.region ?_ | refine SW.cond ?_ | refine SW.skip ?_ | refine SW.ret ?_ | refine Call.of_pure (cv) ?_ | refine Call.of_pure (cn) ?_ | refine Call.of_pure (c2) ?_ | (refine allF_i fun b hb => ?_; replace hD := And.intro hb hD; clear hb; try simp only [fresh_cons, fresh_nil, and_true, ne_eq, neF] at hD)); try simp only [go_sem, hD, z0, wk, wk2, true_implies]) | (apply hK; clear hK K)
    all_goals
      apply ret_cell (i := 4) (n := 2); exact rfl; (simp only [go_sem, hD]; try rfl); (first | exact Nat.le_refl _ | decide); simp only [resL_tmp, resL_cellE, resC_ok, resL_nil, tupOf, getN, go_sem, hD]
end Go.Proofs.YtpidncgibgiidaaGreat
namespace Go.Ab.A15
open Go Go.Ab Go.Ab.A34
def woL (l : List Int) (p : Nat) : List Int := l.take p ++ l.drop (p + 1)
abbrev iC (l : List Int) : List SV := l.map fun x => I64 x
theorem iC_all (l : List Int) : (iC l).all single = true := by
  rw [List.all_eq_true]
  intro x hx
  obtain ⟨y, _, rfl⟩ := List.mem_map.1 hx
  rfl
theorem fl_take (l : List Int) (p : Nat) (hp : p ≤ l.length) : flCells (fun i => iF l i) p = iC (l.take p) := by
  have h := fl_map (l.take p)
  rw [List.length_take, Nat.min_eq_left hp] at h
  rw [iC, ← h]
  unfold flCells
  have : ∀ m, m ≤ p → (List.range m).flatMap (fun i => iF l i) = (List.range m).flatMap (iF (l.take p)) := fun m hm => by
    refine congrArg List.flatten (List.map_congr_left fun i hi => ?_)
    rw [List.mem_range] at hi
    unfold iF
    rw [List.getD_eq_getElem?_getD, List.getD_eq_getElem?_getD, List.getElem?_take_of_lt (by omega)]
  exact this p (Nat.le_refl _)
theorem fl_drop (l : List Int) (p n : Nat) (hn : n = l.length - p) : flCells (fun i => iF l (p + i)) n = iC (l.drop p) := by
  subst hn
  have h := fl_map (l.drop p)
  rw [List.length_drop] at h
  rw [iC, ← h]
  unfold flCells
  refine congrArg List.flatten (List.map_congr_left fun i hi => ?_)
  unfold iF
  rw [List.getD_eq_getElem?_getD, List.getD_eq_getElem?_getD, List.getElem?_drop]
end Go.Ab.A15
namespace Go.Proofs.YtpidncgibgiidaaGreat
open Go Go.Ab Go.Ab.A34 Go.Ab.A15
variable [Gl] [Tabs]
end Go.Proofs.YtpidncgibgiidaaGreat
namespace Go.Ab
open Go Go.RowKit
theorem Call.nd [Gl] {P : Program} {f : FuncId} {args : List SV} {h : Heap} {Q : SV → Heap → Prop} (hc : (h.map (·.1)).Nodup → Call P f args h Q) : Call P f args h Q := ⟨fun M w vs own hr => (hc own.nodup).out M w vs own hr⟩
theorem Call.permN [Gl] {P : Program} {f : FuncId} {args : List SV} {h h' : Heap} {Q : SV → Heap → Prop} (hc : Call P f args h' Q) (hp : h'.Perm h) : Call P f args h Q := Call.perm hc (fun x => hp.mem_iff) (fun hn => (hp.map _).nodup_iff.2 hn)
theorem SW.nd [Gl] {P : Program} {N : Nat} {c : Code} {Q : Exit → St → Prop} {S : St} (h : (S.h.map (·.1)).Nodup → SW P N c Q S) : SW P N c Q S := ⟨fun M w0 D a w hr => (h hr.own.nodup).run M w0 D a w hr⟩
end Go.Ab
namespace Go.Ab.A15
open Go Go.Ab Go.Ab.A34
def canB (same : Bool) (l r : List Int) : Bool := decide (l ≠ [] ∧ l.length = r.length ∧ l.Pairwise (· < ·) ∧ r.Nodup) && (!same || (l.zip r).all fun p => !(p.1 == p.2))
theorem canB_iff {same : Bool} {l r : List Int} : canB same l r = true ↔ l ≠ [] ∧ l.length = r.length ∧ l.Pairwise (· < ·) ∧ r.Nodup ∧ (same = true → ∀ p ∈ l.zip r, p.1 ≠ p.2) := by
  unfold canB
  rw [Bool.and_eq_true, decide_eq_true_eq, Bool.or_eq_true, Bool.not_eq_true', List.all_eq_true]
  constructor
  · rintro ⟨⟨h1, h2, h3, h4⟩, h5⟩
    refine ⟨h1, h2, h3, h4, fun hs p hp => ?_⟩
    rcases h5 with h5 | h5
    · rw [hs] at h5; cases h5
    · simpa using h5 p hp
  · rintro ⟨h1, h2, h3, h4, h5⟩
    refine ⟨⟨h1, h2, h3, h4⟩, ?_⟩
    cases same with
    | false => exact .inl rfl
    | true => exact .inr fun p hp => by simpa using h5 rfl p hp
theorem pw_last {l : List Int} (h : l.Pairwise (· < ·)) {x : Int} (hx : l.getLast? = some x) : ∀ y ∈ l, y ≤ x := by
  induction l with
  | nil => simp at hx
  | cons a l ih =>
    rw [List.pairwise_cons] at h
    intro y hy
    cases l with
    | nil =>
      simp at hx hy
      omega
    | cons b l =>
      rw [List.getLast?_cons_cons] at hx
      have h2 := ih h.2 hx
      rcases List.mem_cons.1 hy with rfl | hy
      · have := h.1 b List.mem_cons_self
        have := h2 b List.mem_cons_self
        omega
      · exact h2 y hy
theorem pw_snoc {l : List Int} {a : Int} (h : l.Pairwise (· < ·)) (h0 : ∀ x ∈ l, 0 ≤ x) (ha : (fstX l : Int) ≤ a) : (l ++ [a]).Pairwise (· < ·) := by
  rw [List.pairwise_append]
  refine ⟨h, by simp, fun x hx y hy => ?_⟩
  rw [List.mem_singleton] at hy
  subst hy
  unfold fstX at ha
  cases hl : l.getLast? with
  | none =>
    rw [List.getLast?_eq_none_iff] at hl
    rw [hl] at hx
    cases hx
  | some z =>
    rw [hl] at ha
    have h1 := pw_last h hl x hx
    have h2 := h0 x hx
    simp only at ha
    omega
theorem nodup_snoc {r : List Int} {b : Int} : (r ++ [b]).Nodup ↔ r.Nodup ∧ b ∉ r := by
  rw [List.nodup_append]
  constructor
  · rintro ⟨h1, _, h3⟩
    exact ⟨h1, fun hm => h3 b hm b (by simp) rfl⟩
  · rintro ⟨h1, h2⟩
    refine ⟨h1, by simp, fun x hx y hy e => ?_⟩
    rw [List.mem_singleton] at hy
    rw [hy] at e
    exact h2 (e ▸ hx)
def okP (same : Bool) (l r : List Int) : Prop := (l = [] ∧ r = []) ∨ canB same l r = true
theorem canB_snoc {same : Bool} {l r : List Int} {a b : Int} (h : okP same l r) (h0 : ∀ x ∈ l, 0 ≤ x) (ha : (fstX l : Int) ≤ a) : canB same (l ++ [a]) (r ++ [b]) = true ↔ b ∉ r ∧ ¬ (same = true ∧ a = b) := by
  have hb : l.length = r.length ∧ l.Pairwise (· < ·) ∧ r.Nodup ∧ (same = true → ∀ p ∈ l.zip r, p.1 ≠ p.2) := by
    rcases h with ⟨rfl, rfl⟩ | h
    · simp
    · exact (canB_iff.1 h).2
  obtain ⟨h1, h2, h3, h4⟩ := hb
  have hz : (l ++ [a]).zip (r ++ [b]) = l.zip r ++ [(a, b)] := List.zip_append h1
  rw [canB_iff, nodup_snoc, hz]
  constructor
  · rintro ⟨_, _, _, ⟨_, q1⟩, q2⟩
    exact ⟨q1, fun ⟨s, e⟩ => q2 s (a, b) (by simp) e⟩
  · rintro ⟨q1, q2⟩
    refine ⟨by simp, by simp [h1], pw_snoc h2 h0 ha, ⟨h3, q1⟩, fun s p hp => ?_⟩
    rw [List.mem_append, List.mem_singleton] at hp
    rcases hp with hp | rfl
    · exact h4 s p hp
    · exact fun e => q2 ⟨s, e⟩
theorem canB_pre {same : Bool} {l r a b : List Int} (h : canB same (l ++ a) (r ++ b) = true) (hl : l.length = r.length) (h0 : 0 < l.length) : canB same l r = true := by
  rw [canB_iff] at h ⊢
  obtain ⟨_, _, h3, h4, h5⟩ := h
  refine ⟨fun e => by rw [e] at h0; simp at h0, hl, (List.pairwise_append.1 h3).1, (List.nodup_append.1 h4).1, fun s p hp => h5 s p ?_⟩
  rw [List.zip_append hl]
  exact List.mem_append_left _ hp
theorem hM_pre {F T : List R3} {l r a b : List Int} (h : hM F T (l ++ a) (r ++ b) = true) (hl : l.length = r.length) : hM F T l r = true := by
  unfold hM at h ⊢
  rw [Bool.not_eq_true', List.any_eq_false] at h ⊢
  intro x hx
  have h1 := h x hx
  rw [Bool.not_eq_true, Bool.not_eq_false', List.any_eq_true] at h1 ⊢
  obtain ⟨y, hy, e⟩ := h1
  refine ⟨y, hy, ?_⟩
  unfold agB at e ⊢
  rw [List.all_eq_true] at e ⊢
  intro i hi
  rw [List.mem_range] at hi
  have h2 := e i (by rw [List.mem_range, List.length_append]; omega)
  rw [getD_app hi, getD_app (show i < r.length by omega)] at h2
  exact h2
def qB (f t : Tb) (same : Bool) (l r : List Int) : Bool := canB same l r && (l.all fun x => decide (0 ≤ x ∧ x < (f.attrs.length : Int))) && (r.all fun x => decide (0 ≤ x ∧ x < (t.attrs.length : Int))) && hM f.rows t.rows l r
theorem qB_iff {f t : Tb} {same : Bool} {l r : List Int} : qB f t same l r = true ↔ canB same l r = true ∧ InA f.attrs.length l ∧ InA t.attrs.length r ∧ hM f.rows t.rows l r = true := by
  unfold qB InA
  simp only [Bool.and_eq_true, List.all_eq_true, decide_eq_true_eq, and_assoc]
theorem qB_pq (f t : Tb) (same : Bool) : Pq (qB f t same) f.attrs.length t.attrs.length where
  len := fun h => (canB_iff.1 (qB_iff.1 h).1).2.1
  pre := fun h hl h0 => by
    obtain ⟨h1, h2, h3, h4⟩ := qB_iff.1 h
    exact qB_iff.2 ⟨canB_pre h1 hl h0, fun x hx => h2 x (List.mem_append_left _ hx), fun x hx => h3 x (List.mem_append_left _ hx), hM_pre h4 hl⟩
  inl := fun h => (qB_iff.1 h).2.1
  inr := fun h => (qB_iff.1 h).2.2.1
  asc := fun h => (canB_iff.1 (qB_iff.1 h).1).2.2.1
theorem qB_nil (f t : Tb) (same : Bool) : qB f t same [] [] = false := by
  unfold qB canB
  simp
def okQ (f t : Tb) (same : Bool) (l r : List Int) : Prop := (l = [] ∧ r = []) ∨ qB f t same l r = true
theorem okQ.len {f t : Tb} {same : Bool} {l r : List Int} (h : okQ f t same l r) : l.length = r.length := by
  rcases h with ⟨rfl, rfl⟩ | h
  · rfl
  · exact (qB_pq f t same).len h
theorem okQ.inl {f t : Tb} {same : Bool} {l r : List Int} (h : okQ f t same l r) : InA f.attrs.length l := by
  rcases h with ⟨rfl, rfl⟩ | h
  · exact fun x hx => by cases hx
  · exact (qB_iff.1 h).2.1
theorem okQ.inr {f t : Tb} {same : Bool} {l r : List Int} (h : okQ f t same l r) : InA t.attrs.length r := by
  rcases h with ⟨rfl, rfl⟩ | h
  · exact fun x hx => by cases hx
  · exact (qB_iff.1 h).2.2.1
theorem okQ.okP {f t : Tb} {same : Bool} {l r : List Int} (h : okQ f t same l r) : okP same l r := h.imp id fun h => (qB_iff.1 h).1
theorem okQ.fst_le {f t : Tb} {same : Bool} {l r : List Int} (h : okQ f t same l r) : fstX l ≤ f.attrs.length := by
  unfold fstX
  cases hl : l.getLast? with
  | none => exact Nat.zero_le _
  | some x =>
    have := h.inl x (List.mem_of_getLast? hl)
    simp only
    omega
theorem qB_snoc {f t : Tb} {same : Bool} {l r : List Int} {a b : Nat} (h : okQ f t same l r) (ha : fstX l ≤ a) (ha2 : a < f.attrs.length) (hb : b < t.attrs.length) : qB f t same (l ++ [(a : Int)]) (r ++ [(b : Int)]) = true ↔ ((b : Int) ∉ r ∧ ¬ (same = true ∧ (a : Int) = b)) ∧ hM f.rows t.rows (l ++ [(a : Int)]) (r ++ [(b : Int)]) = true := by
  rw [qB_iff, canB_snoc h.okP (fun x hx => (h.inl x hx).1) (by omega)]
  constructor
  · rintro ⟨h1, _, _, h4⟩
    exact ⟨h1, h4⟩
  · rintro ⟨h1, h4⟩
    refine ⟨h1, fun x hx => ?_, fun x hx => ?_, h4⟩
    · rcases List.mem_append.1 hx with hx | hx
      · exact h.inl x hx
      · rw [List.mem_singleton.1 hx]; omega
    · rcases List.mem_append.1 hx with hx | hx
      · exact h.inr x hx
      · rw [List.mem_singleton.1 hx]; omega
def FH (X : SV) (hx : Heap) (ds : List Dp) : Prop := (ds = [] ∧ X = SN ∧ hx = []) ∨ ∃ b, X = .os b 0 ds.length 4 ∧ hx = [(b, .svs (dCs ds))] ∧ ds ≠ []
def mkD (f t : Tb) (p : Pr) : Dp := ⟨f.name, p.1, t.name, p.2⟩
def stX (q : List Int → List Int → Bool) (nf nt k : Nat) (l r : List Int) (a b : Nat) : List Pr := if q (l ++ [(a : Int)]) (r ++ [(b : Int)]) then (l ++ [(a : Int)], r ++ [(b : Int)]) :: exS q nf nt k (l ++ [(a : Int)]) (r ++ [(b : Int)]) else []
def stY (q : List Int → List Int → Bool) (nf nt k : Nat) (l r : List Int) (a b : Nat) : List Pr := (rg b nt).flatMap (stX q nf nt k l r a)
def stZ (q : List Int → List Int → Bool) (nf nt k : Nat) (l r : List Int) (a : Nat) : List Pr := (rg a nf).flatMap fun a => stY q nf nt k l r a 0
theorem exS_eq {q : List Int → List Int → Bool} {nf nt k : Nat} {l r : List Int} : exS q nf nt (k + 1) l r = stZ q nf nt k l r (fstX l) := rfl
theorem stZ_step {q : List Int → List Int → Bool} {nf nt k : Nat} {l r : List Int} {a : Nat} (h : a < nf) : stZ q nf nt k l r a = stY q nf nt k l r a 0 ++ stZ q nf nt k l r (a + 1) := by
  unfold stZ
  rw [rg_step h, List.flatMap_cons]
theorem stZ_end {q : List Int → List Int → Bool} {nf nt k : Nat} {l r : List Int} {a : Nat} (h : nf ≤ a) : stZ q nf nt k l r a = [] := by
  unfold stZ
  rw [rg_end h]
  rfl
theorem stY_step {q : List Int → List Int → Bool} {nf nt k : Nat} {l r : List Int} {a b : Nat} (h : b < nt) : stY q nf nt k l r a b = stX q nf nt k l r a b ++ stY q nf nt k l r a (b + 1) := by
  unfold stY
  rw [rg_step h, List.flatMap_cons]
theorem stY_end {q : List Int → List Int → Bool} {nf nt k : Nat} {l r : List Int} {a b : Nat} (h : nt ≤ b) : stY q nf nt k l r a b = [] := by
  unfold stY
  rw [rg_end h]
  rfl
end Go.Ab.A15
namespace Go.Ab.A15
open Go Go.Ab Go.Ab.A34
theorem FH_len {X : SV} {hx : Heap} {ds : List Dp} (h : FH X hx ds) : X = SN ∧ ds = [] ∧ hx = [] ∨ ∃ b, X = .os b 0 ds.length 4 ∧ hx = [(b, .svs (dCs ds))] := h.imp (fun ⟨a, b, c⟩ => ⟨b, a, c⟩) (fun ⟨b, h1, h2, _⟩ => ⟨b, h1, h2⟩)
theorem dCs_len (l : List Dp) : (dCs l).length = l.length * 4 := flatS_len dC 4 (fun _ => rfl) l
theorem dCs_snoc (l : List Dp) (d : Dp) : dCs (l ++ [d]) = dCs l ++ dC d := by simp [dCs]
theorem not_map_of_fresh {h : Heap} {b : Nat} (hf : fresh h b) : b ∉ h.map (·.1) := fun hm => not_has_of_fresh hf (has_map.2 hm)
theorem St.le_two [Gl] {t : List (Nat × SV)} {h H : Heap} {i j b1 b2 n1 n2 : Nat} {k1 k2 : Blk} {la lb : List Int} (hij : ¬ i = j) (hi : look t i = .os b1 0 n1 1) (hj : look t j = .os b2 0 n2 1) (m1 : (b1, k1) ∈ h) (m2 : (b2, k2) ∈ h) (c1 : k1.cells = iC la) (c2 : k2.cells = iC lb) (e1 : n1 = la.length) (e2 : n2 = lb.length)
    (f1 : fresh H b1) (f2 : fresh H b2) (hne : ¬ b1 = b2) (hN : (H.map (·.1)).Nodup) (hs : ∀ x ∈ H, x ∈ h) : (St.mk t h).le ⟨(j, IL lb) :: (i, IL la) :: t, H⟩ := by
  subst e1 e2
  have lA : (iC la).length = la.length := List.length_map _
  have lB : (iC lb).length = lb.length := List.length_map _
  refine (St.le_pick ((b1, k1) :: (b2, k2) :: H) (fun x hx => ?_) ?_).trans ?_
  · rcases List.mem_cons.1 hx with rfl | hx
    · exact m1
    · rcases List.mem_cons.1 hx with rfl | hx
      · exact m2
      · exact hs x hx
  · simp only [List.map_cons]
    rw [List.nodup_cons, List.nodup_cons]
    refine ⟨fun hm => ?_, not_map_of_fresh f2, hN⟩
    rcases List.mem_cons.1 hm with e | hm
    · exact hne e
    · exact not_map_of_fresh f1 hm
  · have get : ∀ (k : Blk) (l : List Int) (p : Nat), k.cells = iC l → p < l.length → iF l p = getN k (0 + p * 1) 1 := fun k l p hc hp => by
      rw [getN_one, get_of_cells hc (by rw [List.length_map]; omega)]
      show _ = [(iC l).getD (0 + p * 1) .any]
      rw [Nat.zero_add, Nat.mul_one, map_get hp]
      rfl
    have s1 := St.le_freeze (h := (b1, k1) :: (b2, k2) :: H) hi (by rw [find_cons, if_pos rfl]) (by rw [← Blk.length_cells, c1, lA]; omega) (iF la) (fun p hp => get k1 la p c1 hp)
    rw [del_head] at s1
    have hj' : look ((i, IL la) :: t) j = .os b2 0 lb.length 1 := by
      rw [look_cons]
      have : Nat.beq i j = false := by
        cases hq : Nat.beq i j with
        | false => rfl
        | true => exact absurd (Nat.eq_of_beq_eq_true hq) hij
      rw [this]
      exact hj
    have s2 := St.le_freeze (h := (b2, k2) :: H) hj' (by rw [find_cons, if_pos rfl]) (by rw [← Blk.length_cells, c2, lB]; omega) (iF lb) (fun p hp => get k2 lb p c2 hp)
    rw [del_head] at s2
    exact s1.trans s2
end Go.Ab.A15
def Go.Ab.zND_1 : Go.Ab.OX := (.one 1 [1, 2, 3, 4, 19, 20, 21, 22] (.one 2 [2, 3, 4, 19, 20, 21, 22] (.one 3 [3, 4, 19, 20, 21, 22] (.one 4 [4, 19, 20, 21, 22] (.one 5 [5, 6, 7, 8, 9, 17, 18, 19, 20, 21, 22] (.one 6 [6, 7, 8, 9, 17, 18, 19, 20, 21, 22] (.one 7 [7, 8, 9, 17, 18, 19, 20, 21, 22] (.one 8 [8, 9, 17, 18, 19, 20, 21, 22] (.one 9 [9, 17, 18, 19, 20, 21, 22] (.one 10 [10, 17, 18, 19, 20, 21, 22] (.one 11 [11, 12, 13, 14, 15, 17, 18, 19, 20, 21, 22] (.one 12 [12, 13, 14, 15, 17, 18, 19, 20, 21, 22] (.one 13 [13, 14, 15, 17, 18, 19, 20, 21, 22] (.one 14 [14, 15, 17, 18, 19, 20, 21, 22] (.one 15 [15, 17, 18, 19, 20, 21, 22] (.one 16 [16, 17, 18, 19, 20, 21, 22] (.one 17 [17, 18, 19, 20, 21, 22] (.fre 0 [0, 20, 21, 22] (.alt 18 (.alt 19 (.one 20 [20, 21, 22] (.one 21 [21, 22] (.alt 22 .done .nil))) .nil) .nil)))))))))))))))))))
namespace Go.Proofs.YtpidncgibgiidaaGreat
open Go Go.Ab Go.Ab.A34 Go.Ab.A15 Go.Ab.A01
variable [Gl] [Tabs]
theorem ext_in (m : Nat) (f t : Tb) (same : Bool) (ar room : Nat) (h : MOk f t) (har : ar ≤ 6) (hroom : room ≤ 100000) (kk : Nat) (l r : List Int) (hq : okQ f t same l r) (hk : l.length + (kk + 1) = ar) (a : Nat) (ha : fstX l ≤ a) (ha2 : a < f.attrs.length)
    (IH : ∀ (l r : List Int) (X : SV) (hx : Heap) (ds : List Dp), FH X hx ds → okQ f t same l r → l.length + kk = ar → ds.length + (exS (qB f t same) f.attrs.length t.attrs.length kk l r).length ≤ room →
      Ab.Call Tryz.prog 91 [.op m 0, IL l, IL r] ((m, .svs (MC f t same ar X room)) :: hx) (fun v h' => v = SB true ∧ ∃ X' hx', FH X' hx' (ds ++ (exS (qB f t same) f.attrs.length t.attrs.length kk l r).map (mkD f t)) ∧ h' = (m, .svs (MC f t same ar X' room)) :: hx'))
    (X : SV) (hx : Heap) (ds : List Dp) (hF : FH X hx ds) (hb : ds.length + (stY (qB f t same) f.attrs.length t.attrs.length kk l r a 0).length ≤ room) :
    Ab.SW Tryz.prog 118 (blk 2 Tryz.f91) (nrm fun S => ∃ X' hx', FH X' hx' (ds ++ (stY (qB f t same) f.attrs.length t.attrs.length kk l r a 0).map (mkD f t)) ∧ S.le ⟨[(0, .op m 0), (1, IL l), (2, IL r), (8, I64 a)], (m, .svs (MC f t same ar X' room)) :: hx'⟩)
      ⟨[(0, .op m 0), (1, IL l), (2, IL r), (8, I64 a), (45, I64 t.attrs.length), (46, I64 (0 : Nat))], (m, .svs (MC f t same ar X room)) :: hx⟩ := by
  obtain ⟨A, hA⟩ : ∃ A, A = ds ++ (stY (qB f t same) f.attrs.length t.attrs.length kk l r a 0).map (mkD f t) := ⟨_, rfl⟩
  have hAl : A.length ≤ room := by rw [hA, List.length_append, List.length_map]; exact hb
  rw [← hA]
  have hlen := hq.len
  have hat := h.at_
  have haf := h.af
  conv => arg 3; whnf
  refine SW.block ?_
  obtain ⟨I, hI⟩ : ∃ I : Nat → St → Prop, ∀ k S, I k S ↔ (∃ (i : Nat) (X : SV) (hx : Heap) (ds : List Dp), k = t.attrs.length - i ∧ i ≤ t.attrs.length ∧ FH X hx ds ∧ A = ds ++ (stY (qB f t same) f.attrs.length t.attrs.length kk l r a i).map (mkD f t) ∧ S = ⟨[(0, .op m 0), (1, IL l), (2, IL r), (8, I64 a), (45, I64 t.attrs.length), (46, I64 i)], (m, .svs (MC f t same ar X room)) :: hx⟩) := ⟨fun k S => _, fun _ _ => Iff.rfl⟩
  refine SW.loop' I (t.attrs.length) ((hI _ _).2 ⟨0, X, hx, ds, rfl, Nat.zero_le _, hF, hA, rfl⟩) (by repeat' (first | exact rfl | exact trivial | constructor)) ?_
  intro k S hIn
  obtain ⟨i, X, hx, ds, rfl, hi, hF2, hA2, rfl⟩ := (hI _ _).1 hIn
  clear hIn
  have ie : ((i : Nat) : Int).toNat = i := Int.toNat_natCast _
  have i0 : (0 : Int) ≤ ((i : Nat) : Int) := by omega
  clear hA hb hF
  by_cases hlt : i < t.attrs.length
  · have hli : ((i : Nat) : Int) < (((t.attrs.length) : Nat) : Int) := by omega
    have w1 : IntKind.i64.wrap ((i : Int) + 1) = ((i + 1 : Nat) : Int) := by rw [i64_wrap (by omega) (by omega)]; omega
    have cc := contains_i (i : Int) r r.length (by omega) rfl (iF r) (fun j _ => rfl)
    have hat0 : 0 ≤ atI (i : Int) 0 r ↔ (i : Int) ∈ r := by
      have := @atI_none (i : Int) r 0
      constructor
      · intro h; exact Classical.byContradiction fun hn => by have := this.2 hn; omega
      · intro h; exact Classical.byContradiction fun hn => this.1 (by omega) h
    have hqs := qB_snoc (b := i) hq ha ha2 hlt
    rw [stY_step hlt] at hA2
    have iz : IntKind.i64.wrap ((i : Nat) : Int) = ((i : Nat) : Int) := i64_wrap (by omega) (by omega)
    by_cases hm : (i : Int) ∈ r
    · rw [decide_eq_true (hat0.2 hm)] at cc
      have hz : stX (qB f t same) f.attrs.length t.attrs.length kk l r a i = [] := by
        unfold stX
        rw [if_neg fun e => (hqs.1 e).1.1 hm]
      rw [hz, List.nil_append] at hA2
      clear hqs hz hat0 IH
      obtain ⟨fn, fa, frs⟩ := f
      obtain ⟨tn, ta, trs⟩ := t
      simp only at *
      have hD : (0 : Nat) = 0 := rfl
      repeat' first | (refine SW.seq_k fun K hK => ?_) | (refine SW.block ?_) | ((first | refine SW.region ?_ | refine SW.cond ?_ | refine SW.skip ?_ | refine SW.exit ?_ | refine Call.of_pure (cc) ?_); try simp only [go_sem, hD, hli, ie, i0, w1, true_implies]) | (apply hK; clear hK K) | (clear hK K; apply hK; clear hK K)
      refine Rnd.sub (ta.length - (i + 1)) (by omega) ((hI _ _).2 ⟨i + 1, X, hx, ds, rfl, by omega, hF2, hA2, rfl⟩) (by repeat' (first | exact rfl | exact trivial | constructor))
    · rw [decide_eq_false fun e => hm (hat0.1 e)] at cc
      by_cases hs : same = true ∧ a = i
      · have hz : stX (qB f t same) f.attrs.length t.attrs.length kk l r a i = [] := by
          unfold stX
          rw [if_neg fun e => (hqs.1 e).1.2 ⟨hs.1, by omega⟩]
        rw [hz, List.nil_append] at hA2
        clear hqs hz hat0 IH
        obtain ⟨rfl, rfl⟩ := hs
        obtain ⟨fn, fa, frs⟩ := f
        obtain ⟨tn, ta, trs⟩ := t
        simp only at *
        have hD : (0 : Nat) = 0 := rfl
        repeat' first | (refine SW.seq_k fun K hK => ?_) | (refine SW.block ?_) | ((first | refine SW.region ?_ | refine SW.cond ?_ | refine SW.skip ?_ | refine SW.exit ?_ | refine Call.of_pure (cc) ?_); try simp only [go_sem, hD, hli, ie, i0, w1, true_implies]) | (apply hK; clear hK K) | (clear hK K; apply hK; clear hK K)
        refine Rnd.sub (ta.length - (a + 1)) (by omega) ((hI _ _).2 ⟨a + 1, X, hx, ds, rfl, by omega, hF2, hA2, rfl⟩) (by repeat' (first | exact rfl | exact trivial | constructor))
      · have hcl := clone_i l (by omega)
        have hcr := clone_i r (by omega)
        have hhm := holds_m m f t same ar room X (l ++ [(a : Int)]) (r ++ [(i : Int)]) h (fun x hx => by
          rcases List.mem_append.1 hx with hx | hx
          · exact hq.inl x hx
          · rw [List.mem_singleton.1 hx]; omega) (fun x hx => by
          rcases List.mem_append.1 hx with hx | hx
          · exact hq.inr x hx
          · rw [List.mem_singleton.1 hx]; omega) (by simp [hlen]) (by rw [List.length_append, List.length_singleton]; omega)
        have hz : qB f t same (l ++ [(a : Int)]) (r ++ [(i : Int)]) = hM f.rows t.rows (l ++ [(a : Int)]) (r ++ [(i : Int)]) := by
          rw [Bool.eq_iff_iff, hqs]
          exact and_iff_right ⟨hm, fun e => hs ⟨e.1, by omega⟩⟩
        have ih := fun (Y : SV) (hy : Heap) (es : List Dp) => IH (l ++ [(a : Int)]) (r ++ [(i : Int)]) Y hy es
        unfold stX at hA2
        rw [hz] at hA2
        have hq2 : hM f.rows t.rows (l ++ [(a : Int)]) (r ++ [(i : Int)]) = true → okQ f t same (l ++ [(a : Int)]) (r ++ [(i : Int)]) := fun e => Or.inr (hz.trans e)
        have hll : (l ++ [(a : Int)]).length + kk = ar := by rw [List.length_append, List.length_singleton]; omega
        clear IH hqs hz hat0
        have hil : iC (l ++ [(a : Int)]) = iC l ++ [I64 a] := by rw [iC, List.map_append]; rfl
        have hir : iC (r ++ [(i : Int)]) = iC r ++ [I64 i] := by rw [iC, List.map_append]; rfl
        have hls : (l.length + 1) * 8 ≤ 140737488355328 := by omega
        have hrs : (r.length + 1) * 8 ≤ 140737488355328 := by omega
        have hl1 : l.length * 1 = (iC l).length := by rw [List.length_map]; omega
        have hr1 : r.length * 1 = (iC r).length := by rw [List.length_map]; omega
        have hgl : l.length + 1 = (l ++ [(a : Int)]).length := by simp
        have hgr : r.length + 1 = (r ++ [(i : Int)]).length := by simp
        generalize l ++ [(a : Int)] = l' at *
        generalize r ++ [(i : Int)] = r' at *
        generalize hM f.rows t.rows l' r' = z at *
        generalize exS (qB f t same) f.attrs.length t.attrs.length kk l' r' = E at *
        generalize hY : A15.stY (qB f t same) f.attrs.length t.attrs.length kk l r a (i + 1) = Y at *
        generalize qB f t same = q at *
        have hd : mkD f t (l', r') = ⟨f.name, l', t.name, r'⟩ := rfl
        obtain ⟨fn, fa, frs⟩ := f
        obtain ⟨tn, ta, trs⟩ := t
        simp only at *
        refine SW.nd fun hnd => ?_
        have hD : (0 : Nat) = 0 := rfl
        iterate 12 (first | (refine SW.seq_k fun K hK => ?_) | (refine SW.block ?_) | ((first | refine SW.region ?_ | refine SW.cond ?_ | refine SW.skip ?_); try simp only [go_sem, hD, hli, ie, i0, w1, true_implies]) | (apply hK; clear hK K))
        refine SW.seq_k fun K1 hK1 => ?_
        have hS1 : ∀ S : St, S.le ⟨[(0, .op m 0), (1, IL l), (2, IL r), (8, I64 a), (9, I64 i), (45, I64 ta.length), (46, I64 i)], (m, .svs (MC ⟨fn, fa, frs⟩ ⟨tn, ta, trs⟩ same ar X room)) :: hx⟩ → K1 S := by
          intro S hle
          refine hK1 S (Ab.SW.le hle ?_)
          clear hK1 K1 hle cc
          refine SW.seq_k fun K2 hK2 => ?_
          have hS3 : ∀ S : St, S.le ⟨[(0, .op m 0), (1, IL l), (2, IL r), (8, I64 a), (9, I64 i), (10, IL l'), (11, IL r'), (45, I64 ta.length), (46, I64 i)], (m, .svs (MC ⟨fn, fa, frs⟩ ⟨tn, ta, trs⟩ same ar X room)) :: hx⟩ → K2 S := by
            intro S hle
            refine hK2 S (Ab.SW.le hle ?_)
            clear hK2 K2 hle hcl hcr hil hir hls hrs hl1 hr1 hgl hgr
            have hhm2 : Ab.Call Tryz.prog 131 [.op m 0, IL l', IL r'] ((m, .svs (MC ⟨fn, fa, frs⟩ ⟨tn, ta, trs⟩ same ar X room)) :: hx) (fun v h' => v = SB z ∧ h' = (m, .svs (MC ⟨fn, fa, frs⟩ ⟨tn, ta, trs⟩ same ar X room)) :: hx) := Call.mono (Call.frameN (h2 := hx) hhm) fun v h' ⟨h1, e, ⟨q1, q2⟩, _⟩ => ⟨q1, by rw [e, q2]; rfl⟩
            clear hhm
            cases z with
            | false =>
              rw [if_neg (by simp), List.nil_append] at hA2
              repeat' first | ((with_reducible refine Call.mono hhm2 ?_); (intro rr h' hx2); (obtain ⟨rfl, rfl⟩ := hx2); (try simp only [go_sem, hD])) | (refine SW.seq_k fun K hK => ?_) | ((first | refine SW.region ?_ | refine SW.cond ?_ | refine SW.exit ?_); try simp only [go_sem, hD, hli, ie, i0, w1, true_implies]) | (apply hK; clear hK K) | (clear hK K; apply hK; clear hK K)
              refine Rnd.sub (ta.length - (i + 1)) (by omega) ((hI _ _).2 ⟨i + 1, X, hx, ds, rfl, by omega, hF2, by rw [hY]; exact hA2, rfl⟩) (by repeat' (first | exact rfl | exact trivial | constructor))
            | true =>
              rw [if_pos rfl] at hA2
              have hq3 := hq2 rfl
              clear hq2
              have hA3 : A = (ds ++ [mkD ⟨fn, fa, frs⟩ ⟨tn, ta, trs⟩ (l', r')]) ++ E.map (mkD ⟨fn, fa, frs⟩ ⟨tn, ta, trs⟩) ++ Y.map (mkD ⟨fn, fa, frs⟩ ⟨tn, ta, trs⟩) := by rw [hA2]; simp
              rw [hd] at hA3
              have hlen3 : (ds ++ [(⟨fn, l', tn, r'⟩ : Dp)]).length + E.length ≤ room := by
                rw [hA3] at hAl
                simp only [List.length_append, List.length_map] at hAl ⊢
                omega
              have ih2 := fun (Y2 : SV) (hy : Heap) (hf : FH Y2 hy (ds ++ [(⟨fn, l', tn, r'⟩ : Dp)])) => ih Y2 hy (ds ++ [(⟨fn, l', tn, r'⟩ : Dp)]) hf hq3 hll hlen3
              have hdl : ds.length + 1 ≤ 100000 := by simp only [List.length_append, List.length_singleton] at hlen3; omega
              have hdc := dCs_snoc ds ⟨fn, l', tn, r'⟩
              have hdc2 : dCs [(⟨fn, l', tn, r'⟩ : Dp)] = [Str fn, IL l', Str tn, IL r'] := rfl
              have hrm : ¬ ((room : Nat) : Int) < (((ds ++ [(⟨fn, l', tn, r'⟩ : Dp)]).length : Nat) : Int) := by omega
              have hgs : ds.length + 1 = (ds ++ [(⟨fn, l', tn, r'⟩ : Dp)]).length := by simp
              have hl4 : ds.length * 4 = (dCs ds).length := (dCs_len ds).symm
              have hb80 : (ds.length + 1) * 80 ≤ 140737488355328 := by omega
              clear ih hA2
              repeat' first | ((with_reducible refine Call.mono hhm2 ?_); (intro rr h' hx2); (obtain ⟨rfl, rfl⟩ := hx2); (try simp only [go_sem, hD])) | (refine SW.seq_k fun K hK => ?_) | ((first | refine SW.region ?_ | refine SW.cond ?_ | refine SW.skip ?_); try simp only [go_sem, hD, hli, ie, i0, w1, true_implies]) | (apply hK; clear hK K)
              refine Ab.SW.cut (fun S' => ∃ b', S'.le ⟨[(0, .op m 0), (1, IL l), (2, IL r), (8, I64 a), (9, I64 i), (10, IL l'), (11, IL r'), (45, I64 ta.length), (46, I64 i)], [(m, .svs (MC ⟨fn, fa, frs⟩ ⟨tn, ta, trs⟩ same ar (.os b' 0 (ds.length + 1) 4) room)), (b', .svs (dCs ds ++ [Str fn, IL l', Str tn, IL r']))]⟩) ?_ (fun S' hS' => ?_)
              · clear ih2 hhm2
                rcases FH_len hF2 with ⟨rfl, rfl, rfl⟩ | ⟨fb, rfl, rfl⟩
                · repeat' first | (with_reducible refine And.intro (by omega) ?_) | ((first | refine SW.regionX (id := 15) (Checked.mixed Tryz.checked) Go.Ab.zND_1 (by kernel_rfl) ?_ | (refine allF_i fun b hb => ?_; replace hD := And.intro hb hD; clear hb; try simp only [fresh_cons, fresh_nil, and_true, ne_eq, neF] at hD) | simp only [appK, appOsK]); try simp only [Go.Ab.zND_1, go_sem, hD, true_implies]) | (refine And.intro (by omega) ?_)
                  all_goals
                    obtain ⟨nb, rfl⟩ : ∃ x, x = b := ⟨_, rfl⟩
                    refine nrm_i ⟨nb, (St.le_pick [(m, .svs (MC ⟨fn, fa, frs⟩ ⟨tn, ta, trs⟩ same ar (.os nb 0 1 4) room)), (nb, .svs [Str fn, IL l', Str tn, IL r'])] ?_ ?_).trans (St.le_sub (by repeat' (first | exact rfl | exact trivial | constructor)))⟩
                  · repeat' (first | exact (fun x hx => (List.not_mem_nil hx).elim) | refine List.forall_mem_cons.2 ⟨?_, ?_⟩ | exact List.mem_cons_self | apply List.mem_cons_of_mem)
                  · simp [fresh_cons, fresh_nil, hD]
                · have hf0 := fresh_of_nodup hnd
                  simp only [fresh_cons, fresh_nil, and_true, ne_eq, neF] at hf0
                  clear hD
                  have hD := hf0
                  clear hf0
                  repeat' first | (with_reducible refine And.intro (by omega) ?_) | ((first | refine SW.regionX (id := 15) (Checked.mixed Tryz.checked) Go.Ab.zND_1 (by kernel_rfl) ?_ | (refine allF_i fun b hb => ?_; replace hD := And.intro hb hD; clear hb; try simp only [fresh_cons, fresh_nil, and_true, ne_eq, neF] at hD) | simp only [appK, appOsK]); try simp only [Go.Ab.zND_1, go_sem, hD, hl4, hb80, true_implies])
                  all_goals
                    obtain ⟨nb, rfl⟩ : ∃ x, x = b := ⟨_, rfl⟩
                    refine nrm_i ⟨nb, (St.le_pick [(m, .svs (MC ⟨fn, fa, frs⟩ ⟨tn, ta, trs⟩ same ar (.os nb 0 (ds.length + 1) 4) room)), (nb, .svs (dCs ds ++ [Str fn, IL l', Str tn, IL r']))] ?_ ?_).trans (St.le_sub (by repeat' (first | exact rfl | exact trivial | constructor)))⟩
                  · repeat' (first | exact (fun x hx => (List.not_mem_nil hx).elim) | refine List.forall_mem_cons.2 ⟨?_, ?_⟩ | exact List.mem_cons_self | apply List.mem_cons_of_mem)
                  · simp [fresh_cons, fresh_nil, hD]
              · obtain ⟨b', hle⟩ := hS'
                clear hF2 hnd hx X hhm2
                have hF4 : FH (.os b' 0 (ds.length + 1) 4) [(b', .svs (dCs ds ++ [Str fn, IL l', Str tn, IL r']))] (ds ++ [(⟨fn, l', tn, r'⟩ : Dp)]) := .inr ⟨b', by rw [hgs], by rw [hdc], by simp⟩
                have ih3 := ih2 _ _ hF4
                clear ih2 hF4
                rw [← hgs] at hrm
                generalize dCs ds ++ [Str fn, IL l', Str tn, IL r'] = cs at *
                try simp only [go_sem, hD]
                (first | apply hK | (clear hK K; apply hK) | (clear hK K; clear hK K; apply hK)); clear hK K
                refine Ab.SW.le hle ?_
                clear hle
                clear hD
                have hD : (0 : Nat) = 0 := rfl
                repeat' first | ((with_reducible refine Call.mono ih3 ?_); (intro rr h' hx2); (obtain ⟨rfl, X2, hx3, hF5, rfl⟩ := hx2); (try simp only [go_sem, hD])) | (refine SW.seq_k fun K hK => ?_) | ((first | refine SW.region ?_ | refine SW.regionY [14] (id := 16) (Checked.mixed Tryz.checked) ((.one 0 [0, 1, 2, 3, 4, 9, 10, 11, 12, 13, 14, 15, 16] (.one 1 [1, 2, 3, 4, 9, 10, 11, 12, 13, 14, 15, 16] (.one 2 [2, 3, 4, 9, 10, 11, 12, 13, 14, 15, 16] (.one 3 [3, 4, 9, 10, 11, 12, 13, 14, 15, 16] (.one 4 [4, 9, 10, 11, 12, 13, 14, 15, 16] (.one 5 [5, 6, 7, 8, 9, 10, 11, 12, 13, 14, 15, 16] (.one 6 [6, 7, 8, 9, 10, 11, 12, 13, 14, 15, 16] (.one 7 [7, 8, 9, 10, 11, 12, 13, 14, 15, 16] (.one 8 [8, 9, 10, 11, 12, 13, 14, 15, 16] (.one 9 [9, 10, 11, 12, 13, 14, 15, 16] (.one 10 [10, 11, 12, 13, 14, 15, 16] (.one 11 [11, 14, 15, 16] (.one 12 [12, 14, 15, 16] (.one 13 [13, 14, 15, 16] (.alt 14 true (.one 15 [15, 16] (.one 16 [16] .done)) .nil))))))))))))))) : OY) (by kernel_rfl) ?_ | refine SW.cond ?_ | refine SW.skip ?_); try simp only [go_sem, hD, hli, ie, i0, w1, hrm, true_implies]) | (apply hK; clear hK K)
                all_goals
                  refine Rnd.sub (ta.length - (i + 1)) (by omega) ((hI _ _).2 ⟨i + 1, X2, hx3, ((ds ++ [(⟨fn, l', tn, r'⟩ : Dp)]) ++ E.map (mkD ⟨fn, fa, frs⟩ ⟨tn, ta, trs⟩)), rfl, by omega, hF5, by rw [hY]; exact hA3, rfl⟩) (by repeat' (first | exact rfl | exact trivial | constructor))
          clear hK2
          repeat' first | ((with_reducible refine Call.mono (Call.frameN (h1 := []) hcl) ?_); (intro rr h' hx); (obtain ⟨h1, rfl, hcl, hnd⟩ := hx); (rcases hcl with ⟨hl0, rfl, rfl⟩ | ⟨lb, rfl, rfl⟩ <;> (simp only [List.nil_append, List.cons_append] at hnd ⊢; try (have hf := fresh_of_nodup hnd; simp only [fresh_cons, fresh_nil, and_true, ne_eq, neF] at hf; replace hD := And.intro hf hD; clear hf hnd); try simp only [go_sem, hD]))) | ((with_reducible refine Call.mono (Call.frameN (h1 := []) hcr) ?_); (intro rr h' hx); (obtain ⟨h1, rfl, hcl, hnd⟩ := hx); (rcases hcl with ⟨hr0, rfl, rfl⟩ | ⟨rb, rfl, rfl⟩ <;> (simp only [List.nil_append, List.cons_append] at hnd ⊢; try (have hf := fresh_of_nodup hnd; simp only [fresh_cons, fresh_nil, and_true, ne_eq, neF] at hf; replace hD := And.intro hf hD; clear hf hnd); try simp only [go_sem, hD]))) | (with_reducible refine And.intro (by omega) ?_) | ((first | refine SW.region ?_ | (refine allF_i fun b hb => ?_; replace hD := And.intro hb hD; clear hb; try simp only [fresh_cons, fresh_nil, and_true, ne_eq, neF] at hD) | simp only [appK, appOsK]); try simp only [go_sem, hD, hli, ie, i0, w1, hls, hrs, hl1, hr1, true_implies]) | (refine And.intro (by omega) ?_)
          all_goals
            refine hS3 _ ((St.le_two (i := 10) (j := 11) (la := l') (lb := r') (by decide) rfl rfl (by repeat (first | exact List.mem_cons_self | apply List.mem_cons_of_mem)) (by repeat (first | exact List.mem_cons_self | apply List.mem_cons_of_mem)) ?_ ?_ ?_ ?_ (by simp [fresh_cons, hD]) (by simp [fresh_cons, hD]) (by simp [hD]) hnd (by intro x hx; repeat (first | exact hx | apply List.mem_cons_of_mem))).trans (St.le_sub (by repeat' (first | exact rfl | exact trivial | constructor))))
          all_goals first
            | exact hil.symm
            | exact hir.symm
            | (rw [hil, hl0]; rfl)
            | (rw [hir, hr0]; rfl)
            | exact hgl
            | exact hgr
            | (rw [← hgl, hl0]; rfl)
            | (rw [← hgr, hr0]; rfl)
        clear hK1
        have hS2 : same = false ∨ ¬ ((a : Nat) : Int) = ((i : Nat) : Int) := by
          cases same with
          | false => exact .inl rfl
          | true => exact .inr fun e => hs ⟨rfl, by omega⟩
        rcases hS2 with rfl | hne
        · repeat' first | (refine SW.seq_k fun K hK => ?_) | ((first | refine SW.region ?_ | refine SW.cond ?_ | refine SW.skip ?_ | refine Call.of_pure (cc) ?_); try simp only [go_sem, hD, hli, ie, i0, w1, true_implies]) | (apply hK; clear hK K)
          exact hS1 _ (St.le_sub (by repeat' (first | exact rfl | exact trivial | constructor)))
        · cases same with
          | false =>
            repeat' first | (refine SW.seq_k fun K hK => ?_) | ((first | refine SW.region ?_ | refine SW.cond ?_ | refine SW.skip ?_ | refine Call.of_pure (cc) ?_); try simp only [go_sem, hD, hli, ie, i0, w1, true_implies]) | (apply hK; clear hK K)
            exact hS1 _ (St.le_sub (by repeat' (first | exact rfl | exact trivial | constructor)))
          | true =>
            repeat' first | (refine SW.seq_k fun K hK => ?_) | ((first | refine SW.region ?_ | refine SW.cond ?_ | refine SW.skip ?_ | refine Call.of_pure (cc) ?_); try simp only [go_sem, hD, hli, ie, i0, w1, hne, true_implies]) | (apply hK; clear hK K)
            exact hS1 _ (St.le_sub (by repeat' (first | exact rfl | exact trivial | constructor)))
  · have hli : ¬ ((i : Nat) : Int) < (((t.attrs.length) : Nat) : Int) := by omega
    rw [stY_end (by omega), List.map_nil, List.append_nil] at hA2
    subst hA2
    obtain ⟨fn, fa, frs⟩ := f
    obtain ⟨tn, ta, trs⟩ := t
    simp only at *
    have hD : (0 : Nat) = 0 := rfl
    repeat' first | (refine SW.seq_k fun K hK => ?_) | ((first | refine SW.region ?_ | refine SW.cond ?_ | refine SW.exit ?_); try simp only [go_sem, hD, hli, true_implies]) | (apply hK; clear hK K)
    exact ⟨X, hx, hF2, St.le_sub (by repeat' (first | exact rfl | exact trivial | constructor))⟩
end Go.Proofs.YtpidncgibgiidaaGreat
namespace Go.Ab.A15
open Go Go.Ab Go.Ab.A34
theorem fst_cases {l : List Int} (h : ∀ x ∈ l, 0 ≤ x ∧ x < (1000 : Int)) : (l.length = 0 ∧ fstX l = 0) ∨ (0 < l.length ∧ (fstX l : Int) = l.getD (l.length - 1) 0 + 1) := by
  cases l with
  | nil => exact .inl ⟨rfl, rfl⟩
  | cons a l =>
    refine .inr ⟨by simp, ?_⟩
    have hg : (a :: l).getLast? = some ((a :: l).getD ((a :: l).length - 1) 0) := by
      rw [List.getLast?_eq_getElem?, List.getD_eq_getElem?_getD]
      have : (a :: l).length - 1 < (a :: l).length := by simp
      rw [List.getElem?_eq_getElem this]
      rfl
    have hm := h _ (List.mem_of_getLast? hg)
    unfold fstX
    rw [hg]
    simp only
    omega
end Go.Ab.A15
namespace Go.Proofs.YtpidncgibgiidaaGreat
open Go Go.Ab Go.Ab.A34 Go.Ab.A15 Go.Ab.A01
variable [Gl] [Tabs]
theorem ext_out (m : Nat) (f t : Tb) (same : Bool) (ar room : Nat) (h : MOk f t) (har : ar ≤ 6) (hroom : room ≤ 100000) (kk : Nat) (l r : List Int) (hq : okQ f t same l r) (hk : l.length + (kk + 1) = ar)
    (IH : ∀ (l r : List Int) (X : SV) (hx : Heap) (ds : List Dp), FH X hx ds → okQ f t same l r → l.length + kk = ar → ds.length + (exS (qB f t same) f.attrs.length t.attrs.length kk l r).length ≤ room →
      Ab.Call Tryz.prog 91 [.op m 0, IL l, IL r] ((m, .svs (MC f t same ar X room)) :: hx) (fun v h' => v = SB true ∧ ∃ X' hx', FH X' hx' (ds ++ (exS (qB f t same) f.attrs.length t.attrs.length kk l r).map (mkD f t)) ∧ h' = (m, .svs (MC f t same ar X' room)) :: hx'))
    (X : SV) (hx : Heap) (ds : List Dp) (hF : FH X hx ds) (hb : ds.length + (A15.stZ (qB f t same) f.attrs.length t.attrs.length kk l r (fstX l)).length ≤ room) :
    Ab.SW Tryz.prog 118 (blk 0 Tryz.f91) (nrm fun S => ∃ X' hx', FH X' hx' (ds ++ (A15.stZ (qB f t same) f.attrs.length t.attrs.length kk l r (fstX l)).map (mkD f t)) ∧ S.le ⟨[(0, .op m 0)], (m, .svs (MC f t same ar X' room)) :: hx'⟩)
      ⟨[(0, .op m 0), (1, IL l), (2, IL r), (8, I64 (fstX l))], (m, .svs (MC f t same ar X room)) :: hx⟩ := by
  obtain ⟨A, hA⟩ : ∃ A, A = ds ++ (A15.stZ (qB f t same) f.attrs.length t.attrs.length kk l r (fstX l)).map (mkD f t) := ⟨_, rfl⟩
  have hAl : A.length ≤ room := by rw [hA, List.length_append, List.length_map]; exact hb
  rw [← hA]
  have hfl := hq.fst_le
  have hat := h.at_
  have haf := h.af
  conv => arg 3; whnf
  refine SW.block ?_
  obtain ⟨I, hI⟩ : ∃ I : Nat → St → Prop, ∀ n S, I n S ↔ (∃ (a : Nat) (X : SV) (hx : Heap) (ds : List Dp), n = f.attrs.length - a ∧ a ≤ f.attrs.length ∧ fstX l ≤ a ∧ FH X hx ds ∧ A = ds ++ (A15.stZ (qB f t same) f.attrs.length t.attrs.length kk l r a).map (mkD f t) ∧
    S = ⟨[(0, .op m 0), (1, IL l), (2, IL r), (8, I64 a)], (m, .svs (MC f t same ar X room)) :: hx⟩) := ⟨fun n S => _, fun _ _ => Iff.rfl⟩
  refine SW.loop' I (f.attrs.length - fstX l) ((hI _ _).2 ⟨fstX l, X, hx, ds, rfl, hfl, Nat.le_refl _, hF, hA, rfl⟩) (by repeat' (first | exact rfl | exact trivial | constructor)) ?_
  clear hA hb hF
  intro n S hIn
  obtain ⟨a, X, hx, ds, rfl, ha2, ha, hF2, hA2, rfl⟩ := (hI _ _).1 hIn
  clear hIn
  have ie : ((a : Nat) : Int).toNat = a := Int.toNat_natCast _
  have i0 : (0 : Int) ≤ ((a : Nat) : Int) := by omega
  by_cases hlt : a < f.attrs.length
  · have hli : ((a : Nat) : Int) < (((f.attrs.length) : Nat) : Int) := by omega
    have w1 : IntKind.i64.wrap ((a : Int) + 1) = ((a + 1 : Nat) : Int) := by rw [i64_wrap (by omega) (by omega)]; omega
    rw [stZ_step hlt] at hA2
    have hlen3 : ds.length + (A15.stY (qB f t same) f.attrs.length t.attrs.length kk l r a 0).length ≤ room := by
      rw [hA2] at hAl
      simp only [List.length_append, List.length_map] at hAl
      omega
    have hin := ext_in m f t same ar room h har hroom kk l r hq hk a ha hlt IH X hx ds hF2 hlen3
    rw [List.map_append, ← List.append_assoc] at hA2
    generalize hY : A15.stZ (qB f t same) f.attrs.length t.attrs.length kk l r (a + 1) = Y at *
    generalize A15.stY (qB f t same) f.attrs.length t.attrs.length kk l r a 0 = W at *
    generalize qB f t same = q at *
    clear IH
    obtain ⟨fn, fa, frs⟩ := f
    obtain ⟨tn, ta, trs⟩ := t
    simp only at *
    have hD : (0 : Nat) = 0 := rfl
    repeat' first | (refine SW.seq_k fun K hK => ?_) | ((first | refine SW.region ?_ | refine SW.cond ?_ | refine SW.skip ?_); try simp only [go_sem, hD, hli, ie, i0, w1, true_implies]) | (apply hK; clear hK K)
    refine SW.block ?_
    repeat' first | (refine SW.seq_k fun K hK => ?_) | (refine SW.region ?_; try simp only [go_sem, hD, hli, ie, i0, w1, true_implies]) | (apply hK; clear hK K)
    refine Ab.SW.cut _ (Ab.SW.le (St.le_sub (by repeat' (first | exact rfl | exact trivial | constructor))) hin) ?_
    rintro S' ⟨X2, hx2, hF3, hle⟩
    try simp only [go_sem, hD]
    (first | apply hK | (clear hK K; apply hK) | (clear hK K; clear hK K; apply hK)); clear hK K
    refine Ab.SW.le hle ?_
    clear hle hin hF2
    repeat' (refine SW.region ?_; try simp only [go_sem, hD, hli, ie, i0, w1, true_implies])
    refine Rnd.sub (fa.length - (a + 1)) (by omega) ((hI _ _).2 ⟨a + 1, X2, hx2, (ds ++ W.map (mkD ⟨fn, fa, frs⟩ ⟨tn, ta, trs⟩)), rfl, by omega, by omega, hF3, by rw [hY]; exact hA2, rfl⟩) (by repeat' (first | exact rfl | exact trivial | constructor))
  · have hli : ¬ ((a : Nat) : Int) < (((f.attrs.length) : Nat) : Int) := by omega
    rw [stZ_end (by omega), List.map_nil, List.append_nil] at hA2
    subst hA2
    clear IH
    obtain ⟨fn, fa, frs⟩ := f
    obtain ⟨tn, ta, trs⟩ := t
    simp only at *
    have hD : (0 : Nat) = 0 := rfl
    repeat' first | (refine SW.seq_k fun K hK => ?_) | ((first | refine SW.region ?_ | refine SW.cond ?_ | refine SW.exit ?_); try simp only [go_sem, hD, hli, true_implies]) | (apply hK; clear hK K)
    exact ⟨X, hx, hF2, St.le_sub (by repeat' (first | exact rfl | exact trivial | constructor))⟩
theorem extend_m (m : Nat) (f t : Tb) (same : Bool) (ar room : Nat) (h : MOk f t) (har : ar ≤ 6) (hroom : room ≤ 100000) : ∀ (kk : Nat) (l r : List Int) (X : SV) (hx : Heap) (ds : List Dp), FH X hx ds → okQ f t same l r → l.length + kk = ar →
    ds.length + (exS (qB f t same) f.attrs.length t.attrs.length kk l r).length ≤ room →
    Ab.Call Tryz.prog 91 [.op m 0, IL l, IL r] ((m, .svs (MC f t same ar X room)) :: hx) (fun v h' => v = SB true ∧ ∃ X' hx', FH X' hx' (ds ++ (exS (qB f t same) f.attrs.length t.attrs.length kk l r).map (mkD f t)) ∧ h' = (m, .svs (MC f t same ar X' room)) :: hx')
  | 0, l, r, X, hx, ds, hF, hq, hk, hb => by
    have e1 : ((l.length : Nat) : Int) = ((ar : Nat) : Int) := by omega
    refine Call.mono (Q := fun v h' => v = SB true ∧ h' = (m, .svs (MC f t same ar X room)) :: hx) ?_ fun v h' ⟨h1, h2⟩ => ⟨h1, X, hx, by simpa [exS] using hF, h2⟩
    clear hF hb
    obtain ⟨fn, fa, frs⟩ := f
    obtain ⟨tn, ta, trs⟩ := t
    refine Call.enter' (N := 118) (rs := [.tmp 6]) Tryz.func91 rfl rfl rfl (by decide) rfl ?_; simp only [argT]; have hD : (0 : Nat) = 0 := rfl
    repeat' first | (refine SW.seq_k fun K hK => ?_) | ((first | refine SW.region ?_ | refine SW.cond ?_ | refine SW.ret ?_); try simp only [go_sem, hD, e1, true_implies]) | (apply hK; clear hK K)
    refine retQ_le (fun M w0 D N a w r => r) ?_
    simp only [resL_tmp, resL_nil, tupOf, go_sem, hD]
  | kk + 1, l, r, X, hx, ds, hF, hq, hk, hb => by
    have e1 : ¬ ((l.length : Nat) : Int) = ((ar : Nat) : Int) := by omega
    have IH := extend_m m f t same ar room h har hroom kk
    have ho := ext_out m f t same ar room h har hroom kk l r hq hk IH X hx ds hF hb
    have hat := h.at_
    have haf := h.af
    have hfc := fst_cases (l := l) (fun x hx => ⟨(hq.inl x hx).1, by have := (hq.inl x hx).2; omega⟩)
    rw [exS_eq]
    generalize A15.stZ (qB f t same) f.attrs.length t.attrs.length kk l r (fstX l) = W at *
    clear IH
    have hfl := hq.fst_le
    generalize fstX l = a at *
    clear hb hF
    obtain ⟨fn, fa, frs⟩ := f
    obtain ⟨tn, ta, trs⟩ := t
    simp only at *
    rcases hfc with ⟨h0, rfl⟩ | ⟨h0, h1⟩
    · have z0 : ¬ (0 : Int) < ((l.length : Nat) : Int) := by omega
      refine Call.enter' (N := 118) (rs := [.tmp 6]) Tryz.func91 rfl rfl rfl (by decide) rfl ?_; simp only [argT]; have hD : (0 : Nat) = 0 := rfl
      repeat' first | (refine SW.seq_k fun K hK => ?_) | ((first | refine SW.region ?_ | refine SW.cond ?_ | refine SW.skip ?_); try simp only [go_sem, hD, e1, z0, true_implies]) | (apply hK; clear hK K)
      refine Ab.SW.cut _ (Ab.SW.le (St.le_sub (by repeat' (first | exact rfl | exact trivial | constructor))) ho) ?_
      rintro S' ⟨X2, hx2, hF3, hle⟩
      try simp only [go_sem, hD]
      (first | apply hK | (clear hK K; apply hK) | (clear hK K; clear hK K; apply hK)); clear hK K
      refine Ab.SW.le hle ?_
      clear hle ho
      repeat' first | (refine SW.seq_k fun K hK => ?_) | ((first | refine SW.region ?_ | refine SW.ret ?_); try simp only [go_sem, hD, true_implies]) | (apply hK; clear hK K)
      refine retQ_le (fun M w0 D N a w r => r) ?_
      simp only [resL_tmp, resL_nil, tupOf, go_sem, hD]
      exact ⟨X2, hx2, hF3, rfl⟩
    · have z0 : (0 : Int) < ((l.length : Nat) : Int) := by omega
      have z1 : (0 : Int) ≤ ((l.length : Nat) : Int) - 1 := by omega
      have z2 : ((l.length : Nat) : Int) - 1 < ((l.length : Nat) : Int) := by omega
      have z3 : (((l.length : Nat) : Int) - 1).toNat = l.length - 1 := by omega
      have z4 : IntKind.i64.wrap (((l.length : Nat) : Int) - 1) = ((l.length : Nat) : Int) - 1 := by rw [i64_wrap (by omega) (by omega)]
      have fi : iF l (l.length - 1) = [I64 (l.getD (l.length - 1) 0)] := rfl
      have z5 : IntKind.i64.wrap (l.getD (l.length - 1) 0 + 1) = ((a : Nat) : Int) := by rw [i64_wrap (by omega) (by omega)]; omega
      generalize l.getD (l.length - 1) 0 = x at *
      refine Call.enter' (N := 118) (rs := [.tmp 6]) Tryz.func91 rfl rfl rfl (by decide) rfl ?_; simp only [argT]; have hD : (0 : Nat) = 0 := rfl
      repeat' first | (refine SW.seq_k fun K hK => ?_) | ((first | refine SW.region ?_ | refine SW.cond ?_ | refine SW.skip ?_); try simp only [go_sem, hD, e1, z0, z1, z2, z3, z4, z5, fi, true_implies]) | (apply hK; clear hK K)
      refine Ab.SW.cut _ (Ab.SW.le (St.le_sub (by repeat' (first | exact rfl | exact trivial | constructor))) ho) ?_
      rintro S' ⟨X2, hx2, hF3, hle⟩
      try simp only [go_sem, hD]
      (first | apply hK | (clear hK K; apply hK) | (clear hK K; clear hK K; apply hK)); clear hK K
      refine Ab.SW.le hle ?_
      clear hle ho
      repeat' first | (refine SW.seq_k fun K hK => ?_) | ((first | refine SW.region ?_ | refine SW.ret ?_); try simp only [go_sem, hD, true_implies]) | (apply hK; clear hK K)
      refine retQ_le (fun M w0 D N a w r => r) ?_
      simp only [resL_tmp, resL_nil, tupOf, go_sem, hD]
      exact ⟨X2, hx2, hF3, rfl⟩
end Go.Proofs.YtpidncgibgiidaaGreat
namespace Go.Ab
open Go
theorem Call.nilA [Gl] {P : Program} {f : FuncId} {args : List SV} {h : Heap} {Q : SV → Heap → Prop} (i : Nat) {sz : Nat} {g : Nat → List SV} (hi : i < args.length) (ha : args.getD i .any = .sc (.slice none 0 0)) (hc : Call P f (args.set i (.fl 0 sz g)) h Q) : Call P f args h Q := by
  refine Call.le (fun c hc => hc) (fun M w vs own hr => ⟨own, by simpa using hr.1, fun j hj => ?_⟩) hc
  rw [getD_set hi]
  have h0 := hr.2 j (by simpa using hj)
  by_cases hij : i = j
  · subst hij
    rw [if_pos rfl]
    rw [ha] at h0
    exact Rep.fl_nil h0
  · rw [if_neg hij]; exact h0
end Go.Ab
namespace Go.Ab.A15
open Go Go.Ab Go.Ab.A34
def pairP (db : List Tb) (ar i k : Nat) : List Dp := srtD ((exS (qB (db.getD i t0) (db.getD k t0) (decide ((i : Int) = (k : Int)))) (db.getD i t0).attrs.length (db.getD k t0).attrs.length ar [] []).map (mkD (db.getD i t0) (db.getD k t0)))
def rowP (db : List Tb) (ar i k : Nat) : List Dp := (rg k db.length).flatMap (pairP db ar i)
def allP (db : List Tb) (ar i : Nat) : List Dp := (rg i db.length).flatMap fun i => rowP db ar i 0
theorem rowP_step {db : List Tb} {ar i k : Nat} (h : k < db.length) : rowP db ar i k = pairP db ar i k ++ rowP db ar i (k + 1) := by
  unfold rowP
  rw [rg_step h, List.flatMap_cons]
theorem rowP_end {db : List Tb} {ar i k : Nat} (h : db.length ≤ k) : rowP db ar i k = [] := by
  unfold rowP
  rw [rg_end h]
  rfl
theorem allP_step {db : List Tb} {ar i : Nat} (h : i < db.length) : allP db ar i = rowP db ar i 0 ++ allP db ar (i + 1) := by
  unfold allP
  rw [rg_step h, List.flatMap_cons]
theorem allP_end {db : List Tb} {ar i : Nat} (h : db.length ≤ i) : allP db ar i = [] := by
  unfold allP
  rw [rg_end h]
  rfl
theorem mkD_nodup (f t : Tb) {l : List Pr} (h : l.Nodup) : (l.map (mkD f t)).Nodup := by
  rw [List.Nodup, List.pairwise_map]
  refine h.imp fun {p p'} hne e => hne ?_
  unfold mkD at e
  obtain ⟨_, _, e1, e2⟩ := dp_eq.1 e
  exact Prod.ext e1 e2
theorem srtD_perm (l : List Dp) : (srtD l).Perm l := List.mergeSort_perm l _
theorem srtD_len (l : List Dp) : (srtD l).length = l.length := (srtD_perm l).length_eq
theorem len_le6 {f t : Tb} {same : Bool} {ar : Nat} {p : Pr} (h : p ∈ exS (qB f t same) f.attrs.length t.attrs.length ar [] []) : p.1.length ≤ ar ∧ p.2.length ≤ ar := by
  obtain ⟨h1, h2⟩ := (mem_ex (qB_pq f t same) (qB_nil f t same) ar p).1 h
  have := (qB_pq f t same).len h1
  omega
theorem fl_dCs (l : List Dp) : flCells (dpF l) l.length = dCs l := by
  have e : l = (List.range l.length).map fun i => l.getD i d0 := by
    refine List.ext_getElem (by simp) fun i h1 h2 => ?_
    simp [List.getD_eq_getElem?_getD, h1]
  unfold flCells
  conv => rhs; rw [e]
  unfold dCs
  rw [List.flatMap_map]
  rfl
theorem dCs_all (l : List Dp) : (dCs l).all single = true := by
  rw [List.all_eq_true]
  intro x hx
  obtain ⟨d, _, hd⟩ := List.mem_flatMap.1 hx
  simp only [dC, List.mem_cons, List.not_mem_nil, or_false] at hd
  rcases hd with rfl | rfl | rfl | rfl <;> rfl
theorem dCs_get [Gl] (l : List Dp) {p : Nat} (hp : p < l.length) : dpF l p = getN (.svs (dCs l)) (0 + p * 4) 4 := by
  have h4 : p * 4 + 4 ≤ l.length * 4 := by omega
  rw [getN_take _ _ _ (by rw [Blk.len_svs, dCs_len]; omega)]
  show _ = ((dCs l).drop (0 + p * 4)).take 4
  rw [Nat.zero_add]
  have h1 : l.take p ++ l.drop p = l := List.take_append_drop p l
  have h2 : l.drop p = l[p] :: l.drop (p + 1) := List.drop_eq_getElem_cons hp
  have h3 : dCs l = dCs (l.take p) ++ (dC l[p] ++ dCs (l.drop (p + 1))) := by
    conv => lhs; rw [← h1, h2]
    unfold dCs
    rw [List.flatMap_append, List.flatMap_cons]
  have h5 : (dCs (l.take p)).length = p * 4 := by rw [dCs_len, List.length_take]; omega
  rw [h3, List.drop_append_of_le_length (by omega), List.drop_of_length_le (by omega), List.nil_append]
  unfold dpF
  rw [List.getD_eq_getElem?_getD, List.getElem?_eq_getElem hp]
  rfl
end Go.Ab.A15
namespace Go.Proofs.YtpidncgibgiidaaGreat
open Go Go.Ab Go.Ab.A34 Go.Ab.A15 Go.Ab.A01
variable [Gl] [Tabs]
theorem sort_fr (m : Nat) (mc : Blk) (X : SV) (hx h0 : Heap) (ds : List Dp) (f t : ByteArray) (hF : FH X hx ds) (hf : ∀ d ∈ ds, d.f = f ∧ d.t = t) (hnd : ds.Nodup) (hl : ds.length ≤ 1000000000) (hs : ∀ d ∈ ds, OkS d) :
    Ab.Call Tryz.prog 92 [X, .fn (.func 93) [] []] ((m, mc) :: (hx ++ h0)) (fun r h' => r = .tup [] ∧ ∃ hx2, FH X hx2 (srtD ds) ∧ h' = hx2 ++ ((m, mc) :: h0)) := by
  rcases hF with ⟨rfl, rfl, rfl⟩ | ⟨b, rfl, rfl, hne⟩
  · exact Call.mono (Call.frameN (h1 := []) (h2 := (m, mc) :: h0) sort_dn) fun r h' ⟨h1, e, ⟨q1, q2⟩, _⟩ => ⟨q1, [], .inl ⟨by simp [srtD], rfl, rfl⟩, by rw [e, q2]⟩
  · refine Call.permN (h' := [(b, .svs (dCs ds))] ++ ((m, mc) :: h0)) ?_ List.perm_middle
    exact Call.mono (Call.frameN (h2 := (m, mc) :: h0) (sort_d b ds f t hf hne hnd hl hs)) fun r h' ⟨h1, e, ⟨q1, q2⟩, _⟩ => ⟨q1, [(b, .svs (dCs (srtD ds)))], .inr ⟨b, by rw [srtD_len], rfl, fun e2 => hne (List.eq_nil_of_length_eq_zero (by rw [← srtD_len, e2]; rfl))⟩, by rw [e, q2]⟩
end Go.Proofs.YtpidncgibgiidaaGreat
namespace Go.Ab.A15
open Go Go.Ab Go.Ab.A34
structure OkF (db : List Tb) (ar : Nat) : Prop where
  n : db.length ≤ 1000
  m : ∀ s ∈ db, ∀ t ∈ db, MOk s t
  tot : (allP db ar 0).length ≤ 2000
  ar : ar ≤ 6
theorem FH.acc {X : SV} {hp : Heap} {ds : List Dp} (h : FH X hp ds) : Acc 4 X hp [] ds.length (dCs ds) := by
  rcases h with ⟨rfl, rfl, rfl⟩ | ⟨b, rfl, rfl, _⟩
  · exact .nil 4 []
  · exact .inr ⟨b, _, by simp [fresh_nil], rfl, (dCs_len ds).symm, rfl, rfl, rfl⟩
theorem Acc.len40 [Gl] {x : SV} {hp h0 : Heap} {n : Nat} {cs : List SV} (h : Acc 4 x hp h0 n cs) : ∃ pre, lenSV false (some (40, 4, 80)) none x = .ok pre (I64 n) ∧ pre := by
  rcases h with ⟨rfl, rfl, rfl, rfl⟩ | ⟨b, blk, _, _, _, rfl, rfl, _⟩
  · exact ⟨_, rfl, by first | trivial | decide⟩
  · exact ⟨_, rfl, by first | trivial | decide⟩
theorem le_found [Gl] {t : List (Nat × SV)} {mb : Nat} {cs : List SV} {X : SV} {hx h0 hp : Heap} {ds : List Dp} (hF : FH X hx ds) (hc : cs.getD 8 .any = X) (hl : 8 < cs.length) (hs : ∀ x ∈ hp, x ∈ h0) (hn : ((hx ++ (mb, Blk.svs cs) :: h0).map (·.1)).Nodup) (hn2 : (hp.map (·.1)).Nodup) :
    (St.mk t (hx ++ (mb, .svs cs) :: h0)).le ⟨t, hp ++ [(mb, .svs (cs.set 8 (DpL ds)))]⟩ := by
  have pick : ∀ (k : Blk), mb ∉ h0.map (·.1) → (St.mk t ((mb, k) :: h0)).le ⟨t, hp ++ [(mb, k)]⟩ := fun k hm => by
    refine St.le_pick _ (fun x hx => ?_) ?_
    · rcases List.mem_append.1 hx with hx | hx
      · exact List.mem_cons_of_mem _ (hs x hx)
      · rw [List.mem_singleton.1 hx]; exact List.mem_cons_self
    · rw [List.map_append, List.nodup_append]
      refine ⟨hn2, by simp, fun a ha b hb e => hm ?_⟩
      simp only [List.map_cons, List.map_nil, List.mem_singleton] at hb
      rw [e, hb] at ha
      obtain ⟨y, hy, e2⟩ := List.mem_map.1 ha
      exact List.mem_map.2 ⟨y, hs y hy, e2⟩
  rcases hF with ⟨rfl, rfl, rfl⟩ | ⟨b, rfl, rfl, hne⟩
  · rw [List.nil_append, List.map_cons, List.nodup_cons] at hn
    have s1 := St.le_nilC (t := t) (h := (mb, .svs cs) :: h0) (c := mb) (j := 8) (sz := 4) (f := dpF []) (cs := cs) (by rw [find_cons, if_pos rfl]) hl hc
    rw [upd_cons, if_pos rfl] at s1
    exact s1.trans (pick _ hn.1)
  · rw [List.cons_append, List.nil_append, List.map_cons, List.map_cons, List.nodup_cons, List.nodup_cons] at hn
    have e1 : ¬ mb = b := fun e => hn.1 (by rw [e]; exact List.mem_cons_self)
    have s1 := St.le_freezeC (t := t) (h := (b, .svs (dCs ds)) :: (mb, .svs cs) :: h0) (c := mb) (j := 8) (b := b) (off := 0) (len := ds.length) (sz := 4) (k := .svs (dCs ds)) (cs := cs) (by rw [find_cons, if_neg (Ne.symm e1), find_cons, if_pos rfl]) e1 hl hc (by rw [find_cons, if_pos rfl]) (by rw [Blk.len_svs, dCs_len]; omega) (dpF ds) (fun p hp => dCs_get ds hp)
    rw [del_head, upd_cons, if_pos rfl] at s1
    exact s1.trans (pick _ hn.2.1)
theorem Acc.fr {sz n : Nat} {x : SV} {h h1 : Heap} {cs : List SV} (hA : Acc sz x h [] n cs) (hn : ((h ++ h1).map (·.1)).Nodup) : Acc sz x (h ++ h1) h1 n cs := by
  rcases hA with ⟨h1, h2, rfl, rfl⟩ | ⟨b, blk, hfr, hc, hl, rfl, rfl, hkM⟩
  · exact .inl ⟨h1, h2, rfl, rfl⟩
  · refine .inr ⟨b, blk, ?_, hc, hl, rfl, rfl, hkM⟩
    rw [List.cons_append, List.nil_append] at hn
    exact fresh_of_nodup hn
theorem Acc.alone [Gl] {sz n : Nat} {x : SV} {h h1 : Heap} {cs : List SV} (hA : Acc sz x h h1 n cs) : ∃ h', Acc sz x h' [] n cs ∧ ∀ t, (St.mk t h).le ⟨t, h'⟩ := by
  rcases hA with ⟨h1, h2, rfl, rfl⟩ | ⟨b, blk, hfr, hc, hl, rfl, rfl, hkM⟩
  · exact ⟨[], .inl ⟨h1, h2, rfl, rfl⟩, fun t => St.le_drop⟩
  · exact ⟨[(b, blk)], .inr ⟨b, blk, by simp [fresh_nil], hc, hl, rfl, rfl, hkM⟩, fun t => St.le_pick _ (fun x hx => by rw [List.mem_singleton.1 hx]; exact List.mem_cons_self) (by simp)⟩
theorem exS_mk {f t : Tb} {same : Bool} {ar : Nat} (har : ar ≤ 6) : ((exS (qB f t same) f.attrs.length t.attrs.length ar [] []).map (mkD f t)).Nodup ∧ (∀ d ∈ (exS (qB f t same) f.attrs.length t.attrs.length ar [] []).map (mkD f t), d.f = f.name ∧ d.t = t.name) ∧ (∀ d ∈ (exS (qB f t same) f.attrs.length t.attrs.length ar [] []).map (mkD f t), OkS d) := by
  refine ⟨mkD_nodup f t (nodup_exS (qB_pq f t same) ar [] [] rfl), fun d hd => ?_, fun d hd => ?_⟩
  · obtain ⟨p, _, rfl⟩ := List.mem_map.1 hd
    exact ⟨rfl, rfl⟩
  · obtain ⟨p, hp, rfl⟩ := List.mem_map.1 hd
    have := len_le6 hp
    exact ⟨by show p.1.length ≤ _; omega, by show p.2.length ≤ _; omega⟩
end Go.Ab.A15
namespace Go.Proofs.YtpidncgibgiidaaGreat
open Go Go.Ab Go.Ab.A34 Go.Ab.A15 Go.Ab.A01
variable [Gl] [Tabs]
theorem sea_in (db : List Tb) (ar i : Nat) (h : OkF db ar) (hil : i < db.length) (x : SV) (hp : Heap) (ds : List Dp) (hA : Acc 4 x hp [] ds.length (dCs ds)) (hb : ds.length + (rowP db ar i 0).length ≤ 2000) :
    Ab.SW Tryz.prog 56 (blk 2 Tryz.f47) (nrm fun S => ∃ x' hp', Acc 4 x' hp' [] (ds ++ rowP db ar i 0).length (dCs (ds ++ rowP db ar i 0)) ∧ S.le ⟨[(1, I64 ar), (2, .fp [TL db]), (6, x'), (13, TL db), (14, I64 db.length), (15, I64 i)], hp'⟩)
      ⟨[(1, I64 ar), (2, .fp [TL db]), (6, x), (7, I64 i), (8, .fp (tC (db.getD i t0))), (13, TL db), (14, I64 db.length), (15, I64 i), (21, TL db), (22, I64 db.length), (23, I64 (0 : Nat))], hp⟩ := by
  obtain ⟨A, hAe⟩ : ∃ A, A = ds ++ rowP db ar i 0 := ⟨_, rfl⟩
  have hAl : A.length ≤ 2000 := by rw [hAe, List.length_append]; exact hb
  rw [← hAe]
  have hn := h.n
  have har := h.ar
  conv => arg 3; whnf
  refine SW.block ?_
  obtain ⟨I, hI⟩ : ∃ I : Nat → St → Prop, ∀ k S, I k S ↔ (∃ (j : Nat) (x : SV) (hp : Heap) (ds : List Dp), k = db.length - j ∧ j ≤ db.length ∧ Acc 4 x hp [] ds.length (dCs ds) ∧ A = ds ++ rowP db ar i j ∧ S = ⟨[(1, I64 ar), (2, .fp [TL db]), (6, x), (7, I64 i), (8, .fp (tC (db.getD i t0))), (13, TL db), (14, I64 db.length), (15, I64 i), (21, TL db), (22, I64 db.length), (23, I64 j)], hp⟩) := ⟨fun k S => _, fun _ _ => Iff.rfl⟩
  refine SW.loop' I (db.length) ((hI _ _).2 ⟨0, x, hp, ds, rfl, Nat.zero_le _, hA, hAe, rfl⟩) (by repeat' (first | exact rfl | exact trivial | constructor)) ?_
  intro k S hIn
  obtain ⟨j, x, hp, ds, rfl, hi, hA2, hA3, rfl⟩ := (hI _ _).1 hIn
  clear hIn
  have ie : ((j : Nat) : Int).toNat = j := Int.toNat_natCast _
  have i0 : (0 : Int) ≤ ((j : Nat) : Int) := by omega
  clear hA hAe hb
  by_cases hlt : j < db.length
  · have hli : ((j : Nat) : Int) < (((db.length) : Nat) : Int) := by omega
    have w1 : IntKind.i64.wrap ((j : Int) + 1) = ((j + 1 : Nat) : Int) := by rw [i64_wrap (by omega) (by omega)]; omega
    rw [rowP_step hlt] at hA3
    have hm := h.m _ (getD_mem' t0 hil) _ (getD_mem' t0 hlt)
    have fj : tF db j = tC (db.getD j t0) := rfl
    have hsm : ∀ e : Bool, e = decide ((i : Int) = (j : Int)) → pairP db ar i j = srtD ((exS (qB (db.getD i t0) (db.getD j t0) e) (db.getD i t0).attrs.length (db.getD j t0).attrs.length ar [] []).map (mkD (db.getD i t0) (db.getD j t0))) := fun e he => by rw [he]; rfl
    have hY : rowP db ar i (j + 1) = rowP db ar i (j + 1) := rfl
    generalize hsmE : decide ((i : Int) = (j : Int)) = same at *
    have hpe := hsm _ rfl
    have hlen3 : ds.length + (pairP db ar i j).length ≤ 2000 := by
      rw [hA3] at hAl
      simp only [List.length_append] at hAl
      omega
    have hroom : ((2000 - ds.length : Nat) : Int) = 2000 - ((ds.length : Nat) : Int) := by omega
    have hw : IntKind.i64.wrap (2000 - ((ds.length : Nat) : Int)) = ((2000 - ds.length : Nat) : Int) := by rw [i64_wrap (by omega) (by omega)]; omega
    have hex := fun m => extend_m m (db.getD i t0) (db.getD j t0) same ar (2000 - ds.length) hm har (by omega) ar [] [] SN [] [] (.inl ⟨rfl, rfl, rfl⟩) (Or.inl ⟨rfl, rfl⟩) (by simp) (by
      have h1 := hlen3
      rw [hpe, srtD_len, List.length_map] at h1
      simp only [List.length_nil, Nat.zero_add]
      omega)
    obtain ⟨k1, k2, k3⟩ := exS_mk (f := db.getD i t0) (t := db.getD j t0) (same := same) har
    rw [hpe] at hA3 hlen3
    clear hpe hsm
    rw [← List.append_assoc] at hA3
    generalize (exS (qB (db.getD i t0) (db.getD j t0) same) (db.getD i t0).attrs.length (db.getD j t0).attrs.length ar [] []).map (mkD (db.getD i t0) (db.getD j t0)) = E at *
    generalize db.getD i t0 = f at *
    generalize db.getD j t0 = t at *
    obtain ⟨fn, fa, frs⟩ := f
    obtain ⟨tn, ta, trs⟩ := t
    simp only at *
    have hD : (0 : Nat) = 0 := rfl
    obtain ⟨pre, hlx, hpre⟩ := Acc.len40 hA2
    repeat' first | (refine SW.seq_k fun K hK => ?_) | (refine SW.block ?_) | ((first | refine SW.region ?_ | refine SW.cond ?_ | refine SW.skip ?_ | (refine allF_i fun b hb => ?_; replace hD := And.intro hb hD; clear hb; try simp only [fresh_cons, fresh_nil, and_true, ne_eq, neF] at hD)); try simp only [go_sem, hD, hli, ie, i0, w1, fj, hsmE, hw, hlx, hpre, true_implies]) | (apply hK; clear hK K)
    obtain ⟨mb, rfl⟩ : ∃ x, x = b := ⟨_, rfl⟩
    obtain ⟨tb, rfl⟩ : ∃ x, x = b := ⟨_, rfl⟩
    have hc1 : Ab.Call Tryz.prog 91 [.op mb 0, SN, SN] ((mb, .svs (MC ⟨fn, fa, frs⟩ ⟨tn, ta, trs⟩ same ar SN (2000 - ds.length : Nat))) :: (tb, .svs [Str tn, SL ta, RL trs]) :: hp) (fun v h' => v = SB true ∧ ∃ X' hx', FH X' hx' E ∧ h' = (mb, .svs (MC ⟨fn, fa, frs⟩ ⟨tn, ta, trs⟩ same ar X' (2000 - ds.length : Nat))) :: (hx' ++ ((tb, .svs [Str tn, SL ta, RL trs]) :: hp))) := by
      refine Call.nilA (sz := 1) (g := iF []) 1 (by simp) rfl ?_
      refine Call.nilA (sz := 1) (g := iF []) 2 (by simp) rfl ?_
      exact Call.mono (Call.frameN (h2 := (tb, .svs [Str tn, SL ta, RL trs]) :: hp) (hex mb)) fun v h' ⟨h1, e, ⟨q1, X', hx', q2, q3⟩, _⟩ => ⟨q1, X', hx', q2, by rw [e, q3]; rfl⟩
    refine Call.mono hc1 ?_
    rintro v h' ⟨rfl, X2, hx2, hF2, rfl⟩
    clear hc1 hex
    try simp only [go_sem, hD]
    repeat' first | (refine SW.seq_k fun K hK => ?_) | ((first | refine SW.region ?_ | refine SW.cond ?_ | refine SW.skip ?_); try simp only [go_sem, hD, hli, ie, i0, w1, true_implies]) | (apply hK; clear hK K)
    refine Call.mono (sort_fr mb _ X2 hx2 ((tb, .svs [Str tn, SL ta, RL trs]) :: hp) E fn tn hF2 k2 k1 (by rw [srtD_len] at hlen3; omega) k3) ?_
    rintro v h' ⟨rfl, hx3, hF3, rfl⟩
    clear hF2
    try simp only [go_sem, hD]
    (first | apply hK | (clear hK K; apply hK) | (clear hK K; clear hK K; apply hK)); clear hK K
    refine SW.nd fun hnd => ?_
    have hpn : (hp.map (·.1)).Nodup := by
      have h1 : ((hx3.map (·.1)) ++ (mb :: tb :: hp.map (·.1))).Nodup := by simpa using hnd
      exact (List.nodup_cons.1 (List.nodup_cons.1 (List.nodup_append.1 h1).2.1).2).2
    refine Ab.SW.le (le_found (cs := MC ⟨fn, fa, frs⟩ ⟨tn, ta, trs⟩ same ar X2 (2000 - ds.length : Nat)) hF3 rfl (by show 8 < 10; omega) (fun x hx => List.mem_cons_of_mem _ hx) hnd hpn) ?_
    clear hnd
    refine SW.nd fun hnd => ?_
    have hA5 : Acc 4 x (hp ++ [(mb, .svs [Str fn, SL fa, RL frs, Str tn, SL ta, RL trs, SB same, I64 ar, DpL (srtD E), I64 (2000 - ds.length : Nat)])]) [(mb, .svs [Str fn, SL fa, RL frs, Str tn, SL ta, RL trs, SB same, I64 ar, DpL (srtD E), I64 (2000 - ds.length : Nat)])] ds.length (dCs ds) := Acc.fr hA2 hnd
    have hsrc : ∀ H, srcCells (DpL (srtD E)) H = some ((srtD E).length, dCs (srtD E)) := fun H => by
      show some (_, flCells (dpF (srtD E)) (srtD E).length) = _
      rw [fl_dCs]
    have hcl : (dCs (srtD E)).length = (srtD E).length * 4 := dCs_len _
    have hb1 : (ds.length + (srtD E).length) * 80 ≤ 140737488355328 := by omega
    have hb2 : ds.length + (srtD E).length ≤ 140737488355328 := by omega
    have hall := dCs_all (srtD E)
    have hAc : dCs (ds ++ srtD E) = dCs ds ++ dCs (srtD E) := by unfold dCs; rw [List.flatMap_append]
    have hAn : (ds ++ srtD E).length = ds.length + (srtD E).length := List.length_append
    have hfd : Heap.find (hp ++ [(mb, .svs [Str fn, SL fa, RL frs, Str tn, SL ta, RL trs, SB same, I64 ar, DpL (srtD E), I64 (2000 - ds.length : Nat)])]) mb = some (.svs [Str fn, SL fa, RL frs, Str tn, SL ta, RL trs, SB same, I64 ar, DpL (srtD E), I64 (2000 - ds.length : Nat)]) := find_of_mem hnd (List.mem_append_right _ (List.mem_singleton.2 rfl))
    clear hnd hF3 hA2 k1 k2 k3
    generalize hG : srtD E = G at *
    repeat' first | ((with_reducible refine appK_accS hA5 ?_ (hsrc _) ?_ hcl hall ?_ ?_ hb1 hb2 ?_); (iterate 4 (first | rfl | exact Nat.succ_pos _)); (intro x2 hp2 hA6); (try simp only [go_sem, hD])) | (refine SW.region ?_; try simp only [go_sem, hD, hli, ie, i0, w1, hfd, true_implies]) | (apply hK; clear hK K)
    obtain ⟨hp3, hA7, hle⟩ := Acc.alone hA6
    refine Rnd.le (hle _) ?_
    refine Rnd.sub (db.length - (j + 1)) (by omega) ((hI _ _).2 ⟨j + 1, x2, hp3, (ds ++ G), rfl, by omega, by rw [hAn, hAc]; exact hA7, hA3, rfl⟩) (by repeat' (first | exact rfl | exact trivial | constructor))
  · have hli : ¬ ((j : Nat) : Int) < (((db.length) : Nat) : Int) := by omega
    rw [rowP_end (by omega), List.append_nil] at hA3
    subst hA3
    have hD : (0 : Nat) = 0 := rfl
    repeat' first | (refine SW.seq_k fun K hK => ?_) | ((first | refine SW.region ?_ | refine SW.cond ?_ | refine SW.exit ?_); try simp only [go_sem, hD, hli, true_implies]) | (apply hK; clear hK K)
    exact ⟨x, hp, hA2, St.le_sub (by repeat' (first | exact rfl | exact trivial | constructor))⟩
theorem search_p (db : List Tb) (ar : Nat) (h : OkF db ar) : Ab.Call Tryz.prog 47 [DB db, I64 ar] [] (fun r h' => ∃ x, r = .tup [x, I64 0] ∧ Acc 4 x h' [] (allP db ar 0).length (dCs (allP db ar 0))) := by
  have hn := h.n
  have htot := h.tot
  refine Call.enter' (N := 56) (rs := [.tmp 4, .tmp 5]) Tryz.func47 rfl rfl rfl (by decide) rfl ?_; simp only [argT]; have hD : (0 : Nat) = 0 := rfl
  repeat' first | (refine SW.seq_k fun K hK => ?_) | ((first | refine SW.region ?_ | (refine allF_i fun b hb => ?_; replace hD := And.intro hb hD; clear hb; try simp only [fresh_cons, fresh_nil, and_true, ne_eq, neF] at hD)); try simp only [go_sem, hD, true_implies]) | (apply hK; clear hK K)
  obtain ⟨xb, rfl⟩ : ∃ x, x = b := ⟨_, rfl⟩
  refine Ab.SW.le (S' := ⟨[(1, I64 ar), (2, .fp [TL db]), (6, SN), (13, TL db), (14, I64 db.length), (15, I64 (0 : Nat))], []⟩) ?_ ?_
  · refine St.le.trans (St.le_freezeP (i := 2) (b := xb) (off := 0) (n := 1) (k := .svs [TL db]) rfl (by simp [find_cons, hD]) (by exact Nat.le_refl 1)) ?_
    simp only [getN, Blk.get, go_sem, hD]
    exact St.le_sub (by repeat' (first | exact rfl | exact trivial | constructor))
  clear hD
  have hD : (0 : Nat) = 0 := rfl
  refine SW.block ?_
  obtain ⟨A, hAe⟩ : ∃ A, A = allP db ar 0 := ⟨_, rfl⟩
  have hAl : A.length ≤ 2000 := by rw [hAe]; exact htot
  have hAe0 := hAe
  obtain ⟨I, hI⟩ : ∃ I : Nat → St → Prop, ∀ k S, I k S ↔ (∃ (i : Nat) (x : SV) (hp : Heap) (ds : List Dp), k = db.length - i ∧ i ≤ db.length ∧ Acc 4 x hp [] ds.length (dCs ds) ∧ A = ds ++ allP db ar i ∧ S = ⟨[(1, I64 ar), (2, .fp [TL db]), (6, x), (13, TL db), (14, I64 db.length), (15, I64 i)], hp⟩) := ⟨fun k S => _, fun _ _ => Iff.rfl⟩
  refine SW.loop' I (db.length) ((hI _ _).2 ⟨0, SN, [], [], rfl, Nat.zero_le _, .nil 4 [], hAe, rfl⟩) (by repeat' (first | exact rfl | exact trivial | constructor)) ?_
  intro k S hIn
  obtain ⟨i, x, hp, ds, rfl, hi, hA2, hA3, rfl⟩ := (hI _ _).1 hIn
  clear hIn
  have ie : ((i : Nat) : Int).toNat = i := Int.toNat_natCast _
  have i0 : (0 : Int) ≤ ((i : Nat) : Int) := by omega
  clear hAe
  by_cases hlt : i < db.length
  · have hli : ((i : Nat) : Int) < (((db.length) : Nat) : Int) := by omega
    have w1 : IntKind.i64.wrap ((i : Int) + 1) = ((i + 1 : Nat) : Int) := by rw [i64_wrap (by omega) (by omega)]; omega
    rw [allP_step hlt, ← List.append_assoc] at hA3
    have fi : tF db i = tC (db.getD i t0) := rfl
    have hlen3 : ds.length + (rowP db ar i 0).length ≤ 2000 := by
      rw [hA3] at hAl
      simp only [List.length_append] at hAl
      omega
    have hin := sea_in db ar i h hlt x hp ds hA2 hlen3
    generalize rowP db ar i 0 = W at *
    clear hA2 hlen3
    generalize db.getD i t0 = f at *
    obtain ⟨fn, fa, frs⟩ := f
    repeat' first | (refine SW.seq_k fun K hK => ?_) | ((first | refine SW.region ?_ | refine SW.cond ?_ | refine SW.skip ?_); try simp only [go_sem, hD, hli, ie, i0, w1, fi, true_implies]) | (apply hK; clear hK K)
    refine SW.block ?_
    repeat' first | (refine SW.seq_k fun K hK => ?_) | ((first | refine SW.region ?_ | (refine allF_i fun b hb => ?_; replace hD := And.intro hb hD; clear hb; try simp only [fresh_cons, fresh_nil, and_true, ne_eq, neF] at hD)); try simp only [go_sem, hD, hli, ie, i0, w1, fi, true_implies]) | (apply hK; clear hK K)
    obtain ⟨fb, rfl⟩ : ∃ x, x = b := ⟨_, rfl⟩
    refine Ab.SW.cut _ (Ab.SW.le ((St.le_freezeP (i := 8) (b := fb) (off := 0) (n := 3) (k := .svs (tC ⟨fn, fa, frs⟩)) rfl (by rw [find_cons, if_pos rfl]) (by exact Nat.le_refl 3)).trans ?_) hin) ?_
    · rw [del_head]
      simp only [getN, Blk.get, go_sem, hD]
      exact St.le_sub (by repeat' (first | exact rfl | exact trivial | constructor))
    rintro S' ⟨x2, hp2, hA4, hle⟩
    try simp only [go_sem, hD]
    (first | apply hK | (clear hK K; apply hK) | (clear hK K; clear hK K; apply hK)); clear hK K
    refine Ab.SW.le hle ?_
    clear hle hin
    clear hD
    have hD : (0 : Nat) = 0 := rfl
    repeat' (refine SW.region ?_; try simp only [go_sem, hD, hli, ie, i0, w1, fi, true_implies])
    refine Rnd.sub (db.length - (i + 1)) (by omega) ((hI _ _).2 ⟨i + 1, x2, hp2, (ds ++ W), rfl, by omega, hA4, hA3, rfl⟩) (by repeat' (first | exact rfl | exact trivial | constructor))
  · have hli : ¬ ((i : Nat) : Int) < (((db.length) : Nat) : Int) := by omega
    rw [allP_end (by omega), List.append_nil] at hA3
    subst hA3
    rw [hAe0] at hA2
    repeat' first | (refine SW.seq_k fun K hK => ?_) | ((first | refine SW.region ?_ | refine SW.cond ?_ | refine SW.exit ?_ | refine SW.ret ?_); try simp only [go_sem, hD, hli, true_implies]) | (apply hK; clear hK K) | (clear hK K; apply hK; clear hK K)
    refine retQ_le (fun M w0 D N a w r => r) ?_
    simp only [resL_tmp, resL_nil, tupOf, go_sem, hD]
    exact ⟨x, rfl, hA2⟩
end Go.Proofs.YtpidncgibgiidaaGreat
namespace Go.Ab.A15
open Go Go.Ab Go.Ab.A34
open Classical in
noncomputable def qR (db : List Tb) (f t : Tb) (l r : List Int) : Bool := decide (CanD ⟨f.name, l, t.name, r⟩) && hldB db ⟨f.name, l, t.name, r⟩
structure OkH (db : List Tb) (f t : Tb) (most : Nat) : Prop where
  n : db.length ≤ 1000
  ok : OkDb db
  af : f.attrs.length ≤ 100
  at_ : t.attrs.length ≤ 100
  m : most ≤ 6
end Go.Ab.A15
namespace Go.Proofs.YtpidncgibgiidaaGreat
open Go Go.Ab Go.Ab.A34 Go.Ab.A15 Go.Ab.A01
variable [Gl] [Tabs]
end Go.Proofs.YtpidncgibgiidaaGreat
namespace Go.Ab.A15
open Go Go.Ab Go.Ab.A34
end Go.Ab.A15
namespace Go.Proofs.YtpidncgibgiidaaGreat
open Go Go.Ab Go.Ab.A34 Go.Ab.A15 Go.Ab.A01
variable [Gl] [Tabs]
end Go.Proofs.YtpidncgibgiidaaGreat
namespace Go.Ab.A15
open Go Go.Ab Go.Ab.A34
theorem dCs_set : ∀ (L : List Dp) (j : Nat) (d : Dp), j < L.length → ((((dCs L).set (j * 4) (Str d.f)).set (j * 4 + 1) (IL d.l)).set (j * 4 + 1 + 1) (Str d.t)).set (j * 4 + 1 + 1 + 1) (IL d.r) = dCs (L.set j d)
  | [], j, d, h => absurd h (by simp)
  | a :: L, 0, d, _ => rfl
  | a :: L, j + 1, d, h => by
    have := dCs_set L j d (by rw [List.length_cons] at h; omega)
    rw [show (j + 1) * 4 = j * 4 + 1 + 1 + 1 + 1 by omega]
    show Str a.f :: IL a.l :: Str a.t :: IL a.r :: _ = Str a.f :: IL a.l :: Str a.t :: IL a.r :: dCs (L.set j d)
    rw [← this]
    rfl
theorem dCs_g4 : ∀ (L : List Dp) (j : Nat), j < L.length → (dCs L).getD (j * 4) .any = Str (L.getD j d0).f ∧ (dCs L).getD (j * 4 + 1) .any = IL (L.getD j d0).l ∧ (dCs L).getD (j * 4 + 1 + 1) .any = Str (L.getD j d0).t ∧ (dCs L).getD (j * 4 + 1 + 1 + 1) .any = IL (L.getD j d0).r
  | [], j, h => absurd h (by simp)
  | a :: L, 0, _ => ⟨rfl, rfl, rfl, rfl⟩
  | a :: L, j + 1, h => by
    have := dCs_g4 L j (by rw [List.length_cons] at h; omega)
    rw [show (j + 1) * 4 = j * 4 + 1 + 1 + 1 + 1 by omega]
    exact this
def LtD (a b : Dp) : Prop := cmpD a b < 0
theorem LtD.tr {a b c : Dp} (h1 : LtD a b) (h2 : LtD b c) : LtD a c := cmpD_trans h1 h2
end Go.Ab.A15
namespace Go.Proofs.YtpidncgibgiidaaGreat
open Go Go.Ab Go.Ab.A34 Go.Ab.A15 Go.Ab.A01
variable [Gl] [Tabs]
end Go.Proofs.YtpidncgibgiidaaGreat
namespace Go.Ab.A15
open Go Go.Ab Go.Ab.A34
structure OkLv (q : List Int → List Int → Bool) (nf nt most : Nat) : Prop where
  len : ∀ k, k ≤ most → ∀ p ∈ (lvR q nf nt k).2, p.1.length ≤ 10 ∧ p.2.length ≤ 10
  l1 : ∀ k, k ≤ most → (lvR q nf nt k).1.length ≤ 9000
  l2 : ∀ k, k ≤ most → (lvR q nf nt k).2.length ≤ 9000
end Go.Ab.A15
namespace Go.Proofs.YtpidncgibgiidaaGreat
open Go Go.Ab Go.Ab.A34 Go.Ab.A15 Go.Ab.A01
variable [Gl] [Tabs]
end Go.Proofs.YtpidncgibgiidaaGreat
namespace Go.Ab.A15
open Go Go.Ab Go.Ab.A34 Go.Sort Go.Shelf Go.Proofs
theorem cmpD_le_trans (a b c : Dp) (h1 : (!(ltOf cmpD) b a) = true) (h2 : (!(ltOf cmpD) c b) = true) : (!(ltOf cmpD) c a) = true := by
  simp only [ltOf, Bool.not_eq_true', decide_eq_false_iff_not] at *
  intro h3
  have n1 := cmpD_neg a b
  rcases Int.lt_or_eq_of_le (show cmpD a b ≤ 0 by omega) with h4 | h4
  · exact h2 (cmpD_trans h3 h4)
  · obtain ⟨e1, e2⟩ := cmpD_zero h4
    have : cmpD c a = cmpD c b := by unfold cmpD; rw [e1, e2]
    omega
theorem cmpD_le_total (a b : Dp) : ((!(ltOf cmpD) b a) || (!(ltOf cmpD) a b)) = true := by
  have n1 := cmpD_neg a b
  simp only [ltOf, Bool.or_eq_true, Bool.not_eq_true', decide_eq_false_iff_not]
  omega
theorem srtD_pw {l : List Dp} (h : l.Pairwise fun a b => ¬ cmpD a b = 0) : (srtD l).Pairwise LtD := by
  have h1 : (srtD l).Pairwise (fun a b => (!(ltOf cmpD) b a) = true) := List.pairwise_mergeSort cmpD_le_trans cmpD_le_total l
  have h2 : (srtD l).Pairwise (fun a b => ¬ cmpD a b = 0) := (srtD_perm l).symm.pairwise h fun {x y} hxy e => hxy (by rw [cmpD_neg]; omega)
  refine (h1.and h2).imp fun {a b} hx => ?_
  obtain ⟨hx1, hx2⟩ := hx
  simp only [ltOf, Bool.not_eq_true', decide_eq_false_iff_not] at hx1
  have n1 := cmpD_neg a b
  unfold LtD
  omega
theorem LtD.irr (a : Dp) : ¬ LtD a a := fun h => by unfold LtD at h; have := cmpD_neg a a; omega
theorem pwD_eq : ∀ {L M : List Dp}, L.Pairwise LtD → M.Pairwise LtD → (∀ x, x ∈ L ↔ x ∈ M) → L = M
  | [], [], _, _, _ => rfl
  | [], b :: M, _, _, h => by have := (h b).2 List.mem_cons_self; cases this
  | a :: L, [], _, _, h => by have := (h a).1 List.mem_cons_self; cases this
  | a :: L, b :: M, h1, h2, h => by
    rw [List.pairwise_cons] at h1 h2
    have hab : a = b := by
      rcases List.mem_cons.1 ((h a).1 List.mem_cons_self) with e | e
      · exact e
      · rcases List.mem_cons.1 ((h b).2 List.mem_cons_self) with e2 | e2
        · exact e2.symm
        · exact absurd (LtD.tr (h1.1 b e2) (h2.1 a e)) (LtD.irr a)
    subst hab
    rw [pwD_eq h1.2 h2.2 fun x => ⟨fun hx => ?_, fun hx => ?_⟩]
    · rcases List.mem_cons.1 ((h x).1 (List.mem_cons_of_mem _ hx)) with e | e
      · subst e; exact absurd (h1.1 x hx) (LtD.irr x)
      · exact e
    · rcases List.mem_cons.1 ((h x).2 (List.mem_cons_of_mem _ hx)) with e | e
      · subst e; exact absurd (h2.1 x hx) (LtD.irr x)
      · exact e
end Go.Ab.A15
namespace Go.Proofs.YtpidncgibgiidaaGreat
open Go Go.Ab Go.Ab.A34 Go.Ab.A15 Go.Ab.A01
variable [Gl] [Tabs]
end Go.Proofs.YtpidncgibgiidaaGreat
namespace Go.Ab
open Go Go.RowKit
theorem Acc.nd1 {sz n : Nat} {x : SV} {h : Heap} {cs : List SV} (hA : Acc sz x h [] n cs) : (h.map (·.1)).Nodup := by
  rcases hA with ⟨rfl, rfl, rfl, rfl⟩ | ⟨b, blk, hfr, hc, hl, rfl, rfl, hkM⟩ <;> simp
end Go.Ab
namespace Go.Proofs.YtpidncgibgiidaaGreat
open Go Go.Ab Go.Ab.A34 Go.Ab.A15 Go.Ab.A01
variable [Gl] [Tabs]
def AllC [Gl] (db : List Tb) (ar : Nat) (f : Nat) (args : List SV) : Prop := Ab.Call Tryz.prog f args [] (fun r h' => ∃ x, r = .tup [x, I64 0] ∧ Acc 4 x h' [] (allP db ar 0).length (dCs (allP db ar 0)))
theorem all_p (db : List Tb) (ar : Nat) (h : OkF db ar) (hchk : chkD db = 0) (h1 : 1 ≤ ar) : AllC db ar 12 [DB db, I64 ar] := by
  have hn := h.n
  have har := h.ar
  have cc := checked_p db (by omega)
  rw [hchk] at cc
  have cs := search_p db ar h
  have z1 : ¬ ((ar : Nat) : Int) < 1 := by omega
  have z2 : ¬ (6 : Int) < ((ar : Nat) : Int) := by omega
  unfold AllC
  generalize allP db ar 0 = L at *
  refine Call.enter' (N := 23) (rs := [.tmp 4, .tmp 5]) Tryz.func12 rfl rfl rfl (by decide) rfl ?_; simp only [argT]; have hD : (0 : Nat) = 0 := rfl
  repeat' first | ((with_reducible refine Call.mono (Call.frame (h1 := []) cs) ?_); (intro rr h' hx); (obtain ⟨h1, rfl, x, rfl, hA⟩ := hx); (try simp only [go_sem, hD])) | (refine SW.seq_k fun K hK => ?_) | ((first | refine SW.region ?_ | refine SW.cond ?_ | refine SW.skip ?_ | refine SW.ret ?_ | refine Call.of_pure (cc) ?_ | (refine allF_i fun b hb => ?_; replace hD := And.intro hb hD; clear hb; try simp only [fresh_cons, fresh_nil, and_true, ne_eq, neF] at hD)); try simp only [go_sem, hD, z1, z2, true_implies]) | (apply hK; clear hK K)
  all_goals
    refine retQ_le (St.le_pick h1 (fun x hx => List.mem_append_left _ hx) (Acc.nd1 hA)) ?_
    simp only [resL_tmp, resL_nil, tupOf, go_sem, hD]
    exact ⟨x, rfl, hA⟩
theorem unary_p (db : List Tb) (h : OkF db 1) (hchk : chkD db = 0) : AllC db 1 14 [DB db] := by
  have cs := all_p db 1 h hchk (by omega)
  unfold AllC at cs ⊢
  generalize allP db 1 0 = L at *
  refine Call.enter' (N := 8) (rs := [.tmp 2, .tmp 3]) Tryz.func14 rfl rfl rfl (by decide) rfl ?_; simp only [argT]; have hD : (0 : Nat) = 0 := rfl
  repeat' first | ((with_reducible refine Call.mono (Call.frame (h1 := []) cs) ?_); (intro rr h' hx); (obtain ⟨h1, rfl, x, rfl, hA⟩ := hx); (try simp only [go_sem, hD])) | (refine SW.seq_k fun K hK => ?_) | ((first | refine SW.region ?_ | refine SW.ret ?_ | (refine allF_i fun b hb => ?_; replace hD := And.intro hb hD; clear hb; try simp only [fresh_cons, fresh_nil, and_true, ne_eq, neF] at hD)); try simp only [go_sem, hD, true_implies]) | (apply hK; clear hK K)
  all_goals
    refine retQ_le (St.le_pick h1 (fun x hx => List.mem_append_left _ hx) (Acc.nd1 hA)) ?_
    simp only [resL_tmp, resL_nil, tupOf, go_sem, hD]
    exact ⟨x, rfl, hA⟩
end Go.Proofs.YtpidncgibgiidaaGreat
namespace Go.Ab
open Go Go.RowKit
theorem Call.give [Gl] {P : Program} {f : FuncId} {args : List SV} {r : SV} (i : Nat) {b off len sz : Nat} {k : Blk} {H : Heap} (g : Nat → List SV) (hi : i < args.length) (ha : args.getD i .any = .os b off len sz) (hle : off + len * sz ≤ k.len)
    (hg : ∀ j, j < len → g j = getN k (off + j * sz) sz) (hc : PCall P f (args.set i (.fl len sz g)) r) : Call P f args ((b, k) :: H) (fun r' h' => r' = r ∧ h' = H) := by
  have h0 : Call P f args [(b, k)] (fun r' h' => r' = r ∧ h' = []) := by
    refine Call.le (fun c hc => by obtain ⟨k', hk'⟩ := hc; cases hk') (fun M w vs own hr => ⟨own.sub (by simp) (fun x hx => by cases hx), by simpa using hr.1, fun j hj => ?_⟩) hc
    rw [getD_set hi]
    have h0 := hr.2 j (by simpa using hj)
    by_cases hij : i = j
    · subst hij
      rw [if_pos rfl]
      rw [ha] at h0
      exact (freeze_rep own (by rw [find_cons, if_pos rfl]) hle g hg h0).mono (env_le (Frm.refl (fun _ => False) w) (fun _ x _ => x.elim) (fun c _ x => x.elim .inl (fun ⟨_, hk⟩ => by cases hk)))
    · rw [if_neg hij]
      exact h0.mono (env_le (Frm.refl (fun _ => False) w) (fun _ x _ => x.elim) (fun c _ x => x.elim .inl (fun ⟨_, hk⟩ => by cases hk)))
  exact Call.mono (Call.frame (h2 := H) h0) fun r' h' ⟨h1, e, e1, e2⟩ => ⟨e1, by rw [e, e2]; rfl⟩
end Go.Ab
namespace Go.Ab.A15
open Go Go.Ab Go.Ab.A34
def lenTo (ll : List (List Int)) : Nat → Nat
  | 0 => 0
  | k + 1 => lenTo ll k + (ll.getD k []).length
theorem lenTo_le {ll : List (List Int)} {B : Nat} (h : ∀ i, (ll.getD i []).length ≤ B) : ∀ k, lenTo ll k ≤ k * B
  | 0 => by simp [lenTo]
  | k + 1 => by rw [lenTo, Nat.succ_mul]; have := lenTo_le h k; have := h k; omega
theorem lenTo_flat (ll : List (List Int)) : ∀ k, k ≤ ll.length → (ll.take k).flatten.length = lenTo ll k
  | 0, _ => by simp [lenTo]
  | k + 1, h => by
    rw [List.take_succ_eq_append_getElem (by omega), List.flatten_append, List.length_append, lenTo_flat ll k (by omega), lenTo, getD_list _ _ _ (by omega)]
    simp
def shP (a b : Dp) : Bool := decide (a.f = b.f) && (decide (a.t = b.t) && (decide (a.l.length + 1 = b.l.length) && (List.range b.l.length).any fun p => decide (a.l = woL b.l p) && decide (a.r = woL b.r p)))
end Go.Ab.A15
namespace Go.Proofs.YtpidncgibgiidaaGreat
open Go Go.Ab Go.Ab.A34 Go.Ab.A15 Go.Ab.A01
variable [Gl] [Tabs]
theorem grow_i (n : Nat) (hn : n ≤ 1000000) : Ab.Call Tryz.prog 134 [SN, I64 n] [] (fun r h => (n = 0 ∧ r = SN ∧ h = []) ∨ ∃ b blk, r = .os b 0 0 1 ∧ h = [(b, blk)] ∧ blk.isM = false) := by
  have e0 : IntKind.i64.wrap (0 - 0) = 0 := by rw [i64_wrap] <;> omega
  have e1 : IntKind.i64.wrap (n : Int) = n := by rw [i64_wrap] <;> omega
  have e2 := Int.sub_zero (n : Int)
  have e3 : ¬ ((n : Nat) : Int) < 0 := by omega
  by_cases h0 : n = 0
  · subst h0
    have e4 : ¬ (0 : Int) < ((0 : Nat) : Int) := by omega
    refine Call.enter' (N := 27) (rs := [.tmp 4]) Tryz.func134 rfl rfl rfl (by decide) rfl ?_; simp only [argT]; have hD : (0 : Nat) = 0 := rfl
    repeat' first | (refine SW.seq_k fun K hK => ?_) | ((first | refine SW.region ?_ | refine SW.cond ?_ | refine SW.skip ?_ | refine SW.ret ?_); try simp only [go_sem, hD, e0, e1, e2, e3, e4, true_implies]) | (apply hK; clear hK K)
    all_goals
      refine retQ_le (fun M w0 D N a w r => r) ?_
      simp only [resL_tmp, resL_nil, tupOf, go_sem, hD]
      try exact .inl ⟨rfl, rfl, rfl⟩
  · have e4 : (0 : Int) < ((n : Nat) : Int) := by omega
    have e5 : ((n : Nat) : Int) * 8 ≤ 140737488355328 := by omega
    have e6 : ((n : Nat) : Int) ≤ 140737488355328 := by omega
    refine Call.enter' (N := 27) (rs := [.tmp 4]) Tryz.func134 rfl rfl rfl (by decide) rfl ?_; simp only [argT]; have hD : (0 : Nat) = 0 := rfl
    repeat' first | (with_reducible refine And.intro (by omega) ?_) | (refine SW.seq_k fun K hK => ?_) | ((first | refine SW.region ?_ | refine SW.cond ?_ | refine SW.skip ?_ | refine SW.ret ?_ | (refine allF_i fun b hb => ?_; replace hD := And.intro hb hD; clear hb; try simp only [fresh_cons, fresh_nil, and_true, ne_eq, neF] at hD)); try simp only [go_sem, hD, e0, e1, e2, e3, e4, e5, e6, true_implies]) | (apply hK; clear hK K)
    all_goals
      refine retQ_le (fun M w0 D N a w r => r) ?_
      simp only [resL_tmp, resL_nil, tupOf, go_sem, hD]
      exact .inr ⟨_, _, rfl, rfl, rfl⟩
theorem concat_i (ll : List (List Int)) (G : Nat → Nat → List SV) (hG : ∀ j, j < ll.length → flCells (G j) (ll.getD j []).length = iC (ll.getD j [])) (hl : ll.length ≤ 2) (hr : ∀ i, (ll.getD i []).length ≤ 1000) : PCall Tryz.prog 98 [.fl ll.length 1 (fun j => [.fl (ll.getD j []).length 1 (G j)])] (IL ll.flatten) := by
  obtain ⟨gf, hgf⟩ : ∃ gf : Nat → List SV, ∀ j, gf j = [.fl (ll.getD j []).length 1 (G j)] := ⟨_, fun _ => rfl⟩
  have hge : (fun j => [SV.fl (ll.getD j []).length 1 (G j)]) = gf := funext fun j => (hgf j).symm
  rw [hge]
  clear hge
  have hB := fun k => lenTo_le hr k
  refine Call.enter' (N := 36) (rs := [.tmp 2]) Tryz.func98 rfl rfl rfl (by decide) rfl ?_; simp only [argT]; have hD : (0 : Nat) = 0 := rfl
  repeat' first | (refine SW.seq_k fun K hK => ?_) | (refine SW.region ?_; try simp only [go_sem, hD, true_implies]) | (apply hK; clear hK K)
  refine SW.block ?_
  obtain ⟨I, hI⟩ : ∃ I : Nat → St → Prop, ∀ k S, I k S ↔ (∃ (j : Nat) , k = ll.length - j ∧ j ≤ ll.length ∧ S = ⟨[(0, .fl ll.length 1 gf), (3, I64 (lenTo ll j)), (9, .fl ll.length 1 gf), (10, I64 ll.length), (11, I64 j)], []⟩) := ⟨fun k S => _, fun _ _ => Iff.rfl⟩
  refine SW.loop' I (ll.length) ((hI _ _).2 ⟨0, rfl, Nat.zero_le _, rfl⟩) (by repeat' (first | exact rfl | exact trivial | constructor)) ?_
  intro k S hIn
  obtain ⟨j, rfl, hi, rfl⟩ := (hI _ _).1 hIn
  clear hIn
  have ie : ((j : Nat) : Int).toNat = j := Int.toNat_natCast _
  have i0 : (0 : Int) ≤ ((j : Nat) : Int) := by omega
  by_cases hlt : j < ll.length
  · have hli : ((j : Nat) : Int) < (((ll.length) : Nat) : Int) := by omega
    have w1 : IntKind.i64.wrap ((j : Int) + 1) = ((j + 1 : Nat) : Int) := by rw [i64_wrap (by omega) (by omega)]; omega
    have hBj := hB j
    have hj3 : j * 1000 ≤ 2000 := by have := Nat.mul_le_mul_right 1000 (show j ≤ 2 by omega); omega
    have hrj := hr j
    have ht : lenTo ll (j + 1) = lenTo ll j + (ll.getD j []).length := rfl
    have e3 : IntKind.i64.wrap ((lenTo ll j : Int) + ((ll.getD j []).length : Int)) = ((lenTo ll (j + 1) : Nat) : Int) := by rw [i64_wrap] <;> omega
    have fj := hgf j
    have e4 : ¬ ((lenTo ll (j + 1) : Nat) : Int) < 0 := by omega
    repeat' first | (refine SW.seq_k fun K hK => ?_) | (refine SW.block ?_) | ((first | refine SW.region ?_ | refine SW.cond ?_ | refine SW.skip ?_); try simp only [go_sem, hD, hli, ie, i0, w1, fj, e3, e4, true_implies]) | (apply hK; clear hK K)
    refine Rnd.sub (ll.length - (j + 1)) (by omega) ((hI _ _).2 ⟨j + 1, rfl, by omega, rfl⟩) (by repeat' (first | exact rfl | exact trivial | constructor))
  · have hli : ¬ ((j : Nat) : Int) < (((ll.length) : Nat) : Int) := by omega
    obtain rfl : j = ll.length := by omega
    have hBj := hB ll.length
    have hj3 : ll.length * 1000 ≤ 2000 := by have := Nat.mul_le_mul_right 1000 hl; omega
    repeat' first | (refine SW.seq_k fun K hK => ?_) | ((first | refine SW.region ?_ | refine SW.cond ?_ | refine SW.exit ?_); try simp only [go_sem, hD, hli, true_implies]) | (apply hK; clear hK K) | (clear hK K; apply hK; clear hK K)
    refine Ab.Call.mono (grow_i _ (by omega)) fun r h hrh => ?_
    have hA : ∃ h2, Acc 1 r h2 [] 0 [] ∧ ∀ t : List (Nat × SV), (St.mk t h).le ⟨t, h2⟩ := by
      rcases hrh with ⟨_, rfl, rfl⟩ | ⟨b, blk, rfl, rfl, hM⟩
      · exact ⟨[], .nil 1 [], fun t => .refl _⟩
      · exact ⟨[(b, .svs [])], .inr ⟨b, .svs [], trivial, rfl, rfl, rfl, rfl, rfl⟩, fun t => by
          have := St.le_cut (t := t) (h := [(b, blk)]) (b := b) (k' := .svs []) 0 (by rw [find_cons, if_pos rfl]) (by simp [Blk.cells]) hM rfl
          simpa [Heap.upd] using this⟩
    clear hrh
    obtain ⟨h2, hA, hle⟩ := hA
    try simp only [go_sem, hD]
    (first | apply hK | (clear hK K; apply hK) | (clear hK K; clear hK K; apply hK)); clear hK K
    refine Ab.SW.le (hle _) ?_
    clear hle hI I
    repeat' first | (refine SW.seq_k fun K hK => ?_) | (refine SW.region ?_; try simp only [go_sem, hD, true_implies]) | (apply hK; clear hK K)
    refine SW.block ?_
    obtain ⟨I, hI⟩ : ∃ I : Nat → St → Prop, ∀ k S, I k S ↔ (∃ (j : Nat) (y : SV) (hq : Heap), k = ll.length - j ∧ j ≤ ll.length ∧ Acc 1 y hq [] (lenTo ll j) (iC (ll.take j).flatten) ∧ S = ⟨[(6, y), (25, .fl ll.length 1 gf), (26, I64 ll.length), (27, I64 j)], hq⟩) := ⟨fun k S => _, fun _ _ => Iff.rfl⟩
    refine SW.loop' I (ll.length) ((hI _ _).2 ⟨0, _, _, rfl, Nat.zero_le _, hA, rfl⟩) (by repeat' (first | exact rfl | exact trivial | constructor)) ?_
    intro k S hIn
    obtain ⟨j, y, hq, rfl, hi, hA3, rfl⟩ := (hI _ _).1 hIn
    clear hIn
    have ie : ((j : Nat) : Int).toNat = j := Int.toNat_natCast _
    have i0 : (0 : Int) ≤ ((j : Nat) : Int) := by omega
    by_cases hlt : j < ll.length
    · have hli : ((j : Nat) : Int) < (((ll.length) : Nat) : Int) := by omega
      have w1 : IntKind.i64.wrap ((j : Int) + 1) = ((j + 1 : Nat) : Int) := by rw [i64_wrap (by omega) (by omega)]; omega
      have hBk := hB j
      have hBk2 := hB (j + 1)
      have hk3 : j * 1000 ≤ 2000 := by have := Nat.mul_le_mul_right 1000 (show j ≤ 2 by omega); omega
      have hrk := hr j
      have ht : lenTo ll (j + 1) = lenTo ll j + (ll.getD j []).length := rfl
      have fj := hgf j
      have hsrc : ∀ H, srcCells (.fl (ll.getD j []).length 1 (G j)) H = some ((ll.getD j []).length, iC (ll.getD j [])) := fun H => by
        show some (_, flCells (G j) (ll.getD j []).length) = _
        rw [hG j hlt]
      have hcl : (iC (ll.getD j [])).length = (ll.getD j []).length * 1 := by rw [List.length_map, Nat.mul_one]
      have hall := iC_all (ll.getD j [])
      have hb1 : (lenTo ll j + (ll.getD j []).length) * 8 ≤ 140737488355328 := by omega
      have hb2 : lenTo ll j + (ll.getD j []).length ≤ 140737488355328 := by omega
      have e4 : (ll.take (j + 1)).flatten = (ll.take j).flatten ++ ll.getD j [] := by
        rw [List.take_succ_eq_append_getElem (by omega), List.flatten_append, getD_list _ _ _ (by omega)]
        simp
      have e5 : iC (ll.take (j + 1)).flatten = iC (ll.take j).flatten ++ iC (ll.getD j []) := by rw [e4, iC, List.map_append]
      repeat' first | ((with_reducible refine appK_accS hA3 ?_ (hsrc _) ?_ hcl hall ?_ ?_ hb1 hb2 ?_); (rfl); (rfl); (exact Nat.succ_pos _); (rfl); (intro x2 hp2 hA6); (try simp only [go_sem, hD])) | (refine SW.seq_k fun K hK => ?_) | (refine SW.block ?_) | ((first | refine SW.region ?_ | refine SW.cond ?_ | refine SW.skip ?_); try simp only [go_sem, hD, hli, ie, i0, w1, fj, true_implies]) | (apply hK; clear hK K)
      refine Rnd.sub (ll.length - (j + 1)) (by omega) ((hI _ _).2 ⟨j + 1, x2, hp2, rfl, by omega, by rw [ht, e5]; exact hA6, rfl⟩) (by repeat' (first | exact rfl | exact trivial | constructor))
    · have hli : ¬ ((j : Nat) : Int) < (((ll.length) : Nat) : Int) := by omega
      obtain rfl : j = ll.length := by omega
      rw [List.take_length, ← lenTo_flat ll ll.length (Nat.le_refl _), List.take_length] at hA3
      repeat' first | (refine SW.seq_k fun K hK => ?_) | ((first | refine SW.region ?_ | refine SW.cond ?_ | refine SW.exit ?_ | refine SW.ret ?_); try simp only [go_sem, hD, hli, true_implies]) | (apply hK; clear hK K) | (clear hK K; apply hK; clear hK K)
      refine retQ_le (St.le_acc_ints (i := 2) rfl hA3) ?_
      simp only [resL_tmp, resL_nil, tupOf, go_sem, hD]
      rfl
end Go.Proofs.YtpidncgibgiidaaGreat
