/- Contract of math/bits.Div64, and of the division of 128 bits by 64 bits. -/
import Derived.Test.YtcbgkcjlechdnaaDoorD2
import Derived.Test.YtcbgkcjlechdnaaDoorR3
set_option linter.unusedSimpArgs false
set_option linter.unusedVariables false
set_option linter.unusedSectionVars false
namespace Go.Proofs.YtcbgkcjlechdnaaDoor
open Go Go.Ab
variable [Gl]

theorem lz64 (y s : Nat) (hy : y < 18446744073709551616) (hs : s ≤ 63) (hb : Lib.bitLen y = 64 - s) : PCall Tryd.prog 60 [U64 y] (I64 s) :=
  PCall.of_calls ⟨_, Tryd.func60, by kernel_rfl, by kernel_rfl⟩ fun w E vs _ _ _ hr => by
    obtain rfl := reps1 hr
    refine (Tryd.bits_LeadingZeros64 y w (by omega) (by omega)).mono fun e w' ⟨he, hw⟩ => ⟨_, he, fun _ => ?_, by rw [hw]; exact RowKit.Below.refl _ _⟩
    have : (64 - (Lib.bitLen (y : Int).toNat : Int)) = (s : Int) := by rw [Int.toNat_natCast, hb]; omega
    rw [this]
    exact .sc _

theorem quo64 (x g : Nat) (hx : x < 18446744073709551616) : IntKind.u64.wrap (Int.tdiv (x : Int) (g : Int)) = ((x / g : Nat) : Int) := by
  have := Nat.div_le_self x g
  rw [← Int.ofNat_tdiv]
  generalize x / g = y at this ⊢
  exact u64n (by omega) (by omega)

set_option maxRecDepth 20000 in
theorem div64_0 (lo y : Nat) (hl : lo < 18446744073709551616) (hy : y < 18446744073709551616) (h0 : 0 < y) : PCall Tryd.prog 54 [U64 0, U64 lo, U64 y] (.tup [U64 (lo / y : Nat), U64 (lo % y : Nat)]) := by
  have e1 : ¬ (y : Int) = 0 := by omega
  have e2 : ¬ (y : Int) ≤ 0 := by omega
  have q1 := quo64 lo y hl
  have q2 : Int.tmod (lo : Int) (y : Int) = ((lo % y : Nat) : Int) := (Int.ofNat_tmod lo y).symm
  refine Call.enter' (N := 135) (rs := [.tmp 6, .tmp 7]) Tryd.func54 rfl rfl rfl (by decide) rfl ?_; simp only [argT]; have hD : (0 : Nat) = 0 := rfl
  repeat' first
    | (refine SW.seq_k fun K hK => ?_)
    | (refine SW.block ?_)
    | ((first
      | refine SW.region ?_
      | refine SW.regionZ (id := 6) (Checked.mixed Tryd.checked) ((.one 0 [0, 2, 6, 7] (.one 1 [1, 2, 6, 7] (.one 2 [2, 6, 7] (.one 3 [3, 5, 7] (.one 4 [4, 5, 7] (.one 5 [5, 7] (.one 6 [6, 7] (.one 7 [7] .done)))))))) : OZ) (by kernel_rfl) ?_
      | refine SW.regionD (Checked.mixed Tryd.checked) (by kernel_rfl) ?_
      | refine SW.cond ?_
      | refine SW.skip ?_
      | refine SW.exit ?_
      | refine SW.ret ?_
      | (refine allF_i fun b hb => ?_; replace hD := And.intro hb hD; clear hb; simp only [fresh_cons, fresh_nil, and_true, ne_eq, neF] at hD)
      | simp only [appK, appOsK]); try simp only [go_sem, ↓reduceIte, reduceCtorEq, Nat.reduceAdd, Nat.reduceMul, Nat.reduceSub, Nat.reduceLT, Nat.reduceLeDiff, Nat.reduceEqDiff, Nat.reduceBEq, Nat.reduceBneDiff, Int.reduceToNat, Int.toNat_natCast, eq_self, decide_true, decide_false, Int.reduceEq, and_true, true_and, if_false_eq, if_true_eq, List.getElem?_cons_zero, List.getElem?_cons_succ, setAll, List.length_cons, List.length_nil, List.length_set, List.getD_cons_zero, List.getD_cons_succ, Nat.le_refl, Int.le_refl, Nat.beq_refl, or_self, true_or, or_true, List.drop_zero, hD, e1, e2, q1, q2])
    | (refine And.intro (by omega) ?_)
    | (refine ifI (fun hc => ?_) (fun hc => ?_) <;> first | (exfalso; omega) | skip)
    | (first | (apply hK; clear hK K) | (clear hK K; apply hK; clear hK K) | (clear hK K; clear hK K; apply hK; clear hK K) | (clear hK K; clear hK K; clear hK K; apply hK; clear hK K) | (clear hK K; clear hK K; clear hK K; clear hK K; apply hK; clear hK K) | (clear hK K; clear hK K; clear hK K; clear hK K; clear hK K; apply hK; clear hK K))
    | (refine And.intro ?_ ?_)
    | fail
  refine ret_pure ?_; simp only [resL_tmp, resL_nil, tupOf, go_sem, ↓reduceIte, reduceCtorEq, Nat.reduceAdd, Nat.reduceMul, Nat.reduceSub, Nat.reduceLT, Nat.reduceLeDiff, Nat.reduceEqDiff, Nat.reduceBEq, Nat.reduceBneDiff, Int.reduceToNat, Int.toNat_natCast, eq_self, decide_true, decide_false, Int.reduceEq, and_true, true_and, if_false_eq, if_true_eq, List.getElem?_cons_zero, List.getElem?_cons_succ, setAll, List.length_cons, List.length_nil, List.length_set, List.getD_cons_zero, List.getD_cons_succ, Nat.le_refl, Int.le_refl, Nat.beq_refl, or_self, true_or, or_true, List.drop_zero, hD]

set_option maxRecDepth 20000 in
theorem div64_w (hi lo y s Y a c L t1 t0 H l u q1 r1 u2 q2 r2 Q1 Q0 Qf R3 Rf : Nat) (lz : PCall Tryd.prog 60 [U64 y] (I64 s))
    (e0 : IntKind.u64.wrap (s : Int) = (s : Int)) (e1 : ¬ (y : Int) = 0) (e2 : ¬ (y : Int) ≤ (hi : Int)) (e3 : ¬ (hi : Int) = 0)
    (y1 : IntKind.u64.wrap ((y : Int) * 2 ^ min s 64) = (Y : Int)) (y2 : (Y : Int).fdiv (2 ^ min 32 64) = (a : Int)) (y3 : bits .and .u64 (Y : Int) 4294967295 = (c : Int))
    (l1 : IntKind.u64.wrap ((lo : Int) * 2 ^ min s 64) = (L : Int)) (l2 : (L : Int).fdiv (2 ^ min 32 64) = (t1 : Int)) (l3 : bits .and .u64 (L : Int) 4294967295 = (t0 : Int))
    (h1 : IntKind.u64.wrap ((hi : Int) * 2 ^ min s 64) = (H : Int)) (h2 : (lo : Int).fdiv (2 ^ min (IntKind.u64.wrap (64 - (s : Int))).toNat 64) = (l : Int)) (h3 : bits .or .u64 (H : Int) (l : Int) = (u : Int))
    (d1 : ¬ (a : Int) = 0) (d2 : IntKind.u64.wrap ((u : Int).tdiv (a : Int)) = (q1 : Int)) (d3 : IntKind.u64.wrap ((u : Int) - IntKind.u64.wrap ((q1 : Int) * (a : Int))) = (r1 : Int))
    (D1 : Dig a c u t1 Q1 q1 r1) (b1 : r1 < 4294967296) (ub : u < 18446744073709551616)
    (g1 : IntKind.u64.wrap (IntKind.u64.wrap (IntKind.u64.wrap ((u : Int) * 4294967296) + (t1 : Int)) - IntKind.u64.wrap ((Q1 : Int) * (Y : Int))) = (u2 : Int))
    (g2 : IntKind.u64.wrap ((u2 : Int).tdiv (a : Int)) = (q2 : Int)) (g3 : IntKind.u64.wrap ((u2 : Int) - IntKind.u64.wrap ((q2 : Int) * (a : Int))) = (r2 : Int))
    (D2 : Dig a c u2 t0 Q0 q2 r2) (b2 : r2 < 4294967296) (ub2 : u2 < 18446744073709551616)
    (k1 : IntKind.u64.wrap (IntKind.u64.wrap ((Q1 : Int) * 4294967296) + (Q0 : Int)) = (Qf : Int))
    (k2 : IntKind.u64.wrap (IntKind.u64.wrap (IntKind.u64.wrap ((u2 : Int) * 4294967296) + (t0 : Int)) - IntKind.u64.wrap ((Q0 : Int) * (Y : Int))) = (R3 : Int))
    (k3 : (R3 : Int).fdiv (2 ^ min s 64) = (Rf : Int)) :
    PCall Tryd.prog 54 [U64 hi, U64 lo, U64 y] (.tup [U64 Qf, U64 Rf]) := by
  refine Call.enter' (N := 135) (rs := [.tmp 6, .tmp 7]) Tryd.func54 rfl rfl rfl (by decide) rfl ?_; simp only [argT]; have hD : (0 : Nat) = 0 := rfl
  repeat' first
    | (refine SW.seq_k fun K hK => ?_)
    | ((first
      | refine SW.region ?_
      | refine SW.regionD (Checked.mixed Tryd.checked) (by kernel_rfl) ?_
      | refine SW.cond ?_
      | refine SW.skip ?_
      | refine SW.exit ?_
      | refine SW.ret ?_
      | refine Call.of_pure (lz) ?_
      | refine ⟨_, lz, ?_⟩
      | (refine allF_i fun b hb => ?_; replace hD := And.intro hb hD; clear hb; simp only [fresh_cons, fresh_nil, and_true, ne_eq, neF] at hD)
      | simp only [appK, appOsK]); try simp only [go_sem, ↓reduceIte, reduceCtorEq, Nat.reduceAdd, Nat.reduceMul, Nat.reduceSub, Nat.reduceLT, Nat.reduceLeDiff, Nat.reduceEqDiff, Nat.reduceBEq, Nat.reduceBneDiff, Int.reduceToNat, Int.toNat_natCast, eq_self, decide_true, decide_false, Int.reduceEq, and_true, true_and, if_false_eq, if_true_eq, List.getElem?_cons_zero, List.getElem?_cons_succ, setAll, List.length_cons, List.length_nil, List.length_set, List.getD_cons_zero, List.getD_cons_succ, Nat.le_refl, Int.le_refl, Nat.beq_refl, or_self, true_or, or_true, List.drop_zero, hD, e1, e2, e3, e0, y1, y2, y3, l1, l2, l3, h1, h2, h3, d1, d2, d3])
    | (refine And.intro (by omega) ?_)
    | (refine ifI (fun hc => ?_) (fun hc => ?_) <;> first | (exfalso; omega) | skip)
    | (first | (apply hK; clear hK K) | (clear hK K; apply hK; clear hK K) | (clear hK K; clear hK K; apply hK; clear hK K) | (clear hK K; clear hK K; clear hK K; apply hK; clear hK K) | (clear hK K; clear hK K; clear hK K; clear hK K; apply hK; clear hK K) | (clear hK K; clear hK K; clear hK K; clear hK K; clear hK K; apply hK; clear hK K))
    | fail
  refine SW.cut _ (dig1 D1 b1 ub Y s t0 _ (by simp only [sub, go_sem, ↓reduceIte, reduceCtorEq, Nat.reduceAdd, Nat.reduceMul, Nat.reduceSub, Nat.reduceLT, Nat.reduceLeDiff, Nat.reduceEqDiff, Nat.reduceBEq, Nat.reduceBneDiff, Int.reduceToNat, Int.toNat_natCast, eq_self, decide_true, decide_false, Int.reduceEq, and_true, true_and, if_false_eq, if_true_eq, List.getElem?_cons_zero, List.getElem?_cons_succ, setAll, List.length_cons, List.length_nil, List.length_set, List.getD_cons_zero, List.getD_cons_succ, Nat.le_refl, Int.le_refl, Nat.beq_refl, or_self, true_or, or_true, List.drop_zero, hD])) ?_
  intro S' hS
  obtain ⟨r', hle⟩ := hS
  first | (apply hK; clear hK K) | (clear hK K; apply hK; clear hK K) | (clear hK K; clear hK K; apply hK; clear hK K) | (clear hK K; clear hK K; clear hK K; apply hK; clear hK K) | (clear hK K; clear hK K; clear hK K; clear hK K; apply hK; clear hK K) | (clear hK K; clear hK K; clear hK K; clear hK K; clear hK K; apply hK; clear hK K)
  refine SW.le hle ?_
  clear hle
  repeat' first
    | (refine SW.seq_k fun K hK => ?_)
    | ((first
      | refine SW.region ?_
      | refine SW.regionD (Checked.mixed Tryd.checked) (by kernel_rfl) ?_
      | refine SW.cond ?_
      | refine SW.skip ?_
      | refine SW.exit ?_
      | refine SW.ret ?_
      | refine Call.of_pure (lz) ?_
      | refine ⟨_, lz, ?_⟩
      | (refine allF_i fun b hb => ?_; replace hD := And.intro hb hD; clear hb; simp only [fresh_cons, fresh_nil, and_true, ne_eq, neF] at hD)
      | simp only [appK, appOsK]); try simp only [go_sem, ↓reduceIte, reduceCtorEq, Nat.reduceAdd, Nat.reduceMul, Nat.reduceSub, Nat.reduceLT, Nat.reduceLeDiff, Nat.reduceEqDiff, Nat.reduceBEq, Nat.reduceBneDiff, Int.reduceToNat, Int.toNat_natCast, eq_self, decide_true, decide_false, Int.reduceEq, and_true, true_and, if_false_eq, if_true_eq, List.getElem?_cons_zero, List.getElem?_cons_succ, setAll, List.length_cons, List.length_nil, List.length_set, List.getD_cons_zero, List.getD_cons_succ, Nat.le_refl, Int.le_refl, Nat.beq_refl, or_self, true_or, or_true, List.drop_zero, hD, d1, g1, g2, g3])
    | (refine And.intro (by omega) ?_)
    | (refine ifI (fun hc => ?_) (fun hc => ?_) <;> first | (exfalso; omega) | skip)
    | (first | (apply hK; clear hK K) | (clear hK K; apply hK; clear hK K) | (clear hK K; clear hK K; apply hK; clear hK K) | (clear hK K; clear hK K; clear hK K; apply hK; clear hK K) | (clear hK K; clear hK K; clear hK K; clear hK K; apply hK; clear hK K) | (clear hK K; clear hK K; clear hK K; clear hK K; clear hK K; apply hK; clear hK K))
    | fail
  refine SW.cut _ (dig2 D2 b2 ub2 Y s Q1 _ (by simp only [sub, go_sem, ↓reduceIte, reduceCtorEq, Nat.reduceAdd, Nat.reduceMul, Nat.reduceSub, Nat.reduceLT, Nat.reduceLeDiff, Nat.reduceEqDiff, Nat.reduceBEq, Nat.reduceBneDiff, Int.reduceToNat, Int.toNat_natCast, eq_self, decide_true, decide_false, Int.reduceEq, and_true, true_and, if_false_eq, if_true_eq, List.getElem?_cons_zero, List.getElem?_cons_succ, setAll, List.length_cons, List.length_nil, List.length_set, List.getD_cons_zero, List.getD_cons_succ, Nat.le_refl, Int.le_refl, Nat.beq_refl, or_self, true_or, or_true, List.drop_zero, hD])) ?_
  intro S' hle
  first | (apply hK; clear hK K) | (clear hK K; apply hK; clear hK K) | (clear hK K; clear hK K; apply hK; clear hK K) | (clear hK K; clear hK K; clear hK K; apply hK; clear hK K) | (clear hK K; clear hK K; clear hK K; clear hK K; apply hK; clear hK K) | (clear hK K; clear hK K; clear hK K; clear hK K; clear hK K; apply hK; clear hK K)
  refine SW.le hle ?_
  clear hle
  repeat' first
    | (refine SW.seq_k fun K hK => ?_)
    | ((first
      | refine SW.region ?_
      | refine SW.regionD (Checked.mixed Tryd.checked) (by kernel_rfl) ?_
      | refine SW.cond ?_
      | refine SW.skip ?_
      | refine SW.exit ?_
      | refine SW.ret ?_
      | refine Call.of_pure (lz) ?_
      | refine ⟨_, lz, ?_⟩
      | (refine allF_i fun b hb => ?_; replace hD := And.intro hb hD; clear hb; simp only [fresh_cons, fresh_nil, and_true, ne_eq, neF] at hD)
      | simp only [appK, appOsK]); try simp only [go_sem, ↓reduceIte, reduceCtorEq, Nat.reduceAdd, Nat.reduceMul, Nat.reduceSub, Nat.reduceLT, Nat.reduceLeDiff, Nat.reduceEqDiff, Nat.reduceBEq, Nat.reduceBneDiff, Int.reduceToNat, Int.toNat_natCast, eq_self, decide_true, decide_false, Int.reduceEq, and_true, true_and, if_false_eq, if_true_eq, List.getElem?_cons_zero, List.getElem?_cons_succ, setAll, List.length_cons, List.length_nil, List.length_set, List.getD_cons_zero, List.getD_cons_succ, Nat.le_refl, Int.le_refl, Nat.beq_refl, or_self, true_or, or_true, List.drop_zero, hD, k1, k2, k3])
    | (refine And.intro (by omega) ?_)
    | (refine ifI (fun hc => ?_) (fun hc => ?_) <;> first | (exfalso; omega) | skip)
    | (first | (apply hK; clear hK K) | (clear hK K; apply hK; clear hK K) | (clear hK K; clear hK K; apply hK; clear hK K) | (clear hK K; clear hK K; clear hK K; apply hK; clear hK K) | (clear hK K; clear hK K; clear hK K; clear hK K; apply hK; clear hK K) | (clear hK K; clear hK K; clear hK K; clear hK K; clear hK K; apply hK; clear hK K))
    | fail
  refine ret_pure ?_; simp only [resL_tmp, resL_nil, tupOf, go_sem, ↓reduceIte, reduceCtorEq, Nat.reduceAdd, Nat.reduceMul, Nat.reduceSub, Nat.reduceLT, Nat.reduceLeDiff, Nat.reduceEqDiff, Nat.reduceBEq, Nat.reduceBneDiff, Int.reduceToNat, Int.toNat_natCast, eq_self, decide_true, decide_false, Int.reduceEq, and_true, true_and, if_false_eq, if_true_eq, List.getElem?_cons_zero, List.getElem?_cons_succ, setAll, List.length_cons, List.length_nil, List.length_set, List.getD_cons_zero, List.getD_cons_succ, Nat.le_refl, Int.le_refl, Nat.beq_refl, or_self, true_or, or_true, List.drop_zero, hD]

theorem shl_n (x s : Nat) (hs : s ≤ 63) : IntKind.u64.wrap ((x : Int) * 2 ^ min s 64) = ((x * 2 ^ s % 18446744073709551616 : Nat) : Int) := by
  rw [u64w, Nat.min_eq_left (by omega), Int.natCast_emod, Int.natCast_mul, Int.natCast_pow]
  rfl

/-- A remainder, however it was wrapped on its way. -/
theorem wrap_rest {A t X r : Nat} (h : A * 4294967296 + t = X + r) (hr : r < 18446744073709551616) :
    IntKind.u64.wrap (IntKind.u64.wrap (IntKind.u64.wrap ((A : Int) * 4294967296) + (t : Int)) - IntKind.u64.wrap (X : Int)) = (r : Int) := by
  simp only [u64w]
  omega

set_option maxRecDepth 20000 in
theorem div64_p (hi lo y : Nat) (hl : lo < 18446744073709551616) (hy : y < 18446744073709551616) (hh : hi < y) :
    PCall Tryd.prog 54 [U64 hi, U64 lo, U64 y] (.tup [U64 ((hi * 18446744073709551616 + lo) / y : Nat), U64 ((hi * 18446744073709551616 + lo) % y : Nat)]) := by
  by_cases hi0 : hi = 0
  · subst hi0
    simp only [Nat.zero_mul, Nat.zero_add]
    exact div64_0 lo y hl hy hh
  obtain ⟨s, hs, hb, n1, n2⟩ := bitLen_norm y (by omega) hy
  obtain ⟨w1, w2, w3, w4⟩ := shift_words hs hl hh n2
  have hp := Nat.two_pow_pos s
  have eY := shl_n y s hs
  have eL := shl_n lo s hs
  have eH := shl_n hi s hs
  rw [Nat.mod_eq_of_lt n2] at eY
  rw [Nat.mod_eq_of_lt w1] at eH
  have or1 := or_parts hi (lo / 2 ^ (64 - s)) s w2
  have hLb : lo * 2 ^ s % 18446744073709551616 < 18446744073709551616 := Nat.mod_lt _ (by omega)
  have h2 : (lo : Int).fdiv (2 ^ min (IntKind.u64.wrap (64 - (s : Int))).toNat 64) = ((lo / 2 ^ (64 - s) : Nat) : Int) := by
    have e : (IntKind.u64.wrap (64 - (s : Int))).toNat = 64 - s := by rw [u64n (by omega) (by omega)]; omega
    rw [e, Nat.min_eq_left (by omega), fdiv_pow]
  have eQ : (hi * 18446744073709551616 + lo) / y = (hi * 18446744073709551616 + lo) * 2 ^ s / (y * 2 ^ s) := (Nat.mul_div_mul_right _ _ hp).symm
  have eR : (hi * 18446744073709551616 + lo) % y = (hi * 18446744073709551616 + lo) * 2 ^ s % (y * 2 ^ s) / 2 ^ s := by
    rw [Nat.mul_mod_mul_right, Nat.mul_div_cancel _ hp]
  rw [eQ, eR, ← w4]
  clear eQ eR w4
  obtain ⟨Y, hY⟩ : ∃ Y, Y = y * 2 ^ s := ⟨_, rfl⟩
  obtain ⟨L, hL⟩ : ∃ L, L = lo * 2 ^ s % 18446744073709551616 := ⟨_, rfl⟩
  obtain ⟨H, hH⟩ : ∃ H, H = hi * 2 ^ s := ⟨_, rfl⟩
  obtain ⟨l, hl2⟩ : ∃ l, l = lo / 2 ^ (64 - s) := ⟨_, rfl⟩
  rw [← hL] at eL hLb ⊢
  rw [← hY] at n1 n2 w3 eY ⊢
  rw [← hH, ← hl2] at w3 or1 ⊢
  rw [← hH] at w1 eH
  rw [← hl2] at w2 h2
  have f32 : ∀ x : Nat, (x : Int).fdiv (2 ^ min 32 64) = ((x / 4294967296 : Nat) : Int) := fun x => fdiv_pow x 32
  have m32 : ∀ x : Nat, x < 18446744073709551616 → bits .and .u64 (x : Int) 4294967295 = ((x % 4294967296 : Nat) : Int) := fun x hx => by
    have h := bits_and_u64_nat x 4294967295 hx (by omega)
    rw [and_mask] at h
    exact h
  have h3 : bits .or .u64 (H : Int) (l : Int) = ((H + l : Nat) : Int) := by rw [bits_or_u64_nat H l (by omega) (by omega), or1]
  have yB : Y / 4294967296 * 4294967296 + Y % 4294967296 = Y := by omega
  have D1 := Dig.init (a := Y / 4294967296) (c := Y % 4294967296) (u := H + l) (t := L / 4294967296) (by omega) (by omega) (by omega) (by omega) (by omega)
  rw [yB] at D1
  obtain ⟨e1, r1⟩ := dig_rest (u := H + l) (t := L / 4294967296) w3 (by omega)
  obtain ⟨td1, td2⟩ := two_digits (y := Y) (u := H + l) (t1 := L / 4294967296) (t0 := L % 4294967296) (by omega) (by omega)
  have eLL : (H + l) * 18446744073709551616 + L / 4294967296 * 4294967296 + L % 4294967296 = (H + l) * 18446744073709551616 + L := by rw [Nat.add_assoc, Nat.div_add_mod']
  rw [eLL] at td1 td2
  rw [td1, td2]
  obtain ⟨u2, hu2⟩ : ∃ u2, u2 = ((H + l) * 4294967296 + L / 4294967296) % Y := ⟨_, rfl⟩
  obtain ⟨Q1, hQ1⟩ : ∃ Q1, Q1 = ((H + l) * 4294967296 + L / 4294967296) / Y := ⟨_, rfl⟩
  rw [← hu2, ← hQ1] at e1 ⊢
  rw [← hu2] at r1
  rw [← hQ1] at D1
  have D2 := Dig.init (a := Y / 4294967296) (c := Y % 4294967296) (u := u2) (t := L % 4294967296) (by omega) (by omega) (by omega) (by omega) (by omega)
  rw [yB] at D2
  obtain ⟨e2, r2⟩ := dig_rest (u := u2) (t := L % 4294967296) r1 (by omega)
  obtain ⟨Q0, hQ0⟩ : ∃ Q0, Q0 = (u2 * 4294967296 + L % 4294967296) / Y := ⟨_, rfl⟩
  obtain ⟨R3, hR3⟩ : ∃ R3, R3 = (u2 * 4294967296 + L % 4294967296) % Y := ⟨_, rfl⟩
  rw [← hQ0, ← hR3] at e2 ⊢
  rw [← hR3] at r2
  rw [← hQ0] at D2
  have q1 := D1.Qlt
  have q0 := D2.Qlt
  have ma : ∀ u : Nat, u % (Y / 4294967296) < 4294967296 := fun u => Nat.lt_trans (Nat.mod_lt _ (by omega)) (by omega)
  have sa : ∀ u : Nat, u < 18446744073709551616 → IntKind.u64.wrap ((u : Int) - IntKind.u64.wrap (((u / (Y / 4294967296) : Nat) : Int) * ((Y / 4294967296 : Nat) : Int))) = ((u % (Y / 4294967296) : Nat) : Int) := fun u hu => by
    have h := Nat.div_add_mod u (Y / 4294967296)
    rw [Nat.mul_comm] at h
    rw [← Int.natCast_mul]
    obtain ⟨X, hX⟩ : ∃ X, X = u / (Y / 4294967296) * (Y / 4294967296) := ⟨_, rfl⟩
    obtain ⟨r, hr⟩ : ∃ r, r = u % (Y / 4294967296) := ⟨_, rfl⟩
    rw [← hX, ← hr] at h
    rw [← hX, ← hr, u64n (n := (X : Int)) (by omega) (by omega), u64n (by omega) (by omega)]
    omega
  refine div64_w hi lo y s Y (Y / 4294967296) (Y % 4294967296) L (L / 4294967296) (L % 4294967296) H l (H + l) _ _ u2 _ _ Q1 Q0 _ R3 _ (lz64 y s hy hs hb) (u64n (by omega) (by omega)) (by omega) (by omega) (by omega)
    eY (f32 Y) (m32 Y n2) eL (f32 L) (m32 L hLb) eH h2 h3 (by omega) (quo64 _ _ (by omega)) (sa _ (by omega)) D1 (ma _) (by omega) ?_ (quo64 _ _ (by omega)) (sa _ (by omega)) D2 (ma _) (by omega) ?_ ?_ ?_
  · have h := wrap_rest e1.symm (by omega)
    rw [Int.natCast_mul] at h
    exact h
  · rw [u64n (n := (Q1 : Int) * 4294967296) (by omega) (by omega), u64n (by omega) (by omega)]
    omega
  · have h := wrap_rest e2.symm (by omega)
    rw [Int.natCast_mul] at h
    exact h
  · rw [Nat.min_eq_left (by omega), fdiv_pow]

/-- The quotient's words. -/
theorem over_law (x n : Nat) (h0 : 0 < n) : x / n / 18446744073709551616 = x / 18446744073709551616 / n ∧
    x / n % 18446744073709551616 = (x / 18446744073709551616 % n * 18446744073709551616 + x % 18446744073709551616) / n ∧ x % n = (x / 18446744073709551616 % n * 18446744073709551616 + x % 18446744073709551616) % n := by
  have d := Nat.div_add_mod (x / 18446744073709551616) n
  have e0 := Nat.div_add_mod x 18446744073709551616
  obtain ⟨h, hh⟩ : ∃ h, h = x / 18446744073709551616 := ⟨_, rfl⟩
  obtain ⟨l, hl⟩ : ∃ l, l = x % 18446744073709551616 := ⟨_, rfl⟩
  rw [← hh] at d e0 ⊢
  rw [← hl] at e0 ⊢
  have hlb : l < 18446744073709551616 := by rw [hl]; exact Nat.mod_lt _ (by omega)
  have hr := Nat.mod_lt h h0
  have e1 : x = (h % n * 18446744073709551616 + l) + n * (h / n * 18446744073709551616) := by
    rw [← Nat.mul_assoc]
    generalize n * (h / n) = X at *
    omega
  have e2 : x / n = (h % n * 18446744073709551616 + l) / n + h / n * 18446744073709551616 := by
    conv => lhs; rw [e1]
    rw [Nat.add_mul_div_left _ _ h0]
  have e3 : x % n = (h % n * 18446744073709551616 + l) % n := by
    conv => lhs; rw [e1]
    rw [Nat.add_mul_mod_self_left]
  have e4 : (h % n * 18446744073709551616 + l) / n < 18446744073709551616 := by
    rw [Nat.div_lt_iff_lt_mul h0]
    omega
  rw [e2, ← e3]
  generalize (h % n * 18446744073709551616 + l) / n = A at *
  generalize h / n = C at *
  refine ⟨?_, ?_, rfl⟩
  · omega
  · omega

set_option maxRecDepth 20000 in
/-- A number of 128 bits, divided by one of 64 bits. -/
theorem over_p (x n : Nat) (hx : x < 340282366920938463463374607431768211456) (hn : n < 18446744073709551616) (h0 : 0 < n) : PCall Tryd.prog 39 [Wd x, U64 n] (.tup [Wd (x / n), U64 (x % n : Nat)]) := by
  have e1 : ¬ (n : Int) = 0 := by omega
  have e2 := quo64 (x / 18446744073709551616) n (by omega)
  have e3 : Int.tmod ((x / 18446744073709551616 : Nat) : Int) (n : Int) = ((x / 18446744073709551616 % n : Nat) : Int) := (Int.ofNat_tmod _ _).symm
  have d := div64_p (x / 18446744073709551616 % n) (x % 18446744073709551616) n (by omega) hn (Nat.mod_lt _ h0)
  obtain ⟨l1, l2, l3⟩ := over_law x n h0
  rw [← l2, ← l3] at d
  rw [← l1] at e2
  refine Call.enter' (N := 28) (rs := [.cell 4 51, .tmp 5]) Tryd.func39 rfl rfl rfl (by decide) rfl ?_; simp only [argT]; have hD : (0 : Nat) = 0 := rfl
  repeat' first
    | (refine SW.seq_k fun K hK => ?_)
    | (refine SW.block ?_)
    | ((first
      | refine SW.region ?_
      | refine SW.regionZ (id := 2) (Checked.mixed Tryd.checked) ((.one 0 [0, 1, 3, 7, 8, 9, 10, 11, 12] (.one 1 [1, 3, 7, 8, 9, 10, 11, 12] (.one 2 [2, 3, 7, 8, 9, 10, 11, 12] (.one 3 [3, 7, 8, 9, 10, 11, 12] (.one 4 [4, 5, 7, 8, 9, 10, 11, 12] (.one 5 [5, 7, 8, 9, 10, 11, 12] (.one 6 [6, 7, 8, 9, 10, 11, 12] (.one 7 [7, 8, 9, 10, 11, 12] (.one 8 [8, 9, 10, 11, 12] (.one 9 [9, 11, 12] (.one 10 [10, 12] (.one 11 [11, 12] (.one 12 [12] .done))))))))))))) : OZ) (by kernel_rfl) ?_
      | refine SW.regionD (Checked.mixed Tryd.checked) (by kernel_rfl) ?_
      | refine SW.cond ?_
      | refine SW.skip ?_
      | refine SW.exit ?_
      | refine SW.ret ?_
      | refine Call.of_pure (d) ?_
      | refine ⟨_, d, ?_⟩
      | (refine allF_i fun b hb => ?_; replace hD := And.intro hb hD; clear hb; simp only [fresh_cons, fresh_nil, and_true, ne_eq, neF] at hD)
      | simp only [appK, appOsK]); try simp only [go_sem, ↓reduceIte, reduceCtorEq, Nat.reduceAdd, Nat.reduceMul, Nat.reduceSub, Nat.reduceLT, Nat.reduceLeDiff, Nat.reduceEqDiff, Nat.reduceBEq, Nat.reduceBneDiff, Int.reduceToNat, Int.toNat_natCast, eq_self, decide_true, decide_false, Int.reduceEq, and_true, true_and, if_false_eq, if_true_eq, List.getElem?_cons_zero, List.getElem?_cons_succ, setAll, List.length_cons, List.length_nil, List.length_set, List.getD_cons_zero, List.getD_cons_succ, Nat.le_refl, Int.le_refl, Nat.beq_refl, or_self, true_or, or_true, List.drop_zero, hD, e1, e2, e3])
    | (refine And.intro (by omega) ?_)
    | (refine ifI (fun hc => ?_) (fun hc => ?_) <;> first | (exfalso; omega) | skip)
    | (first | (apply hK; clear hK K) | (clear hK K; apply hK; clear hK K) | (clear hK K; clear hK K; apply hK; clear hK K) | (clear hK K; clear hK K; clear hK K; apply hK; clear hK K) | (clear hK K; clear hK K; clear hK K; clear hK K; apply hK; clear hK K) | (clear hK K; clear hK K; clear hK K; clear hK K; clear hK K; apply hK; clear hK K))
    | (refine And.intro ?_ ?_)
    | fail
  apply ret_cell (i := 4) (n := 2); exact rfl; (simp only [go_sem, ↓reduceIte, reduceCtorEq, Nat.reduceAdd, Nat.reduceMul, Nat.reduceSub, Nat.reduceLT, Nat.reduceLeDiff, Nat.reduceEqDiff, Nat.reduceBEq, Nat.reduceBneDiff, Int.reduceToNat, Int.toNat_natCast, eq_self, decide_true, decide_false, Int.reduceEq, and_true, true_and, if_false_eq, if_true_eq, List.getElem?_cons_zero, List.getElem?_cons_succ, setAll, List.length_cons, List.length_nil, List.length_set, List.getD_cons_zero, List.getD_cons_succ, Nat.le_refl, Int.le_refl, Nat.beq_refl, or_self, true_or, or_true, List.drop_zero, hD]; try rfl); (first | exact Nat.le_refl _ | decide); simp only [resL_tmp, resL_cellE, resC_ok, resL_nil, tupOf, getN, go_sem, ↓reduceIte, reduceCtorEq, Nat.reduceAdd, Nat.reduceMul, Nat.reduceSub, Nat.reduceLT, Nat.reduceLeDiff, Nat.reduceEqDiff, Nat.reduceBEq, Nat.reduceBneDiff, Int.reduceToNat, Int.toNat_natCast, eq_self, decide_true, decide_false, Int.reduceEq, and_true, true_and, if_false_eq, if_true_eq, List.getElem?_cons_zero, List.getElem?_cons_succ, setAll, List.length_cons, List.length_nil, List.length_set, List.getD_cons_zero, List.getD_cons_succ, Nat.le_refl, Int.le_refl, Nat.beq_refl, or_self, true_or, or_true, List.drop_zero, hD]
end Go.Proofs.YtcbgkcjlechdnaaDoor
