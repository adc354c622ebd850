/- Contracts: keys and antikeys. -/
import Derived.Test.YtmcmphmhjikgkaaDoorV1
import Derived.Test.YtmcmphmhjikgkaaDoorA9
set_option linter.unusedSimpArgs false
set_option linter.unusedVariables false
set_option linter.unusedSectionVars false
namespace Go.Ab.A20
open Go Go.Ab
theorem low_bit_fin : ∀ r : Fin 64, r.val ≠ 0 → (∃ a : Fin 6, lowN r.val = 2 ^ a.val ∧ r.val.testBit a.val = true) ∧ dif (r.val - lowN r.val) r.val = 0 := by decide +kernel
theorem low_bit {r : Nat} (h : r < 64) (h0 : r ≠ 0) : (∃ a : Fin 6, lowN r = 2 ^ a.val ∧ r.testBit a.val = true) ∧ Sb (r - lowN r) r := low_bit_fin ⟨r, h⟩ h0
theorem dif_flip {k a : Nat} (h : k.testBit a = true) : dif k (2 ^ a) = flip k a := by
  refine Nat.eq_of_testBit_eq fun i => ?_
  rw [dif_bit, flip_bit, Nat.testBit_two_pow]
  by_cases e : a = i
  · subst e; rw [h]; simp
  · simp [e]
/-- The keys, the antikeys. -/
def keyL (n : Nat) (l : List D2) : List Nat := ordN (extF n (supS n l) true)
def antL (n : Nat) (l : List D2) : List Nat := ordN (extF n (supS n l) false)
end Go.Ab.A20
namespace Go.Proofs.YtmcmphmhjikgkaaDoor
open Go Go.Ab Go.Ab.A20
variable [Gl]

theorem supS_64 {n : Nat} (l : List D2) (hn : n ≤ 6) : (supS n l).length ≤ 64 := by rw [supS_len]; exact pow6 hn
theorem ext_order (n : Nat) (l : List D2) (w : Bool) (hn : n ≤ 6) : PCall Tryd.prog 40 [SS (extF n (supS n l) w)] (SS (ordN (extF n (supS n l) w))) :=
  order_n _ (extF_sm (supS_64 l hn)) (extF_nd _ _ _) (by
    have h1 := extP_len n (supS n l) w (supS n l).length
    have h2 := supS_64 l hn
    change (extF n (supS n l) w).length ≤ _ at h1
    omega)
theorem keys_p (n : Nat) (l : List D2) (hn : n ≤ 6) (h2 : In2 n l) (h64 : l.length ≤ 64) : PCall Tryd.prog 7 [I64 n, DL l] (.tup [SS (keyL n l), I64 0]) := by
  have va := valid_p n l (in2_ok (by omega) h2) (by omega) h64
  rw [valE_ok hn h64 h2] at va
  have su := supers_p n l hn h2 (by omega)
  have ex := extreme_o n (supS n l) true hn (supS_len n l) _ (ext_order n l true hn)
  refine Call.enter' (N := 18) (rs := [.tmp 4, .tmp 5]) Tryd.func7 rfl rfl rfl (by decide) rfl ?_; simp only [argT]; have hD : (0 : Nat) = 0 := rfl
  repeat' first | (with_reducible refine And.intro (by omega) ?_) | (refine SW.seq_k fun K hK => ?_) | (refine SW.block ?_) | ((first | refine SW.region ?_ | refine SW.regionD (Checked.mixed Tryd.checked) (by kernel_rfl) ?_ | refine SW.cond ?_ | refine SW.skip ?_ | refine SW.exit ?_ | refine SW.ret ?_ | refine Call.of_pure (va) ?_ | refine ⟨_, va, ?_⟩ | refine Call.of_pure (su) ?_ | refine ⟨_, su, ?_⟩ | refine Call.of_pure (ex) ?_ | refine ⟨_, ex, ?_⟩ | (refine allF_i fun b hb => ?_; replace hD := And.intro hb hD; clear hb; try simp only [fresh_cons, fresh_nil, and_true, ne_eq, neF] at hD) | simp only [appK, appOsK]); try simp only [go_sem, hD]) | (refine And.intro (by omega) ?_) | (refine ifI (fun hc => ?_) (fun hc => ?_) <;> first | (exfalso; omega) | skip) | ((first | apply hK | ((iterate 1 (clear hK K)); apply hK) | ((iterate 2 (clear hK K)); apply hK) | ((iterate 3 (clear hK K)); apply hK) | ((iterate 4 (clear hK K)); apply hK) | ((iterate 5 (clear hK K)); apply hK)); clear hK K)
  refine ret_pure ?_; simp only [resL_tmp, resL_nil, tupOf, go_sem, hD]
  rfl
theorem anti_p (n : Nat) (l : List D2) (hn : n ≤ 6) (h2 : In2 n l) (h64 : l.length ≤ 64) : PCall Tryd.prog 8 [I64 n, DL l] (.tup [SS (antL n l), I64 0]) := by
  have va := valid_p n l (in2_ok (by omega) h2) (by omega) h64
  rw [valE_ok hn h64 h2] at va
  have su := supers_p n l hn h2 (by omega)
  have ex := extreme_o n (supS n l) false hn (supS_len n l) _ (ext_order n l false hn)
  have n12 : ¬ (12 : Int) < ((n : Nat) : Int) := by omega
  refine Call.enter' (N := 20) (rs := [.tmp 4, .tmp 5]) Tryd.func8 rfl rfl rfl (by decide) rfl ?_; simp only [argT]; have hD : (0 : Nat) = 0 := rfl
  repeat' first | (with_reducible refine And.intro (by omega) ?_) | (refine SW.seq_k fun K hK => ?_) | (refine SW.block ?_) | ((first | refine SW.region ?_ | refine SW.regionD (Checked.mixed Tryd.checked) (by kernel_rfl) ?_ | refine SW.cond ?_ | refine SW.skip ?_ | refine SW.exit ?_ | refine SW.ret ?_ | refine Call.of_pure (va) ?_ | refine ⟨_, va, ?_⟩ | refine Call.of_pure (su) ?_ | refine ⟨_, su, ?_⟩ | refine Call.of_pure (ex) ?_ | refine ⟨_, ex, ?_⟩ | (refine allF_i fun b hb => ?_; replace hD := And.intro hb hD; clear hb; try simp only [fresh_cons, fresh_nil, and_true, ne_eq, neF] at hD) | simp only [appK, appOsK]); try simp only [go_sem, hD, n12]) | (refine And.intro (by omega) ?_) | (refine ifI (fun hc => ?_) (fun hc => ?_) <;> first | (exfalso; omega) | skip) | ((first | apply hK | ((iterate 1 (clear hK K)); apply hK) | ((iterate 2 (clear hK K)); apply hK) | ((iterate 3 (clear hK K)); apply hK) | ((iterate 4 (clear hK K)); apply hK) | ((iterate 5 (clear hK K)); apply hK)); clear hK K)
  refine ret_pure ?_; simp only [resL_tmp, resL_nil, tupOf, go_sem, hD]
  rfl

theorem superkey_p (n : Nat) (l : List D2) (s : Nat) (hn : n ≤ 6) (h2 : In2 n l) (h64 : l.length ≤ 64) (hs : s < 2 ^ n) : PCall Tryd.prog 25 [I64 n, DL l, U32 s] (SB (sup n l s)) := by
  have h6 := pow6 hn
  have va := valid_p n l (in2_ok (by omega) h2) (by omega) h64
  rw [valE_ok hn h64 h2] at va
  have nn0 : (0 : Int) ≤ ((n : Nat) : Int) := by omega
  have ne : ((n : Nat) : Int).toNat = n := Int.toNat_natCast _
  have nm : min n 32 = n := by omega
  have sh := shr32 s n
  have hz : ((s / 2 ^ n : Nat) : Int) = 0 := by rw [Nat.div_eq_of_lt hs]; rfl
  have c1 := close_p l s (in2_ok (by omega) h2) (by omega) (by omega)
  have hf := kfull_p n (by omega)
  have dq : decide (((cl l s : Nat) : Int) = ((2 ^ n - 1 : Nat) : Int)) = sup n l s := by
    unfold sup
    rw [decide_eq_decide]
    unfold fullN
    omega
  rw [hz] at sh
  refine Call.enter' (N := 25) (rs := [.tmp 6]) Tryd.func25 rfl rfl rfl (by decide) rfl ?_; simp only [argT]; have hD : (0 : Nat) = 0 := rfl
  repeat' first | (with_reducible refine And.intro (by omega) ?_) | (refine SW.seq_k fun K hK => ?_) | (refine SW.block ?_) | ((first | refine SW.region ?_ | refine SW.regionD (Checked.mixed Tryd.checked) (by kernel_rfl) ?_ | refine SW.cond ?_ | refine SW.skip ?_ | refine SW.exit ?_ | refine SW.ret ?_ | refine Call.of_pure (va) ?_ | refine ⟨_, va, ?_⟩ | refine Call.of_pure (c1) ?_ | refine ⟨_, c1, ?_⟩ | refine Call.of_pure (hf) ?_ | refine ⟨_, hf, ?_⟩ | (refine allF_i fun b hb => ?_; replace hD := And.intro hb hD; clear hb; try simp only [fresh_cons, fresh_nil, and_true, ne_eq, neF] at hD) | simp only [appK, appOsK]); try simp only [go_sem, hD, nn0, ne, nm, sh, dq]) | (refine And.intro (by omega) ?_) | (refine ifI (fun hc => ?_) (fun hc => ?_) <;> first | (exfalso; omega) | skip) | ((first | apply hK | ((iterate 1 (clear hK K)); apply hK) | ((iterate 2 (clear hK K)); apply hK) | ((iterate 3 (clear hK K)); apply hK) | ((iterate 4 (clear hK K)); apply hK) | ((iterate 5 (clear hK K)); apply hK)); clear hK K)
  refine ret_pure ?_; simp only [resL_tmp, resL_nil, tupOf, go_sem, hD]

set_option maxHeartbeats 1000000 in
set_option maxRecDepth 20000 in
theorem is_p (n : Nat) (l : List D2) (k : Nat) (hn : n ≤ 6) (h2 : In2 n l) (h64 : l.length ≤ 64) (hk : IsKey n l k) : PCall Tryd.prog 15 [I64 n, DL l, U32 k] (SB true) := by
  have h6 := pow6 hn
  have s0 := superkey_p n l k hn h2 h64 hk.1
  rw [hk.2.1] at s0
  have hk64 : k < 64 := Nat.lt_of_lt_of_le hk.1 h6
  refine Call.enter' (N := 29) (rs := [.tmp 6]) Tryd.func15 rfl rfl rfl (by decide) rfl ?_; simp only [argT]; have hD : (0 : Nat) = 0 := rfl
  repeat' first | (with_reducible refine And.intro (by omega) ?_) | (refine SW.seq_k fun K hK => ?_) | (refine SW.block ?_) | ((first | refine SW.region ?_ | refine SW.regionD (Checked.mixed Tryd.checked) (by kernel_rfl) ?_ | refine SW.cond ?_ | refine SW.skip ?_ | refine SW.exit ?_ | refine SW.ret ?_ | refine Call.of_pure (s0) ?_ | refine ⟨_, s0, ?_⟩ | (refine allF_i fun b hb => ?_; replace hD := And.intro hb hD; clear hb; try simp only [fresh_cons, fresh_nil, and_true, ne_eq, neF] at hD) | simp only [appK, appOsK]); try simp only [go_sem, hD]) | (refine And.intro (by omega) ?_) | (refine ifI (fun hc => ?_) (fun hc => ?_) <;> first | (exfalso; omega) | skip) | ((first | apply hK | ((iterate 1 (clear hK K)); apply hK) | ((iterate 2 (clear hK K)); apply hK) | ((iterate 3 (clear hK K)); apply hK) | ((iterate 4 (clear hK K)); apply hK) | ((iterate 5 (clear hK K)); apply hK)); clear hK K)
  obtain ⟨J, hJ⟩ : ∃ J : Nat → St → Prop, ∀ m S, J m S ↔ (∃ r : Nat, m = r ∧ r < 64 ∧ Sb r k ∧ S = ⟨[(0, I64 n), (1, DL l), (2, U32 k), (7, U32 r)], []⟩) := ⟨fun m S => _, fun _ _ => Iff.rfl⟩
  refine SW.loop' J k ((hJ _ _).2 ⟨k, rfl, hk64, sb_refl k, rfl⟩) (by repeat' (first | exact rfl | exact trivial | exact int_eq (by omega) | exact int_eq (by (rw [i64_wrap] <;> omega)) | constructor)) ?_
  intro m S hIn
  obtain ⟨r, rfl, hr, hrk, rfl⟩ := (hJ _ _).1 hIn
  clear hIn
  by_cases h0 : m = 0
  · subst h0
    have z0 : ((0 : Nat) : Int) = 0 := rfl
    repeat' first | (with_reducible refine And.intro (by omega) ?_) | (refine SW.seq_k fun K hK => ?_) | (refine SW.block ?_) | ((first | refine SW.region ?_ | refine SW.regionD (Checked.mixed Tryd.checked) (by kernel_rfl) ?_ | refine SW.cond ?_ | refine SW.skip ?_ | refine SW.exit ?_ | refine SW.ret ?_ | (refine allF_i fun b hb => ?_; replace hD := And.intro hb hD; clear hb; try simp only [fresh_cons, fresh_nil, and_true, ne_eq, neF] at hD) | simp only [appK, appOsK]); try simp only [go_sem, hD, z0]) | (refine And.intro (by omega) ?_) | (refine ifI (fun hc => ?_) (fun hc => ?_) <;> first | (exfalso; omega) | skip) | ((first | apply hK | ((iterate 1 (clear hK K)); apply hK) | ((iterate 2 (clear hK K)); apply hK) | ((iterate 3 (clear hK K)); apply hK) | ((iterate 4 (clear hK K)); apply hK) | ((iterate 5 (clear hK K)); apply hK)); clear hK K)
    refine ret_pure ?_; simp only [resL_tmp, resL_nil, tupOf, go_sem, hD]
  · obtain ⟨e1, e2, _, e4, e5, e6⟩ := low_N hr h0
    obtain ⟨⟨a, e7, e8⟩, e9⟩ := low_bit hr h0
    have hka := sb_bit.1 hrk _ e8
    have e3 := not32 k (lowN m) (by omega) (by omega)
    rw [e7, dif_flip hka, ← e7] at e3
    have sk := superkey_p n l (flip k a.val) hn h2 h64 (flip_n hk.1 (lt_of_bit hk.1 hka))
    rw [hk.2.2 _ hka] at sk
    have hmi : ¬ ((m : Nat) : Int) = 0 := by omega
    generalize flip k a.val = f at *
    generalize lowN m = w at *
    repeat' first | (with_reducible refine And.intro (by omega) ?_) | (refine SW.seq_k fun K hK => ?_) | (refine SW.block ?_) | ((first | refine SW.region ?_ | refine SW.regionD (Checked.mixed Tryd.checked) (by kernel_rfl) ?_ | refine SW.cond ?_ | refine SW.skip ?_ | refine SW.exit ?_ | refine SW.ret ?_ | refine Call.of_pure (sk) ?_ | refine ⟨_, sk, ?_⟩ | (refine allF_i fun b hb => ?_; replace hD := And.intro hb hD; clear hb; try simp only [fresh_cons, fresh_nil, and_true, ne_eq, neF] at hD) | simp only [appK, appOsK]); try simp only [go_sem, hD, hmi, e1, e2, e3]) | (refine And.intro (by omega) ?_) | (refine ifI (fun hc => ?_) (fun hc => ?_) <;> first | (exfalso; omega) | skip) | ((first | apply hK | ((iterate 1 (clear hK K)); apply hK) | ((iterate 2 (clear hK K)); apply hK) | ((iterate 3 (clear hK K)); apply hK) | ((iterate 4 (clear hK K)); apply hK) | ((iterate 5 (clear hK K)); apply hK)); clear hK K)
    refine Rnd.sub (m - w) (by omega) ((hJ _ _).2 ⟨m - w, rfl, by omega, sb_trans e9 hrk, rfl⟩) (by repeat' (first | exact rfl | exact trivial | exact int_eq (by omega) | exact int_eq (by (rw [i64_wrap] <;> omega)) | constructor))

set_option maxHeartbeats 1000000 in
set_option maxRecDepth 20000 in
theorem eqS_self (l : List Nat) (h64 : l.length ≤ 1000000000) : PCall Tryd.prog 13 [SS l, SS l] (SB true) := by
  refine Call.enter' (N := 26) (rs := [.tmp 4]) Tryd.func13 rfl rfl rfl (by decide) rfl ?_; simp only [argT]; have hD : (0 : Nat) = 0 := rfl
  repeat' first | (with_reducible refine And.intro (by omega) ?_) | (refine SW.seq_k fun K hK => ?_) | (refine SW.block ?_) | ((first | refine SW.region ?_ | refine SW.regionD (Checked.mixed Tryd.checked) (by kernel_rfl) ?_ | refine SW.cond ?_ | refine SW.skip ?_ | refine SW.exit ?_ | refine SW.ret ?_ | (refine allF_i fun b hb => ?_; replace hD := And.intro hb hD; clear hb; try simp only [fresh_cons, fresh_nil, and_true, ne_eq, neF] at hD) | simp only [appK, appOsK]); try simp only [go_sem, hD]) | (refine And.intro (by omega) ?_) | (refine ifI (fun hc => ?_) (fun hc => ?_) <;> first | (exfalso; omega) | skip) | ((first | apply hK | ((iterate 1 (clear hK K)); apply hK) | ((iterate 2 (clear hK K)); apply hK) | ((iterate 3 (clear hK K)); apply hK) | ((iterate 4 (clear hK K)); apply hK) | ((iterate 5 (clear hK K)); apply hK)); clear hK K)
  obtain ⟨I, hI⟩ : ∃ I : Nat → St → Prop, ∀ k S, I k S ↔ (∃ (i : Nat) , k = l.length - i ∧ i ≤ l.length ∧ S = ⟨[(0, SS l), (1, SS l), (12, I64 l.length), (13, I64 i)], []⟩) := ⟨fun k S => _, fun _ _ => Iff.rfl⟩
  refine SW.loop' I (l.length) ((hI _ _).2 ⟨0, rfl, Nat.zero_le _, rfl⟩) (by repeat' (first | exact rfl | exact trivial | exact int_eq (by omega) | exact int_eq (by (rw [i64_wrap] <;> omega)) | constructor)) ?_
  intro k S hIn
  obtain ⟨i, rfl, hi, rfl⟩ := (hI _ _).1 hIn
  clear hIn
  have ie : ((i : Nat) : Int).toNat = i := Int.toNat_natCast _
  have i0 : (0 : Int) ≤ ((i : Nat) : Int) := by omega
  by_cases hlt : i < l.length
  · have hli : ((i : Nat) : Int) < (((l.length) : Nat) : Int) := by omega
    have w1 : IntKind.i64.wrap ((i : Int) + 1) = ((i + 1 : Nat) : Int) := by rw [i64_wrap (by omega) (by omega)]; omega
    have tf : sF l i = [U32 (l.getD i 0)] := rfl
    generalize l.getD i 0 = x at *
    repeat' first | (with_reducible refine And.intro (by omega) ?_) | (refine SW.seq_k fun K hK => ?_) | (refine SW.block ?_) | ((first | refine SW.region ?_ | refine SW.regionZ (id := 6) (Checked.mixed Tryd.checked) ((.one 0 [0, 2, 3, 8] (.one 1 [1, 2, 3, 8] (.one 2 [2, 3, 8] (.one 3 [3, 8] (.one 4 [4, 6, 7, 8] (.one 5 [5, 6, 7, 8] (.one 6 [6, 7, 8] (.one 7 [7, 8] (.one 8 [8] .done))))))))) : OZ) (by kernel_rfl) ?_ | refine SW.regionD (Checked.mixed Tryd.checked) (by kernel_rfl) ?_ | refine SW.cond ?_ | refine SW.skip ?_ | refine SW.exit ?_ | refine SW.ret ?_ | (refine allF_i fun b hb => ?_; replace hD := And.intro hb hD; clear hb; try simp only [fresh_cons, fresh_nil, and_true, ne_eq, neF] at hD) | simp only [appK, appOsK]); try simp only [go_sem, hD, hli, ie, i0, w1, tf]) | (refine And.intro (by omega) ?_) | (refine ifI (fun hc => ?_) (fun hc => ?_) <;> first | (exfalso; omega) | skip) | ((first | apply hK | ((iterate 1 (clear hK K)); apply hK) | ((iterate 2 (clear hK K)); apply hK) | ((iterate 3 (clear hK K)); apply hK) | ((iterate 4 (clear hK K)); apply hK) | ((iterate 5 (clear hK K)); apply hK)); clear hK K) | (refine And.intro ?_ ?_)
    all_goals
      refine Rnd.sub (l.length - (i + 1)) (by omega) ((hI _ _).2 ⟨i + 1, rfl, by omega, rfl⟩) (by repeat' (first | exact rfl | exact trivial | exact int_eq (by omega) | exact int_eq (by (rw [i64_wrap] <;> omega)) | constructor))
  · have hli : ¬ ((i : Nat) : Int) < (((l.length) : Nat) : Int) := by omega
    repeat' first | (with_reducible refine And.intro (by omega) ?_) | (refine SW.seq_k fun K hK => ?_) | (refine SW.block ?_) | ((first | refine SW.region ?_ | refine SW.regionD (Checked.mixed Tryd.checked) (by kernel_rfl) ?_ | refine SW.cond ?_ | refine SW.skip ?_ | refine SW.exit ?_ | refine SW.ret ?_ | (refine allF_i fun b hb => ?_; replace hD := And.intro hb hD; clear hb; try simp only [fresh_cons, fresh_nil, and_true, ne_eq, neF] at hD) | simp only [appK, appOsK]); try simp only [go_sem, hD, hli]) | (refine And.intro (by omega) ?_) | (refine ifI (fun hc => ?_) (fun hc => ?_) <;> first | (exfalso; omega) | skip) | ((first | apply hK | ((iterate 1 (clear hK K)); apply hK) | ((iterate 2 (clear hK K)); apply hK) | ((iterate 3 (clear hK K)); apply hK) | ((iterate 4 (clear hK K)); apply hK) | ((iterate 5 (clear hK K)); apply hK)); clear hK K)
    refine ret_pure ?_; simp only [resL_tmp, resL_nil, tupOf, go_sem, hD]
end Go.Proofs.YtmcmphmhjikgkaaDoor
