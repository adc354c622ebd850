/- Contract: strconv.ParseUint at base 16 and 8 bits, of two bytes at most. -/
import Derived.Test.YtpkdknfdhhgbgaaDoorR7
import Derived.Test.YtpkdknfdhhgbgaaDoorP2
set_option linter.unusedSimpArgs false
set_option linter.unusedVariables false
set_option linter.unusedSectionVars false
namespace Go.Ab
open Go Go.Ab.A01
/-- What the inner ParseUint hands back. -/
def hexR (o : Option Nat) : SV := match o with
  | some n => .tup [U64 n, .sc .nilIface]
  | .none => .tup [U64 0, .sc (.iface 87 (.int .i64 2))]
theorem reps_scs {E : Env} {vs : Array Value} (l : List Value) (h : Reps E vs (l.map SV.sc)) : vs = l.toArray := by
  obtain ⟨h1, h2⟩ := h
  rw [List.length_map] at h1 h2
  apply Array.ext
  · rw [h1]; simp
  · intro i hi hi2
    have hl : i < l.length := by omega
    have h0 := h2 i hl
    have e1 : vs.getD i undef = vs[i] := by simp [Array.getD, hi]
    have e2 : (l.map SV.sc).getD i .any = .sc l[i] := by simp [List.getD_eq_getElem?_getD, hl]
    rw [e1, e2] at h0
    rw [rep_sc h0]
    simp
end Go.Ab
namespace Go.Proofs.YtpkdknfdhhgbgaaDoor
open Go Go.Ab Go.Ab.A01
variable [Gl] [Tabs]

theorem lower_c (c : UInt8) : PCall Tryd.prog 70 [.sc (.int .u8 (c.toNat : Int))] (.sc (.int .u8 ((c.toNat ||| 32 : Nat) : Int))) :=
  PCall.of_calls ⟨_, Tryd.func70, by kernel_rfl, by kernel_rfl⟩ fun w E vs _ _ _ hr => by
    obtain rfl := reps1 hr
    refine (Tryd.internal_strconv_lower (c.toNat : Int) w).mono fun e w' ⟨he, hw⟩ => ⟨_, he, fun _ => ?_, by rw [hw]; exact RowKit.Below.refl _ _⟩
    have h := u8_or_nat c.toNat 32 c.toNat_lt (by decide)
    rw [show ((32 : Nat) : Int) = 32 from rfl] at h
    rw [h]
    exact .sc _

set_option maxHeartbeats 4000000 in
set_option maxRecDepth 20000 in
theorem puint_c (t : ByteArray) (ht : t.size ≤ 2) : PCall Tryd.prog 63 [Str t, I64 16, I64 8] (hexR (hexO t.data.toList)) := by
  have ls : t.data.toList.length = t.size := Array.length_toList
  obtain ⟨R, hR⟩ : ∃ R, R = hexR (hexO t.data.toList) := ⟨_, rfl⟩
  rw [← hR]
  unfold hexO at hR
  cases hE : (t.toList == (⟨#[]⟩ : ByteArray).toList) with
  | true =>
    rw [if_pos (barr_empty.1 hE)] at hR
    refine Call.enter' (N := 172) (rs := [.tmp 6, .tmp 7]) Tryd.func63 rfl rfl rfl (by decide) rfl ?_; simp only [argT]; have hD : (0 : Nat) = 0 := rfl
    repeat' first
      | (with_reducible refine And.intro (by omega) ?_)
      | (refine SW.seq_k fun K hK => ?_)
      | (refine SW.block ?_)
      | ((first
      | refine SW.region ?_
      | refine SW.regionD (Checked.mixed Tryd.checked) (by kernel_rfl) ?_
      | refine SW.cond ?_
      | refine SW.skip ?_
      | refine SW.exit ?_
      | refine SW.ret ?_
      | (refine allF_i fun b hb => ?_; replace hD := And.intro hb hD; clear hb; simp only [fresh_cons, fresh_nil, and_true, ne_eq, neF] at hD)
      | simp only [appK, appOsK]); try simp only [go_sem, ↓reduceIte, reduceCtorEq, Nat.reduceAdd, Nat.reduceMul, Nat.reduceSub, Nat.reduceLT, Nat.reduceLeDiff, Nat.reduceEqDiff, Nat.reduceBEq, Nat.reduceBneDiff, Int.reduceToNat, Int.toNat_natCast, eq_self, decide_true, decide_false, Int.reduceEq, and_true, true_and, if_false_eq, if_true_eq, List.getElem?_cons_zero, List.getElem?_cons_succ, setAll, List.length_cons, List.length_nil, List.length_set, List.getD_cons_zero, List.getD_cons_succ, Nat.le_refl, Int.le_refl, Nat.beq_refl, or_self, true_or, or_true, List.drop_zero, hD, hE, Tryd.underlying87])
      | (refine And.intro (by omega) ?_)
      | (refine ifI (fun hc => ?_) (fun hc => ?_) <;> first | (exfalso; omega) | skip)
      | (first | (apply hK; clear hK K) | (clear hK K; apply hK; clear hK K) | (clear hK K; clear hK K; apply hK; clear hK K) | (clear hK K; clear hK K; clear hK K; apply hK; clear hK K) | (clear hK K; clear hK K; clear hK K; clear hK K; apply hK; clear hK K) | (clear hK K; clear hK K; clear hK K; clear hK K; clear hK K; apply hK; clear hK K))
      | fail
    refine ret_pure ?_; simp only [resL_tmp, resL_nil, tupOf, go_sem, ↓reduceIte, reduceCtorEq, Nat.reduceAdd, Nat.reduceMul, Nat.reduceSub, Nat.reduceLT, Nat.reduceLeDiff, Nat.reduceEqDiff, Nat.reduceBEq, Nat.reduceBneDiff, Int.reduceToNat, Int.toNat_natCast, eq_self, decide_true, decide_false, Int.reduceEq, and_true, true_and, if_false_eq, if_true_eq, List.getElem?_cons_zero, List.getElem?_cons_succ, setAll, List.length_cons, List.length_nil, List.length_set, List.getD_cons_zero, List.getD_cons_succ, Nat.le_refl, Int.le_refl, Nat.beq_refl, or_self, true_or, or_true, List.drop_zero, hD]
    rw [hR]
    rfl
  | false =>
    rw [if_neg (fun x => by rw [barr_empty.2 x] at hE; cases hE)] at hR
    refine Call.enter' (N := 172) (rs := [.tmp 6, .tmp 7]) Tryd.func63 rfl rfl rfl (by decide) rfl ?_; simp only [argT]; have hD : (0 : Nat) = 0 := rfl
    repeat' first
      | (with_reducible refine And.intro (by omega) ?_)
      | (refine SW.seq_k fun K hK => ?_)
      | (refine SW.block ?_)
      | ((first
      | refine SW.region ?_
      | refine SW.regionD (Checked.mixed Tryd.checked) (by kernel_rfl) ?_
      | refine SW.cond ?_
      | refine SW.skip ?_
      | refine SW.exit ?_
      | refine SW.ret ?_
      | (refine allF_i fun b hb => ?_; replace hD := And.intro hb hD; clear hb; simp only [fresh_cons, fresh_nil, and_true, ne_eq, neF] at hD)
      | simp only [appK, appOsK]); try simp only [go_sem, ↓reduceIte, reduceCtorEq, Nat.reduceAdd, Nat.reduceMul, Nat.reduceSub, Nat.reduceLT, Nat.reduceLeDiff, Nat.reduceEqDiff, Nat.reduceBEq, Nat.reduceBneDiff, Int.reduceToNat, Int.toNat_natCast, eq_self, decide_true, decide_false, Int.reduceEq, and_true, true_and, if_false_eq, if_true_eq, List.getElem?_cons_zero, List.getElem?_cons_succ, setAll, List.length_cons, List.length_nil, List.length_set, List.getD_cons_zero, List.getD_cons_succ, Nat.le_refl, Int.le_refl, Nat.beq_refl, or_self, true_or, or_true, List.drop_zero, hD, hE, Tryd.underlying87])
      | (refine And.intro (by omega) ?_)
      | (refine ifI (fun hc => ?_) (fun hc => ?_) <;> first | (exfalso; omega) | skip)
      | (first | (apply hK; clear hK K) | (clear hK K; apply hK; clear hK K) | (clear hK K; clear hK K; apply hK; clear hK K) | (clear hK K; clear hK K; clear hK K; apply hK; clear hK K) | (clear hK K; clear hK K; clear hK K; clear hK K; apply hK; clear hK K) | (clear hK K; clear hK K; clear hK K; clear hK K; clear hK K; apply hK; clear hK K))
      | fail
    obtain ⟨I, hI⟩ : ∃ I : Nat → St → Prop, ∀ k S, I k S ↔ (∃ (i n : Nat), k = t.size - i ∧ i ≤ t.size ∧ hexF 0 (t.data.toList.take i) = some n ∧ S = ⟨[(0, Str t), (1, I64 16), (2, I64 8), (8, SB false), (9, Str t), (10, U64 1152921504606846976), (11, U64 255), (12, SB false), (13, U64 n), (99, strBytes t), (100, I64 t.size), (101, I64 i)], []⟩) := ⟨fun k S => _, fun _ _ => Iff.rfl⟩
    refine SW.loop' I t.size ((hI _ _).2 ⟨0, 0, rfl, Nat.zero_le _, rfl, rfl⟩) (by repeat' (first | exact rfl | exact trivial | exact int_eq (by omega) | exact int_eq (by (rw [i64_wrap] <;> omega)) | constructor)) ?_
    intro k S hIn
    obtain ⟨i, n, rfl, hi, hn, rfl⟩ := (hI _ _).1 hIn
    clear hIn
    unfold strBytes
    have ie : ((i : Nat) : Int).toNat = i := Int.toNat_natCast _
    have i0 : (0 : Int) ≤ ((i : Nat) : Int) := by omega
    have hn2 : n < 16 ^ i := by
      have h := hexF_lt _ 0 n 0 (by decide) hn
      rw [Nat.zero_add, List.length_take] at h
      exact Nat.lt_of_lt_of_le h (Nat.pow_le_pow_right (by decide) (Nat.min_le_left _ _))
    by_cases hlt : i < t.size
    · have h1i : ((i : Nat) : Int) < ((t.size : Nat) : Int) := by omega
      have w1 : IntKind.i64.wrap ((i : Int) + 1) = ((i + 1 : Nat) : Int) := by rw [i64_wrap (by omega) (by omega)]; omega
      obtain ⟨st1, st2⟩ := hexF_step (by rw [ls]; exact hlt) hn
      have hp : (16 : Nat) ^ i ≤ 16 ^ 1 := Nat.pow_le_pow_right (by decide) (by omega)
      rw [Nat.pow_one] at hp
      obtain ⟨c, hc⟩ : ∃ c, c = t.data.toList.getD i 0 := ⟨_, rfl⟩
      rw [← hc] at st1 st2
      have hcc : t.data.toList.getD i 0 = c := hc.symm
      have low := lower_c c
      have c8 := c.toNat_lt
      obtain ⟨lo, hlo⟩ : ∃ lo, lo = c.toNat ||| 32 := ⟨_, rfl⟩
      rw [← hlo] at low
      have lo8 : lo < 256 := by rw [hlo]; exact Nat.or_lt_two_pow (n := 8) (by omega) (by decide)
      have k1 : IntKind.u8.wrap 16 = 16 := by decide
      have k2 : IntKind.u64.wrap 16 = 16 := by decide
      have k3 : IntKind.u64.wrap ((n : Int) * 16) = ((n * 16 : Nat) : Int) := by rw [u64n (by omega) (by omega)]; omega
      by_cases hA : 48 ≤ c.toNat ∧ c.toNat ≤ 57
      · have hd : dv c = some (c.toNat - 48) := by unfold dv; rw [if_pos hA]
        have e1 : IntKind.u8.wrap (((c.toNat : Nat) : Int) - 48) = ((c.toNat - 48 : Nat) : Int) := by rw [u8n (by omega) (by omega)]; omega
        have e2 : IntKind.u64.wrap ((c.toNat - 48 : Nat) : Int) = ((c.toNat - 48 : Nat) : Int) := u64n (by omega) (by omega)
        have e3 : IntKind.u64.wrap (((n * 16 : Nat) : Int) + ((c.toNat - 48 : Nat) : Int)) = ((n * 16 + (c.toNat - 48) : Nat) : Int) := by rw [u64n (by omega) (by omega)]; omega
        repeat' first
          | (with_reducible refine And.intro (by omega) ?_)
          | (refine SW.seq_k fun K hK => ?_)
          | (refine SW.block ?_)
          | ((first
      | refine SW.region ?_
      | refine SW.regionD (Checked.mixed Tryd.checked) (by kernel_rfl) ?_
      | refine SW.cond ?_
      | refine SW.skip ?_
      | refine SW.exit ?_
      | refine SW.ret ?_
      | refine Call.of_pure (low) ?_
      | refine ⟨_, low, ?_⟩
      | (refine allF_i fun b hb => ?_; replace hD := And.intro hb hD; clear hb; simp only [fresh_cons, fresh_nil, and_true, ne_eq, neF] at hD)
      | simp only [appK, appOsK]); try simp only [go_sem, ↓reduceIte, reduceCtorEq, Nat.reduceAdd, Nat.reduceMul, Nat.reduceSub, Nat.reduceLT, Nat.reduceLeDiff, Nat.reduceEqDiff, Nat.reduceBEq, Nat.reduceBneDiff, Int.reduceToNat, Int.toNat_natCast, eq_self, decide_true, decide_false, Int.reduceEq, and_true, true_and, if_false_eq, if_true_eq, List.getElem?_cons_zero, List.getElem?_cons_succ, setAll, List.length_cons, List.length_nil, List.length_set, List.getD_cons_zero, List.getD_cons_succ, Nat.le_refl, Int.le_refl, Nat.beq_refl, or_self, true_or, or_true, List.drop_zero, hD, h1i, ie, i0, hcc, w1, k1, k2, k3, e1, e2, e3, Tryd.underlying87])
          | (refine And.intro (by omega) ?_)
          | (refine ifI (fun hc => ?_) (fun hc => ?_) <;> first | (exfalso; omega) | skip)
          | (first | (apply hK; clear hK K) | (clear hK K; apply hK; clear hK K) | (clear hK K; clear hK K; apply hK; clear hK K) | (clear hK K; clear hK K; clear hK K; apply hK; clear hK K) | (clear hK K; clear hK K; clear hK K; clear hK K; apply hK; clear hK K) | (clear hK K; clear hK K; clear hK K; clear hK K; clear hK K; apply hK; clear hK K))
          | fail
        all_goals refine Rnd.sub (t.size - (i + 1)) (by omega) ((hI _ _).2 ⟨i + 1, _, rfl, by omega, st1 _ hd, rfl⟩) (by repeat' (first | exact rfl | exact trivial | exact int_eq (by omega) | exact int_eq (by (rw [i64_wrap] <;> omega)) | constructor))
      · by_cases hB : 97 ≤ lo ∧ lo ≤ 102
        · have hd : dv c = some (lo - 87) := by unfold dv; rw [if_neg hA, if_pos (by rw [← hlo]; exact hB), ← hlo]
          have e1 : IntKind.u8.wrap ((lo : Int) - 97) = ((lo - 97 : Nat) : Int) := by rw [u8n (by omega) (by omega)]; omega
          have e1b : IntKind.u8.wrap (((lo - 97 : Nat) : Int) + 10) = ((lo - 87 : Nat) : Int) := by rw [u8n (by omega) (by omega)]; omega
          have e2 : IntKind.u64.wrap ((lo - 87 : Nat) : Int) = ((lo - 87 : Nat) : Int) := u64n (by omega) (by omega)
          have e3 : IntKind.u64.wrap (((n * 16 : Nat) : Int) + ((lo - 87 : Nat) : Int)) = ((n * 16 + (lo - 87) : Nat) : Int) := by rw [u64n (by omega) (by omega)]; omega
          repeat' first
            | (with_reducible refine And.intro (by omega) ?_)
            | (refine SW.seq_k fun K hK => ?_)
            | (refine SW.block ?_)
            | ((first
      | refine SW.region ?_
      | refine SW.regionD (Checked.mixed Tryd.checked) (by kernel_rfl) ?_
      | refine SW.cond ?_
      | refine SW.skip ?_
      | refine SW.exit ?_
      | refine SW.ret ?_
      | refine Call.of_pure (low) ?_
      | refine ⟨_, low, ?_⟩
      | (refine allF_i fun b hb => ?_; replace hD := And.intro hb hD; clear hb; simp only [fresh_cons, fresh_nil, and_true, ne_eq, neF] at hD)
      | simp only [appK, appOsK]); try simp only [go_sem, ↓reduceIte, reduceCtorEq, Nat.reduceAdd, Nat.reduceMul, Nat.reduceSub, Nat.reduceLT, Nat.reduceLeDiff, Nat.reduceEqDiff, Nat.reduceBEq, Nat.reduceBneDiff, Int.reduceToNat, Int.toNat_natCast, eq_self, decide_true, decide_false, Int.reduceEq, and_true, true_and, if_false_eq, if_true_eq, List.getElem?_cons_zero, List.getElem?_cons_succ, setAll, List.length_cons, List.length_nil, List.length_set, List.getD_cons_zero, List.getD_cons_succ, Nat.le_refl, Int.le_refl, Nat.beq_refl, or_self, true_or, or_true, List.drop_zero, hD, h1i, ie, i0, hcc, w1, k1, k2, k3, e1, e1b, e2, e3, Tryd.underlying87])
            | (refine And.intro (by omega) ?_)
            | (refine ifI (fun hc => ?_) (fun hc => ?_) <;> first | (exfalso; omega) | skip)
            | (first | (apply hK; clear hK K) | (clear hK K; apply hK; clear hK K) | (clear hK K; clear hK K; apply hK; clear hK K) | (clear hK K; clear hK K; clear hK K; apply hK; clear hK K) | (clear hK K; clear hK K; clear hK K; clear hK K; apply hK; clear hK K) | (clear hK K; clear hK K; clear hK K; clear hK K; clear hK K; apply hK; clear hK K))
            | fail
          all_goals refine Rnd.sub (t.size - (i + 1)) (by omega) ((hI _ _).2 ⟨i + 1, _, rfl, by omega, st1 _ hd, rfl⟩) (by repeat' (first | exact rfl | exact trivial | exact int_eq (by omega) | exact int_eq (by (rw [i64_wrap] <;> omega)) | constructor))
        · have hd : dv c = none := by unfold dv; rw [if_neg hA, if_neg (by rw [← hlo]; exact hB)]
          rw [st2 hd] at hR
          have e1 : 97 ≤ lo → IntKind.u8.wrap ((lo : Int) - 97) = ((lo - 97 : Nat) : Int) := fun h => by rw [u8n (by omega) (by omega)]; omega
          have e1b : lo ≤ 122 → IntKind.u8.wrap (((lo - 97 : Nat) : Int) + 10) = ((lo - 97 + 10 : Nat) : Int) := fun h => by rw [u8n (by omega) (by omega)]; omega
          by_cases hC : 97 ≤ lo ∧ lo ≤ 122
          · replace e1 := e1 hC.1
            replace e1b := e1b hC.2
            repeat' first
              | (with_reducible refine And.intro (by omega) ?_)
              | (refine SW.seq_k fun K hK => ?_)
              | (refine SW.block ?_)
              | ((first
      | refine SW.region ?_
      | refine SW.regionD (Checked.mixed Tryd.checked) (by kernel_rfl) ?_
      | refine SW.cond ?_
      | refine SW.skip ?_
      | refine SW.exit ?_
      | refine SW.ret ?_
      | refine Call.of_pure (low) ?_
      | refine ⟨_, low, ?_⟩
      | (refine allF_i fun b hb => ?_; replace hD := And.intro hb hD; clear hb; simp only [fresh_cons, fresh_nil, and_true, ne_eq, neF] at hD)
      | simp only [appK, appOsK]); try simp only [go_sem, ↓reduceIte, reduceCtorEq, Nat.reduceAdd, Nat.reduceMul, Nat.reduceSub, Nat.reduceLT, Nat.reduceLeDiff, Nat.reduceEqDiff, Nat.reduceBEq, Nat.reduceBneDiff, Int.reduceToNat, Int.toNat_natCast, eq_self, decide_true, decide_false, Int.reduceEq, and_true, true_and, if_false_eq, if_true_eq, List.getElem?_cons_zero, List.getElem?_cons_succ, setAll, List.length_cons, List.length_nil, List.length_set, List.getD_cons_zero, List.getD_cons_succ, Nat.le_refl, Int.le_refl, Nat.beq_refl, or_self, true_or, or_true, List.drop_zero, hD, h1i, ie, i0, hcc, w1, k1, k2, k3, e1, e1b, Tryd.underlying87])
              | (refine And.intro (by omega) ?_)
              | (refine ifI (fun hc => ?_) (fun hc => ?_) <;> first | (exfalso; omega) | skip)
              | (first | (apply hK; clear hK K) | (clear hK K; apply hK; clear hK K) | (clear hK K; clear hK K; apply hK; clear hK K) | (clear hK K; clear hK K; clear hK K; apply hK; clear hK K) | (clear hK K; clear hK K; clear hK K; clear hK K; apply hK; clear hK K) | (clear hK K; clear hK K; clear hK K; clear hK K; clear hK K; apply hK; clear hK K))
              | fail
            all_goals
              refine ret_pure ?_; simp only [resL_tmp, resL_nil, tupOf, go_sem, ↓reduceIte, reduceCtorEq, Nat.reduceAdd, Nat.reduceMul, Nat.reduceSub, Nat.reduceLT, Nat.reduceLeDiff, Nat.reduceEqDiff, Nat.reduceBEq, Nat.reduceBneDiff, Int.reduceToNat, Int.toNat_natCast, eq_self, decide_true, decide_false, Int.reduceEq, and_true, true_and, if_false_eq, if_true_eq, List.getElem?_cons_zero, List.getElem?_cons_succ, setAll, List.length_cons, List.length_nil, List.length_set, List.getD_cons_zero, List.getD_cons_succ, Nat.le_refl, Int.le_refl, Nat.beq_refl, or_self, true_or, or_true, List.drop_zero, hD]
              rw [hR]
              rfl
          · repeat' first
              | (with_reducible refine And.intro (by omega) ?_)
              | (refine SW.seq_k fun K hK => ?_)
              | (refine SW.block ?_)
              | ((first
      | refine SW.region ?_
      | refine SW.regionD (Checked.mixed Tryd.checked) (by kernel_rfl) ?_
      | refine SW.cond ?_
      | refine SW.skip ?_
      | refine SW.exit ?_
      | refine SW.ret ?_
      | refine Call.of_pure (low) ?_
      | refine ⟨_, low, ?_⟩
      | (refine allF_i fun b hb => ?_; replace hD := And.intro hb hD; clear hb; simp only [fresh_cons, fresh_nil, and_true, ne_eq, neF] at hD)
      | simp only [appK, appOsK]); try simp only [go_sem, ↓reduceIte, reduceCtorEq, Nat.reduceAdd, Nat.reduceMul, Nat.reduceSub, Nat.reduceLT, Nat.reduceLeDiff, Nat.reduceEqDiff, Nat.reduceBEq, Nat.reduceBneDiff, Int.reduceToNat, Int.toNat_natCast, eq_self, decide_true, decide_false, Int.reduceEq, and_true, true_and, if_false_eq, if_true_eq, List.getElem?_cons_zero, List.getElem?_cons_succ, setAll, List.length_cons, List.length_nil, List.length_set, List.getD_cons_zero, List.getD_cons_succ, Nat.le_refl, Int.le_refl, Nat.beq_refl, or_self, true_or, or_true, List.drop_zero, hD, h1i, ie, i0, hcc, w1, k1, k2, k3, Tryd.underlying87])
              | (refine And.intro (by omega) ?_)
              | (refine ifI (fun hc => ?_) (fun hc => ?_) <;> first | (exfalso; omega) | skip)
              | (first | (apply hK; clear hK K) | (clear hK K; apply hK; clear hK K) | (clear hK K; clear hK K; apply hK; clear hK K) | (clear hK K; clear hK K; clear hK K; apply hK; clear hK K) | (clear hK K; clear hK K; clear hK K; clear hK K; apply hK; clear hK K) | (clear hK K; clear hK K; clear hK K; clear hK K; clear hK K; apply hK; clear hK K))
              | fail
            all_goals
              refine ret_pure ?_; simp only [resL_tmp, resL_nil, tupOf, go_sem, ↓reduceIte, reduceCtorEq, Nat.reduceAdd, Nat.reduceMul, Nat.reduceSub, Nat.reduceLT, Nat.reduceLeDiff, Nat.reduceEqDiff, Nat.reduceBEq, Nat.reduceBneDiff, Int.reduceToNat, Int.toNat_natCast, eq_self, decide_true, decide_false, Int.reduceEq, and_true, true_and, if_false_eq, if_true_eq, List.getElem?_cons_zero, List.getElem?_cons_succ, setAll, List.length_cons, List.length_nil, List.length_set, List.getD_cons_zero, List.getD_cons_succ, Nat.le_refl, Int.le_refl, Nat.beq_refl, or_self, true_or, or_true, List.drop_zero, hD]
              rw [hR]
              rfl
    · have h1i : ¬ ((i : Nat) : Int) < ((t.size : Nat) : Int) := by omega
      rw [List.take_of_length_le (by omega)] at hn
      rw [hn] at hR
      repeat' first
        | (with_reducible refine And.intro (by omega) ?_)
        | (refine SW.seq_k fun K hK => ?_)
        | (refine SW.block ?_)
        | ((first
      | refine SW.region ?_
      | refine SW.regionD (Checked.mixed Tryd.checked) (by kernel_rfl) ?_
      | refine SW.cond ?_
      | refine SW.skip ?_
      | refine SW.exit ?_
      | refine SW.ret ?_
      | (refine allF_i fun b hb => ?_; replace hD := And.intro hb hD; clear hb; simp only [fresh_cons, fresh_nil, and_true, ne_eq, neF] at hD)
      | simp only [appK, appOsK]); try simp only [go_sem, ↓reduceIte, reduceCtorEq, Nat.reduceAdd, Nat.reduceMul, Nat.reduceSub, Nat.reduceLT, Nat.reduceLeDiff, Nat.reduceEqDiff, Nat.reduceBEq, Nat.reduceBneDiff, Int.reduceToNat, Int.toNat_natCast, eq_self, decide_true, decide_false, Int.reduceEq, and_true, true_and, if_false_eq, if_true_eq, List.getElem?_cons_zero, List.getElem?_cons_succ, setAll, List.length_cons, List.length_nil, List.length_set, List.getD_cons_zero, List.getD_cons_succ, Nat.le_refl, Int.le_refl, Nat.beq_refl, or_self, true_or, or_true, List.drop_zero, hD, h1i])
        | (refine And.intro (by omega) ?_)
        | (refine ifI (fun hc => ?_) (fun hc => ?_) <;> first | (exfalso; omega) | skip)
        | (first | (apply hK; clear hK K) | (clear hK K; apply hK; clear hK K) | (clear hK K; clear hK K; apply hK; clear hK K) | (clear hK K; clear hK K; clear hK K; apply hK; clear hK K) | (clear hK K; clear hK K; clear hK K; clear hK K; apply hK; clear hK K) | (clear hK K; clear hK K; clear hK K; clear hK K; clear hK K; apply hK; clear hK K))
        | fail
      refine ret_pure ?_; simp only [resL_tmp, resL_nil, tupOf, go_sem, ↓reduceIte, reduceCtorEq, Nat.reduceAdd, Nat.reduceMul, Nat.reduceSub, Nat.reduceLT, Nat.reduceLeDiff, Nat.reduceEqDiff, Nat.reduceBEq, Nat.reduceBneDiff, Int.reduceToNat, Int.toNat_natCast, eq_self, decide_true, decide_false, Int.reduceEq, and_true, true_and, if_false_eq, if_true_eq, List.getElem?_cons_zero, List.getElem?_cons_succ, setAll, List.length_cons, List.length_nil, List.length_set, List.getD_cons_zero, List.getD_cons_succ, Nat.le_refl, Int.le_refl, Nat.beq_refl, or_self, true_or, or_true, List.drop_zero, hD]
      rw [hR]
      rfl

theorem toError_c (t : ByteArray) (ht : t.size ≤ 2) : ECall Tryd.prog 57 [Str ⟨#[80, 97, 114, 115, 101, 85, 105, 110, 116]⟩, Str t, I64 16, I64 8, .sc (.iface 87 (.int .i64 2))] (fun r => ∃ a b, r = .sc (.iface a b)) :=
  ECall.of_calls ⟨_, Tryd.func57, by kernel_rfl, by kernel_rfl⟩ fun w E vs h3 h4 h5 hr => by
    obtain rfl := reps_scs [.string ⟨#[80, 97, 114, 115, 101, 85, 105, 110, 116]⟩, .string t, .int .i64 16, .int .i64 8, .iface 87 (.int .i64 2)] hr
    obtain ⟨a4, b4, e4⟩ := Tabs.gs
    have v4 := var_of e4 h5 h3
    exact (Tryd.strconv_toError_syntax _ t 16 8 _ w (by omega) v4 (.inr ⟨a4, b4, rfl⟩)).mono fun e w' ⟨N, he, _, _, bel⟩ => ⟨_, _, he, ⟨_, _, rfl⟩, fun _ => .sc _, bel⟩

/-- The number that ParseUint hands back. -/
def puN (t : ByteArray) : Nat := (hexO t.data.toList).getD 0

set_option maxRecDepth 20000 in
theorem parseUint_c (t : ByteArray) (ht : t.size ≤ 2) : ECall Tryd.prog 55 [Str t, I64 16, I64 8] (fun r => ∃ e, r = .tup [U64 (puN t), .sc e]) := by
  have pc := puint_c t ht
  have te := toError_c t ht
  unfold puN
  cases hx : hexO t.data.toList with
  | some n =>
    rw [hx] at pc
    unfold hexR at pc
    simp only at pc
    refine Call.enter' (N := 26) (rs := [.tmp 6, .tmp 7]) Tryd.func55 rfl rfl rfl (by decide) rfl ?_; simp only [argT]; have hD : (0 : Nat) = 0 := rfl
    repeat' first
      | (with_reducible refine And.intro (by omega) ?_)
      | (refine SW.seq_k fun K hK => ?_)
      | (refine SW.block ?_)
      | ((first
      | refine SW.region ?_
      | refine SW.regionD (Checked.mixed Tryd.checked) (by kernel_rfl) ?_
      | refine SW.cond ?_
      | refine SW.skip ?_
      | refine SW.exit ?_
      | refine SW.ret ?_
      | refine Call.of_pure (pc) ?_
      | refine ⟨_, pc, ?_⟩
      | (refine allF_i fun b hb => ?_; replace hD := And.intro hb hD; clear hb; simp only [fresh_cons, fresh_nil, and_true, ne_eq, neF] at hD)
      | simp only [appK, appOsK]); try simp only [go_sem, ↓reduceIte, reduceCtorEq, Nat.reduceAdd, Nat.reduceMul, Nat.reduceSub, Nat.reduceLT, Nat.reduceLeDiff, Nat.reduceEqDiff, Nat.reduceBEq, Nat.reduceBneDiff, Int.reduceToNat, Int.toNat_natCast, eq_self, decide_true, decide_false, Int.reduceEq, and_true, true_and, if_false_eq, if_true_eq, List.getElem?_cons_zero, List.getElem?_cons_succ, setAll, List.length_cons, List.length_nil, List.length_set, List.getD_cons_zero, List.getD_cons_succ, Nat.le_refl, Int.le_refl, Nat.beq_refl, or_self, true_or, or_true, List.drop_zero, hD])
      | (refine And.intro (by omega) ?_)
      | (refine ifI (fun hc => ?_) (fun hc => ?_) <;> first | (exfalso; omega) | skip)
      | (first | (apply hK; clear hK K) | (clear hK K; apply hK; clear hK K) | (clear hK K; clear hK K; apply hK; clear hK K) | (clear hK K; clear hK K; clear hK K; apply hK; clear hK K) | (clear hK K; clear hK K; clear hK K; clear hK K; apply hK; clear hK K) | (clear hK K; clear hK K; clear hK K; clear hK K; clear hK K; apply hK; clear hK K))
      | fail
    refine retQ_ret ?_
    simp only [resL_tmp, resL_nil, tupOf, go_sem, ↓reduceIte, reduceCtorEq, Nat.reduceAdd, Nat.reduceMul, Nat.reduceSub, Nat.reduceLT, Nat.reduceLeDiff, Nat.reduceEqDiff, Nat.reduceBEq, Nat.reduceBneDiff, Int.reduceToNat, Int.toNat_natCast, eq_self, decide_true, decide_false, Int.reduceEq, and_true, true_and, if_false_eq, if_true_eq, List.getElem?_cons_zero, List.getElem?_cons_succ, setAll, List.length_cons, List.length_nil, List.length_set, List.getD_cons_zero, List.getD_cons_succ, Nat.le_refl, Int.le_refl, Nat.beq_refl, or_self, true_or, or_true, List.drop_zero, hD]
    exact ⟨_, rfl⟩
  | none =>
    rw [hx] at pc
    unfold hexR at pc
    simp only at pc
    refine Call.enter' (N := 26) (rs := [.tmp 6, .tmp 7]) Tryd.func55 rfl rfl rfl (by decide) rfl ?_; simp only [argT]; have hD : (0 : Nat) = 0 := rfl
    repeat' first
      | (with_reducible refine And.intro (by omega) ?_)
      | (refine SW.seq_k fun K hK => ?_)
      | (refine SW.block ?_)
      | ((first
      | refine SW.region ?_
      | refine SW.regionD (Checked.mixed Tryd.checked) (by kernel_rfl) ?_
      | refine SW.cond ?_
      | refine SW.skip ?_
      | refine SW.exit ?_
      | refine SW.ret ?_
      | refine Call.of_pure (pc) ?_
      | refine ⟨_, pc, ?_⟩
      | (refine allF_i fun b hb => ?_; replace hD := And.intro hb hD; clear hb; simp only [fresh_cons, fresh_nil, and_true, ne_eq, neF] at hD)
      | simp only [appK, appOsK]); try simp only [go_sem, ↓reduceIte, reduceCtorEq, Nat.reduceAdd, Nat.reduceMul, Nat.reduceSub, Nat.reduceLT, Nat.reduceLeDiff, Nat.reduceEqDiff, Nat.reduceBEq, Nat.reduceBneDiff, Int.reduceToNat, Int.toNat_natCast, eq_self, decide_true, decide_false, Int.reduceEq, and_true, true_and, if_false_eq, if_true_eq, List.getElem?_cons_zero, List.getElem?_cons_succ, setAll, List.length_cons, List.length_nil, List.length_set, List.getD_cons_zero, List.getD_cons_succ, Nat.le_refl, Int.le_refl, Nat.beq_refl, or_self, true_or, or_true, List.drop_zero, hD])
      | (refine And.intro (by omega) ?_)
      | (refine ifI (fun hc => ?_) (fun hc => ?_) <;> first | (exfalso; omega) | skip)
      | (first | (apply hK; clear hK K) | (clear hK K; apply hK; clear hK K) | (clear hK K; clear hK K; apply hK; clear hK K) | (clear hK K; clear hK K; clear hK K; apply hK; clear hK K) | (clear hK K; clear hK K; clear hK K; clear hK K; apply hK; clear hK K) | (clear hK K; clear hK K; clear hK K; clear hK K; clear hK K; apply hK; clear hK K))
      | fail
    refine ECall.use te ?_
    rintro r ⟨a, b, rfl⟩
    repeat' first
      | (with_reducible refine And.intro (by omega) ?_)
      | (refine SW.seq_k fun K hK => ?_)
      | (refine SW.block ?_)
      | ((first
      | refine SW.region ?_
      | refine SW.regionD (Checked.mixed Tryd.checked) (by kernel_rfl) ?_
      | refine SW.cond ?_
      | refine SW.skip ?_
      | refine SW.exit ?_
      | refine SW.ret ?_
      | (refine allF_i fun b hb => ?_; replace hD := And.intro hb hD; clear hb; simp only [fresh_cons, fresh_nil, and_true, ne_eq, neF] at hD)
      | simp only [appK, appOsK]); try simp only [go_sem, ↓reduceIte, reduceCtorEq, Nat.reduceAdd, Nat.reduceMul, Nat.reduceSub, Nat.reduceLT, Nat.reduceLeDiff, Nat.reduceEqDiff, Nat.reduceBEq, Nat.reduceBneDiff, Int.reduceToNat, Int.toNat_natCast, eq_self, decide_true, decide_false, Int.reduceEq, and_true, true_and, if_false_eq, if_true_eq, List.getElem?_cons_zero, List.getElem?_cons_succ, setAll, List.length_cons, List.length_nil, List.length_set, List.getD_cons_zero, List.getD_cons_succ, Nat.le_refl, Int.le_refl, Nat.beq_refl, or_self, true_or, or_true, List.drop_zero, hD])
      | (refine And.intro (by omega) ?_)
      | (refine ifI (fun hc => ?_) (fun hc => ?_) <;> first | (exfalso; omega) | skip)
      | (first | (apply hK; clear hK K) | (clear hK K; apply hK; clear hK K) | (clear hK K; clear hK K; apply hK; clear hK K) | (clear hK K; clear hK K; clear hK K; apply hK; clear hK K) | (clear hK K; clear hK K; clear hK K; clear hK K; apply hK; clear hK K) | (clear hK K; clear hK K; clear hK K; clear hK K; clear hK K; apply hK; clear hK K))
      | fail
    refine retQ_ret ?_
    simp only [resL_tmp, resL_nil, tupOf, go_sem, ↓reduceIte, reduceCtorEq, Nat.reduceAdd, Nat.reduceMul, Nat.reduceSub, Nat.reduceLT, Nat.reduceLeDiff, Nat.reduceEqDiff, Nat.reduceBEq, Nat.reduceBneDiff, Int.reduceToNat, Int.toNat_natCast, eq_self, decide_true, decide_false, Int.reduceEq, and_true, true_and, if_false_eq, if_true_eq, List.getElem?_cons_zero, List.getElem?_cons_succ, setAll, List.length_cons, List.length_nil, List.length_set, List.getD_cons_zero, List.getD_cons_succ, Nat.le_refl, Int.le_refl, Nat.beq_refl, or_self, true_or, or_true, List.drop_zero, hD]
    exact ⟨_, rfl⟩
end Go.Proofs.YtpkdknfdhhgbgaaDoor
