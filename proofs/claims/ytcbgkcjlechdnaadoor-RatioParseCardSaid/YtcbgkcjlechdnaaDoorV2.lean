/- Contract: Parse of the program. -/
import Derived.Test.YtcbgkcjlechdnaaDoorV1
import Derived.Lib.ParseIntBTie
set_option linter.unusedSimpArgs false
set_option linter.unusedVariables false
set_option linter.unusedSectionVars false
namespace Go.Ab
open Go
theorem barr_eq {a b : ByteArray} : ((a.toList == b.toList) = true) ↔ a = b := by
  rw [beq_iff_eq, ByteArray.toList_eq, ByteArray.toList_eq]
  constructor
  · intro h
    have h2 : a.data = b.data := Array.toList_inj.1 h
    cases a; cases b
    simp only at h2
    rw [h2]
  · intro h; rw [h]
end Go.Ab
namespace Go.Proofs.YtcbgkcjlechdnaaDoor
open Go Go.Ab
/-- A number, where a text is one. -/
def pint (s : ByteArray) : Option Int := match Lib.parseIntB 64 s.data.toList with
  | .ok v => some v
  | _ => none
/-- The candidate is kept where its text is the given one. -/
def keepR (s : ByteArray) (c : Option (Int × Int)) : Int × Int × Int := match c with
  | some (n, d) => if okR n d = true ∧ fmtS n d = s then (n, d, 0) else (0, 0, 2)
  | none => (0, 0, 2)
/-- The program's candidate. -/
def candP (s : ByteArray) : Option (Int × Int) := match pint (cutA s 47) with
  | some n => if cutB s 47 = ⟨#[]⟩ then some (n, 1) else match pint (cutB s 47) with
    | some d => some (n, d)
    | none => none
  | none => none
variable [Gl] [Tabs] [ErrVars]

theorem pint_c (s : ByteArray) (hs : s.size ≤ 281474976710656) : ECall Tryd.prog 48 [Str s, I64 10, I64 64] (fun r => (∃ v, pint s = some v ∧ In64 v ∧ r = .tup [I64 v, .sc .nilIface]) ∨ (pint s = none ∧ ∃ n a b, In64 n ∧ r = .tup [I64 n, .sc (.iface a b)])) :=
  (parseInt_c s hs).mono fun r hr => by
    unfold pint
    rcases hr with ⟨v, h1, h2⟩ | ⟨h1, h2⟩
    · refine .inl ⟨v, by rw [h1], ?_, h2⟩
      have := Lib.parseIntB_bounds h1
      unfold In64
      simp only [Nat.reduceSub] at this
      have e : ((2 ^ 63 : Nat) : Int) = 9223372036854775808 := by decide
      omega
    · refine .inr ⟨?_, h2⟩
      split
      · rename_i v hv; exact absurd hv (h1 v)
      · rfl

theorem cutA_size (s : ByteArray) (c : UInt8) : (cutA s c).size ≤ s.size := by
  unfold cutA
  split
  · rw [ByteArray.size_extract]; omega
  · exact Nat.le_refl _
theorem cutB_size (s : ByteArray) (c : UInt8) : (cutB s c).size ≤ s.size := by
  unfold cutB
  split
  · rw [ByteArray.size_extract]; omega
  · exact Nat.zero_le _

/-- The end of Parse: the candidate's text is compared. -/
theorem keep_cases (s : ByteArray) (n d : Int) : (okR n d = true ∧ fmtR n d = (s, 0) ∧ keepR s (some (n, d)) = (n, d, 0)) ∨
    (okR n d = false ∧ fmtR n d = (⟨#[]⟩, 1) ∧ keepR s (some (n, d)) = (0, 0, 2)) ∨ (∃ t, okR n d = true ∧ fmtR n d = (t, 0) ∧ (t.toList == s.toList) = false ∧ keepR s (some (n, d)) = (0, 0, 2)) := by
  unfold fmtR
  have kd : keepR s (some (n, d)) = if okR n d = true ∧ fmtS n d = s then (n, d, 0) else (0, 0, 2) := rfl
  rw [kd]
  cases h : okR n d with
  | false => exact .inr (.inl ⟨rfl, by simp, by simp⟩)
  | true =>
    by_cases h2 : fmtS n d = s
    · exact .inl ⟨rfl, by simp [h2], by simp [h2]⟩
    · refine .inr (.inr ⟨fmtS n d, rfl, by simp, ?_, by simp [h2]⟩)
      rw [Bool.eq_false_iff]
      exact fun x => h2 (barr_eq.1 x)

set_option maxHeartbeats 2000000 in
set_option maxRecDepth 20000 in
theorem parse_p1 (s A B : ByteArray) (found : Bool) (ct : PCall Tryd.prog 47 [Str s, Str ⟨#[47]⟩] (.tup [Str A, Str B, SB found]))
    (pa : ECall Tryd.prog 48 [Str A, I64 10, I64 64] (fun r => (∃ v, pint A = some v ∧ In64 v ∧ r = .tup [I64 v, .sc .nilIface]) ∨ (pint A = none ∧ ∃ n a b, In64 n ∧ r = .tup [I64 n, .sc (.iface a b)])))
    (pb : ECall Tryd.prog 48 [Str B, I64 10, I64 64] (fun r => (∃ v, pint B = some v ∧ In64 v ∧ r = .tup [I64 v, .sc .nilIface]) ∨ (pint B = none ∧ ∃ n a b, In64 n ∧ r = .tup [I64 n, .sc (.iface a b)])))
    (R : Int × Int × Int) (hR : keepR s (match pint A with
      | some n => if B = ⟨#[]⟩ then some (n, 1) else match pint B with
        | some d => some (n, d)
        | none => none
      | none => none) = R) : PCall Tryd.prog 28 [Str s] (FR R) := by
  refine Call.enter' (N := 54) (rs := [.cell 2 24, .tmp 3]) Tryd.func28 rfl rfl rfl (by decide) rfl ?_; simp only [argT]; have hD : (0 : Nat) = 0 := rfl
  repeat' first
    | (refine SW.seq_k fun K hK => ?_)
    | (refine SW.block ?_)
    | ((first
      | refine SW.region ?_
      | refine SW.regionD (Checked.mixed Tryd.checked) (by kernel_rfl) ?_
      | refine SW.cond ?_
      | refine SW.skip ?_
      | refine SW.exit ?_
      | refine SW.ret ?_
      | refine Call.of_pure (ct) ?_
      | refine ⟨_, ct, ?_⟩
      | (refine allF_i fun b hb => ?_; replace hD := And.intro hb hD; clear hb; simp only [fresh_cons, fresh_nil, and_true, ne_eq, neF] at hD)
      | simp only [appK, appOsK]); try simp only [go_sem, ↓reduceIte, reduceCtorEq, Nat.reduceAdd, Nat.reduceMul, Nat.reduceSub, Nat.reduceLT, Nat.reduceLeDiff, Nat.reduceEqDiff, Nat.reduceBEq, Nat.reduceBneDiff, Int.reduceToNat, Int.toNat_natCast, eq_self, decide_true, decide_false, Int.reduceEq, and_true, true_and, if_false_eq, if_true_eq, List.getElem?_cons_zero, List.getElem?_cons_succ, setAll, List.length_cons, List.length_nil, List.length_set, List.getD_cons_zero, List.getD_cons_succ, Nat.le_refl, Int.le_refl, Nat.beq_refl, or_self, true_or, or_true, List.drop_zero, hD])
    | (refine And.intro (by omega) ?_)
    | (refine ifI (fun hc => ?_) (fun hc => ?_) <;> first | (exfalso; omega) | skip)
    | (first | (apply hK; clear hK K) | (clear hK K; apply hK; clear hK K) | (clear hK K; clear hK K; apply hK; clear hK K) | (clear hK K; clear hK K; clear hK K; apply hK; clear hK K) | (clear hK K; clear hK K; clear hK K; clear hK K; apply hK; clear hK K) | (clear hK K; clear hK K; clear hK K; clear hK K; clear hK K; apply hK; clear hK K))
    | fail
  refine ECall.use pa ?_
  rintro r (⟨n, hp, hn, rfl⟩ | ⟨hp, n, a, b, hn, rfl⟩)
  · rw [hp] at hR
    simp only at hR
    simp only [go_sem, ↓reduceIte, reduceCtorEq, Nat.reduceAdd, Nat.reduceMul, Nat.reduceSub, Nat.reduceLT, Nat.reduceLeDiff, Nat.reduceEqDiff, Nat.reduceBEq, Nat.reduceBneDiff, Int.reduceToNat, Int.toNat_natCast, eq_self, decide_true, decide_false, Int.reduceEq, and_true, true_and, if_false_eq, if_true_eq, List.getElem?_cons_zero, List.getElem?_cons_succ, setAll, List.length_cons, List.length_nil, List.length_set, List.getD_cons_zero, List.getD_cons_succ, Nat.le_refl, Int.le_refl, Nat.beq_refl, or_self, true_or, or_true, List.drop_zero, hD]
    by_cases hB : B = ⟨#[]⟩
    · rw [if_pos hB] at hR
      have hb : (B.toList == (⟨#[]⟩ : ByteArray).toList) = true := barr_eq.2 hB
      have fm := format_p n 1 hn (by unfold In64; decide)
      rcases keep_cases s n 1 with ⟨k1, k2, k3⟩ | ⟨k1, k2, k3⟩ | ⟨t, k1, k2, k4, k3⟩
      · rw [k2] at fm
        rw [k3] at hR
        subst hR
        have kk : (s.toList == s.toList) = true := beq_self_eq_true _
        repeat' first
          | (refine SW.seq_k fun K hK => ?_)
          | (refine SW.block ?_)
          | ((first
      | refine SW.region ?_
      | refine SW.regionD (Checked.mixed Tryd.checked) (by kernel_rfl) ?_
      | refine SW.cond ?_
      | refine SW.skip ?_
      | refine SW.exit ?_
      | refine SW.ret ?_
      | refine Call.of_pure (fm) ?_
      | refine ⟨_, fm, ?_⟩
      | (refine allF_i fun b hb => ?_; replace hD := And.intro hb hD; clear hb; simp only [fresh_cons, fresh_nil, and_true, ne_eq, neF] at hD)
      | simp only [appK, appOsK]); try simp only [go_sem, ↓reduceIte, reduceCtorEq, Nat.reduceAdd, Nat.reduceMul, Nat.reduceSub, Nat.reduceLT, Nat.reduceLeDiff, Nat.reduceEqDiff, Nat.reduceBEq, Nat.reduceBneDiff, Int.reduceToNat, Int.toNat_natCast, eq_self, decide_true, decide_false, Int.reduceEq, and_true, true_and, if_false_eq, if_true_eq, List.getElem?_cons_zero, List.getElem?_cons_succ, setAll, List.length_cons, List.length_nil, List.length_set, List.getD_cons_zero, List.getD_cons_succ, Nat.le_refl, Int.le_refl, Nat.beq_refl, or_self, true_or, or_true, List.drop_zero, hD, hb, kk])
          | (refine And.intro (by omega) ?_)
          | (refine ifI (fun hc => ?_) (fun hc => ?_) <;> first | (exfalso; omega) | skip)
          | (first | (apply hK; clear hK K) | (clear hK K; apply hK; clear hK K) | (clear hK K; clear hK K; apply hK; clear hK K) | (clear hK K; clear hK K; clear hK K; apply hK; clear hK K) | (clear hK K; clear hK K; clear hK K; clear hK K; apply hK; clear hK K) | (clear hK K; clear hK K; clear hK K; clear hK K; clear hK K; apply hK; clear hK K))
          | fail
        apply ret_cell (i := 2) (n := 2); exact rfl; (simp only [go_sem, ↓reduceIte, reduceCtorEq, Nat.reduceAdd, Nat.reduceMul, Nat.reduceSub, Nat.reduceLT, Nat.reduceLeDiff, Nat.reduceEqDiff, Nat.reduceBEq, Nat.reduceBneDiff, Int.reduceToNat, Int.toNat_natCast, eq_self, decide_true, decide_false, Int.reduceEq, and_true, true_and, if_false_eq, if_true_eq, List.getElem?_cons_zero, List.getElem?_cons_succ, setAll, List.length_cons, List.length_nil, List.length_set, List.getD_cons_zero, List.getD_cons_succ, Nat.le_refl, Int.le_refl, Nat.beq_refl, or_self, true_or, or_true, List.drop_zero, hD]; try rfl); (first | exact Nat.le_refl _ | decide); simp only [resL_tmp, resL_cellE, resC_ok, resL_nil, tupOf, getN, go_sem, ↓reduceIte, reduceCtorEq, Nat.reduceAdd, Nat.reduceMul, Nat.reduceSub, Nat.reduceLT, Nat.reduceLeDiff, Nat.reduceEqDiff, Nat.reduceBEq, Nat.reduceBneDiff, Int.reduceToNat, Int.toNat_natCast, eq_self, decide_true, decide_false, Int.reduceEq, and_true, true_and, if_false_eq, if_true_eq, List.getElem?_cons_zero, List.getElem?_cons_succ, setAll, List.length_cons, List.length_nil, List.length_set, List.getD_cons_zero, List.getD_cons_succ, Nat.le_refl, Int.le_refl, Nat.beq_refl, or_self, true_or, or_true, List.drop_zero, hD]
      · rw [k2] at fm
        rw [k3] at hR
        subst hR
        repeat' first
          | (refine SW.seq_k fun K hK => ?_)
          | (refine SW.block ?_)
          | ((first
      | refine SW.region ?_
      | refine SW.regionD (Checked.mixed Tryd.checked) (by kernel_rfl) ?_
      | refine SW.cond ?_
      | refine SW.skip ?_
      | refine SW.exit ?_
      | refine SW.ret ?_
      | refine Call.of_pure (fm) ?_
      | refine ⟨_, fm, ?_⟩
      | (refine allF_i fun b hb => ?_; replace hD := And.intro hb hD; clear hb; simp only [fresh_cons, fresh_nil, and_true, ne_eq, neF] at hD)
      | simp only [appK, appOsK]); try simp only [go_sem, ↓reduceIte, reduceCtorEq, Nat.reduceAdd, Nat.reduceMul, Nat.reduceSub, Nat.reduceLT, Nat.reduceLeDiff, Nat.reduceEqDiff, Nat.reduceBEq, Nat.reduceBneDiff, Int.reduceToNat, Int.toNat_natCast, eq_self, decide_true, decide_false, Int.reduceEq, and_true, true_and, if_false_eq, if_true_eq, List.getElem?_cons_zero, List.getElem?_cons_succ, setAll, List.length_cons, List.length_nil, List.length_set, List.getD_cons_zero, List.getD_cons_succ, Nat.le_refl, Int.le_refl, Nat.beq_refl, or_self, true_or, or_true, List.drop_zero, hD, hb])
          | (refine And.intro (by omega) ?_)
          | (refine ifI (fun hc => ?_) (fun hc => ?_) <;> first | (exfalso; omega) | skip)
          | (first | (apply hK; clear hK K) | (clear hK K; apply hK; clear hK K) | (clear hK K; clear hK K; apply hK; clear hK K) | (clear hK K; clear hK K; clear hK K; apply hK; clear hK K) | (clear hK K; clear hK K; clear hK K; clear hK K; apply hK; clear hK K) | (clear hK K; clear hK K; clear hK K; clear hK K; clear hK K; apply hK; clear hK K))
          | fail
        apply ret_cell (i := 2) (n := 2); exact rfl; (simp only [go_sem, ↓reduceIte, reduceCtorEq, Nat.reduceAdd, Nat.reduceMul, Nat.reduceSub, Nat.reduceLT, Nat.reduceLeDiff, Nat.reduceEqDiff, Nat.reduceBEq, Nat.reduceBneDiff, Int.reduceToNat, Int.toNat_natCast, eq_self, decide_true, decide_false, Int.reduceEq, and_true, true_and, if_false_eq, if_true_eq, List.getElem?_cons_zero, List.getElem?_cons_succ, setAll, List.length_cons, List.length_nil, List.length_set, List.getD_cons_zero, List.getD_cons_succ, Nat.le_refl, Int.le_refl, Nat.beq_refl, or_self, true_or, or_true, List.drop_zero, hD]; try rfl); (first | exact Nat.le_refl _ | decide); simp only [resL_tmp, resL_cellE, resC_ok, resL_nil, tupOf, getN, go_sem, ↓reduceIte, reduceCtorEq, Nat.reduceAdd, Nat.reduceMul, Nat.reduceSub, Nat.reduceLT, Nat.reduceLeDiff, Nat.reduceEqDiff, Nat.reduceBEq, Nat.reduceBneDiff, Int.reduceToNat, Int.toNat_natCast, eq_self, decide_true, decide_false, Int.reduceEq, and_true, true_and, if_false_eq, if_true_eq, List.getElem?_cons_zero, List.getElem?_cons_succ, setAll, List.length_cons, List.length_nil, List.length_set, List.getD_cons_zero, List.getD_cons_succ, Nat.le_refl, Int.le_refl, Nat.beq_refl, or_self, true_or, or_true, List.drop_zero, hD]
      · rw [k2] at fm
        rw [k3] at hR
        subst hR
        repeat' first
          | (refine SW.seq_k fun K hK => ?_)
          | (refine SW.block ?_)
          | ((first
      | refine SW.region ?_
      | refine SW.regionD (Checked.mixed Tryd.checked) (by kernel_rfl) ?_
      | refine SW.cond ?_
      | refine SW.skip ?_
      | refine SW.exit ?_
      | refine SW.ret ?_
      | refine Call.of_pure (fm) ?_
      | refine ⟨_, fm, ?_⟩
      | (refine allF_i fun b hb => ?_; replace hD := And.intro hb hD; clear hb; simp only [fresh_cons, fresh_nil, and_true, ne_eq, neF] at hD)
      | simp only [appK, appOsK]); try simp only [go_sem, ↓reduceIte, reduceCtorEq, Nat.reduceAdd, Nat.reduceMul, Nat.reduceSub, Nat.reduceLT, Nat.reduceLeDiff, Nat.reduceEqDiff, Nat.reduceBEq, Nat.reduceBneDiff, Int.reduceToNat, Int.toNat_natCast, eq_self, decide_true, decide_false, Int.reduceEq, and_true, true_and, if_false_eq, if_true_eq, List.getElem?_cons_zero, List.getElem?_cons_succ, setAll, List.length_cons, List.length_nil, List.length_set, List.getD_cons_zero, List.getD_cons_succ, Nat.le_refl, Int.le_refl, Nat.beq_refl, or_self, true_or, or_true, List.drop_zero, hD, hb, k4])
          | (refine And.intro (by omega) ?_)
          | (refine ifI (fun hc => ?_) (fun hc => ?_) <;> first | (exfalso; omega) | skip)
          | (first | (apply hK; clear hK K) | (clear hK K; apply hK; clear hK K) | (clear hK K; clear hK K; apply hK; clear hK K) | (clear hK K; clear hK K; clear hK K; apply hK; clear hK K) | (clear hK K; clear hK K; clear hK K; clear hK K; apply hK; clear hK K) | (clear hK K; clear hK K; clear hK K; clear hK K; clear hK K; apply hK; clear hK K))
          | fail
        apply ret_cell (i := 2) (n := 2); exact rfl; (simp only [go_sem, ↓reduceIte, reduceCtorEq, Nat.reduceAdd, Nat.reduceMul, Nat.reduceSub, Nat.reduceLT, Nat.reduceLeDiff, Nat.reduceEqDiff, Nat.reduceBEq, Nat.reduceBneDiff, Int.reduceToNat, Int.toNat_natCast, eq_self, decide_true, decide_false, Int.reduceEq, and_true, true_and, if_false_eq, if_true_eq, List.getElem?_cons_zero, List.getElem?_cons_succ, setAll, List.length_cons, List.length_nil, List.length_set, List.getD_cons_zero, List.getD_cons_succ, Nat.le_refl, Int.le_refl, Nat.beq_refl, or_self, true_or, or_true, List.drop_zero, hD]; try rfl); (first | exact Nat.le_refl _ | decide); simp only [resL_tmp, resL_cellE, resC_ok, resL_nil, tupOf, getN, go_sem, ↓reduceIte, reduceCtorEq, Nat.reduceAdd, Nat.reduceMul, Nat.reduceSub, Nat.reduceLT, Nat.reduceLeDiff, Nat.reduceEqDiff, Nat.reduceBEq, Nat.reduceBneDiff, Int.reduceToNat, Int.toNat_natCast, eq_self, decide_true, decide_false, Int.reduceEq, and_true, true_and, if_false_eq, if_true_eq, List.getElem?_cons_zero, List.getElem?_cons_succ, setAll, List.length_cons, List.length_nil, List.length_set, List.getD_cons_zero, List.getD_cons_succ, Nat.le_refl, Int.le_refl, Nat.beq_refl, or_self, true_or, or_true, List.drop_zero, hD]
    · rw [if_neg hB] at hR
      have hb : (B.toList == (⟨#[]⟩ : ByteArray).toList) = false := by rw [Bool.eq_false_iff]; exact fun x => hB (barr_eq.1 x)
      repeat' first
        | (refine SW.seq_k fun K hK => ?_)
        | (refine SW.block ?_)
        | ((first
      | refine SW.region ?_
      | refine SW.regionD (Checked.mixed Tryd.checked) (by kernel_rfl) ?_
      | refine SW.cond ?_
      | refine SW.skip ?_
      | refine SW.exit ?_
      | refine SW.ret ?_
      | (refine allF_i fun b hb => ?_; replace hD := And.intro hb hD; clear hb; simp only [fresh_cons, fresh_nil, and_true, ne_eq, neF] at hD)
      | simp only [appK, appOsK]); try simp only [go_sem, ↓reduceIte, reduceCtorEq, Nat.reduceAdd, Nat.reduceMul, Nat.reduceSub, Nat.reduceLT, Nat.reduceLeDiff, Nat.reduceEqDiff, Nat.reduceBEq, Nat.reduceBneDiff, Int.reduceToNat, Int.toNat_natCast, eq_self, decide_true, decide_false, Int.reduceEq, and_true, true_and, if_false_eq, if_true_eq, List.getElem?_cons_zero, List.getElem?_cons_succ, setAll, List.length_cons, List.length_nil, List.length_set, List.getD_cons_zero, List.getD_cons_succ, Nat.le_refl, Int.le_refl, Nat.beq_refl, or_self, true_or, or_true, List.drop_zero, hD, hb])
        | (refine And.intro (by omega) ?_)
        | (refine ifI (fun hc => ?_) (fun hc => ?_) <;> first | (exfalso; omega) | skip)
        | (first | (apply hK; clear hK K) | (clear hK K; apply hK; clear hK K) | (clear hK K; clear hK K; apply hK; clear hK K) | (clear hK K; clear hK K; clear hK K; apply hK; clear hK K) | (clear hK K; clear hK K; clear hK K; clear hK K; apply hK; clear hK K) | (clear hK K; clear hK K; clear hK K; clear hK K; clear hK K; apply hK; clear hK K))
        | fail
      refine ECall.use pb ?_
      rintro r (⟨d, hq, hd, rfl⟩ | ⟨hq, d, a, b, hd, rfl⟩)
      · rw [hq] at hR
        simp only at hR
        simp only [go_sem, ↓reduceIte, reduceCtorEq, Nat.reduceAdd, Nat.reduceMul, Nat.reduceSub, Nat.reduceLT, Nat.reduceLeDiff, Nat.reduceEqDiff, Nat.reduceBEq, Nat.reduceBneDiff, Int.reduceToNat, Int.toNat_natCast, eq_self, decide_true, decide_false, Int.reduceEq, and_true, true_and, if_false_eq, if_true_eq, List.getElem?_cons_zero, List.getElem?_cons_succ, setAll, List.length_cons, List.length_nil, List.length_set, List.getD_cons_zero, List.getD_cons_succ, Nat.le_refl, Int.le_refl, Nat.beq_refl, or_self, true_or, or_true, List.drop_zero, hD]
        have fm := format_p n d hn hd
        rcases keep_cases s n d with ⟨k1, k2, k3⟩ | ⟨k1, k2, k3⟩ | ⟨t, k1, k2, k4, k3⟩
        · rw [k2] at fm
          rw [k3] at hR
          subst hR
          have kk : (s.toList == s.toList) = true := beq_self_eq_true _
          repeat' first
            | (refine SW.seq_k fun K hK => ?_)
            | (refine SW.block ?_)
            | ((first
      | refine SW.region ?_
      | refine SW.regionD (Checked.mixed Tryd.checked) (by kernel_rfl) ?_
      | refine SW.cond ?_
      | refine SW.skip ?_
      | refine SW.exit ?_
      | refine SW.ret ?_
      | refine Call.of_pure (fm) ?_
      | refine ⟨_, fm, ?_⟩
      | (refine allF_i fun b hb => ?_; replace hD := And.intro hb hD; clear hb; simp only [fresh_cons, fresh_nil, and_true, ne_eq, neF] at hD)
      | simp only [appK, appOsK]); try simp only [go_sem, ↓reduceIte, reduceCtorEq, Nat.reduceAdd, Nat.reduceMul, Nat.reduceSub, Nat.reduceLT, Nat.reduceLeDiff, Nat.reduceEqDiff, Nat.reduceBEq, Nat.reduceBneDiff, Int.reduceToNat, Int.toNat_natCast, eq_self, decide_true, decide_false, Int.reduceEq, and_true, true_and, if_false_eq, if_true_eq, List.getElem?_cons_zero, List.getElem?_cons_succ, setAll, List.length_cons, List.length_nil, List.length_set, List.getD_cons_zero, List.getD_cons_succ, Nat.le_refl, Int.le_refl, Nat.beq_refl, or_self, true_or, or_true, List.drop_zero, hD, kk])
            | (refine And.intro (by omega) ?_)
            | (refine ifI (fun hc => ?_) (fun hc => ?_) <;> first | (exfalso; omega) | skip)
            | (first | (apply hK; clear hK K) | (clear hK K; apply hK; clear hK K) | (clear hK K; clear hK K; apply hK; clear hK K) | (clear hK K; clear hK K; clear hK K; apply hK; clear hK K) | (clear hK K; clear hK K; clear hK K; clear hK K; apply hK; clear hK K) | (clear hK K; clear hK K; clear hK K; clear hK K; clear hK K; apply hK; clear hK K))
            | fail
          apply ret_cell (i := 2) (n := 2); exact rfl; (simp only [go_sem, ↓reduceIte, reduceCtorEq, Nat.reduceAdd, Nat.reduceMul, Nat.reduceSub, Nat.reduceLT, Nat.reduceLeDiff, Nat.reduceEqDiff, Nat.reduceBEq, Nat.reduceBneDiff, Int.reduceToNat, Int.toNat_natCast, eq_self, decide_true, decide_false, Int.reduceEq, and_true, true_and, if_false_eq, if_true_eq, List.getElem?_cons_zero, List.getElem?_cons_succ, setAll, List.length_cons, List.length_nil, List.length_set, List.getD_cons_zero, List.getD_cons_succ, Nat.le_refl, Int.le_refl, Nat.beq_refl, or_self, true_or, or_true, List.drop_zero, hD]; try rfl); (first | exact Nat.le_refl _ | decide); simp only [resL_tmp, resL_cellE, resC_ok, resL_nil, tupOf, getN, go_sem, ↓reduceIte, reduceCtorEq, Nat.reduceAdd, Nat.reduceMul, Nat.reduceSub, Nat.reduceLT, Nat.reduceLeDiff, Nat.reduceEqDiff, Nat.reduceBEq, Nat.reduceBneDiff, Int.reduceToNat, Int.toNat_natCast, eq_self, decide_true, decide_false, Int.reduceEq, and_true, true_and, if_false_eq, if_true_eq, List.getElem?_cons_zero, List.getElem?_cons_succ, setAll, List.length_cons, List.length_nil, List.length_set, List.getD_cons_zero, List.getD_cons_succ, Nat.le_refl, Int.le_refl, Nat.beq_refl, or_self, true_or, or_true, List.drop_zero, hD]
        · rw [k2] at fm
          rw [k3] at hR
          subst hR
          repeat' first
            | (refine SW.seq_k fun K hK => ?_)
            | (refine SW.block ?_)
            | ((first
      | refine SW.region ?_
      | refine SW.regionD (Checked.mixed Tryd.checked) (by kernel_rfl) ?_
      | refine SW.cond ?_
      | refine SW.skip ?_
      | refine SW.exit ?_
      | refine SW.ret ?_
      | refine Call.of_pure (fm) ?_
      | refine ⟨_, fm, ?_⟩
      | (refine allF_i fun b hb => ?_; replace hD := And.intro hb hD; clear hb; simp only [fresh_cons, fresh_nil, and_true, ne_eq, neF] at hD)
      | simp only [appK, appOsK]); try simp only [go_sem, ↓reduceIte, reduceCtorEq, Nat.reduceAdd, Nat.reduceMul, Nat.reduceSub, Nat.reduceLT, Nat.reduceLeDiff, Nat.reduceEqDiff, Nat.reduceBEq, Nat.reduceBneDiff, Int.reduceToNat, Int.toNat_natCast, eq_self, decide_true, decide_false, Int.reduceEq, and_true, true_and, if_false_eq, if_true_eq, List.getElem?_cons_zero, List.getElem?_cons_succ, setAll, List.length_cons, List.length_nil, List.length_set, List.getD_cons_zero, List.getD_cons_succ, Nat.le_refl, Int.le_refl, Nat.beq_refl, or_self, true_or, or_true, List.drop_zero, hD])
            | (refine And.intro (by omega) ?_)
            | (refine ifI (fun hc => ?_) (fun hc => ?_) <;> first | (exfalso; omega) | skip)
            | (first | (apply hK; clear hK K) | (clear hK K; apply hK; clear hK K) | (clear hK K; clear hK K; apply hK; clear hK K) | (clear hK K; clear hK K; clear hK K; apply hK; clear hK K) | (clear hK K; clear hK K; clear hK K; clear hK K; apply hK; clear hK K) | (clear hK K; clear hK K; clear hK K; clear hK K; clear hK K; apply hK; clear hK K))
            | fail
          apply ret_cell (i := 2) (n := 2); exact rfl; (simp only [go_sem, ↓reduceIte, reduceCtorEq, Nat.reduceAdd, Nat.reduceMul, Nat.reduceSub, Nat.reduceLT, Nat.reduceLeDiff, Nat.reduceEqDiff, Nat.reduceBEq, Nat.reduceBneDiff, Int.reduceToNat, Int.toNat_natCast, eq_self, decide_true, decide_false, Int.reduceEq, and_true, true_and, if_false_eq, if_true_eq, List.getElem?_cons_zero, List.getElem?_cons_succ, setAll, List.length_cons, List.length_nil, List.length_set, List.getD_cons_zero, List.getD_cons_succ, Nat.le_refl, Int.le_refl, Nat.beq_refl, or_self, true_or, or_true, List.drop_zero, hD]; try rfl); (first | exact Nat.le_refl _ | decide); simp only [resL_tmp, resL_cellE, resC_ok, resL_nil, tupOf, getN, go_sem, ↓reduceIte, reduceCtorEq, Nat.reduceAdd, Nat.reduceMul, Nat.reduceSub, Nat.reduceLT, Nat.reduceLeDiff, Nat.reduceEqDiff, Nat.reduceBEq, Nat.reduceBneDiff, Int.reduceToNat, Int.toNat_natCast, eq_self, decide_true, decide_false, Int.reduceEq, and_true, true_and, if_false_eq, if_true_eq, List.getElem?_cons_zero, List.getElem?_cons_succ, setAll, List.length_cons, List.length_nil, List.length_set, List.getD_cons_zero, List.getD_cons_succ, Nat.le_refl, Int.le_refl, Nat.beq_refl, or_self, true_or, or_true, List.drop_zero, hD]
        · rw [k2] at fm
          rw [k3] at hR
          subst hR
          repeat' first
            | (refine SW.seq_k fun K hK => ?_)
            | (refine SW.block ?_)
            | ((first
      | refine SW.region ?_
      | refine SW.regionD (Checked.mixed Tryd.checked) (by kernel_rfl) ?_
      | refine SW.cond ?_
      | refine SW.skip ?_
      | refine SW.exit ?_
      | refine SW.ret ?_
      | refine Call.of_pure (fm) ?_
      | refine ⟨_, fm, ?_⟩
      | (refine allF_i fun b hb => ?_; replace hD := And.intro hb hD; clear hb; simp only [fresh_cons, fresh_nil, and_true, ne_eq, neF] at hD)
      | simp only [appK, appOsK]); try simp only [go_sem, ↓reduceIte, reduceCtorEq, Nat.reduceAdd, Nat.reduceMul, Nat.reduceSub, Nat.reduceLT, Nat.reduceLeDiff, Nat.reduceEqDiff, Nat.reduceBEq, Nat.reduceBneDiff, Int.reduceToNat, Int.toNat_natCast, eq_self, decide_true, decide_false, Int.reduceEq, and_true, true_and, if_false_eq, if_true_eq, List.getElem?_cons_zero, List.getElem?_cons_succ, setAll, List.length_cons, List.length_nil, List.length_set, List.getD_cons_zero, List.getD_cons_succ, Nat.le_refl, Int.le_refl, Nat.beq_refl, or_self, true_or, or_true, List.drop_zero, hD, k4])
            | (refine And.intro (by omega) ?_)
            | (refine ifI (fun hc => ?_) (fun hc => ?_) <;> first | (exfalso; omega) | skip)
            | (first | (apply hK; clear hK K) | (clear hK K; apply hK; clear hK K) | (clear hK K; clear hK K; apply hK; clear hK K) | (clear hK K; clear hK K; clear hK K; apply hK; clear hK K) | (clear hK K; clear hK K; clear hK K; clear hK K; apply hK; clear hK K) | (clear hK K; clear hK K; clear hK K; clear hK K; clear hK K; apply hK; clear hK K))
            | fail
          apply ret_cell (i := 2) (n := 2); exact rfl; (simp only [go_sem, ↓reduceIte, reduceCtorEq, Nat.reduceAdd, Nat.reduceMul, Nat.reduceSub, Nat.reduceLT, Nat.reduceLeDiff, Nat.reduceEqDiff, Nat.reduceBEq, Nat.reduceBneDiff, Int.reduceToNat, Int.toNat_natCast, eq_self, decide_true, decide_false, Int.reduceEq, and_true, true_and, if_false_eq, if_true_eq, List.getElem?_cons_zero, List.getElem?_cons_succ, setAll, List.length_cons, List.length_nil, List.length_set, List.getD_cons_zero, List.getD_cons_succ, Nat.le_refl, Int.le_refl, Nat.beq_refl, or_self, true_or, or_true, List.drop_zero, hD]; try rfl); (first | exact Nat.le_refl _ | decide); simp only [resL_tmp, resL_cellE, resC_ok, resL_nil, tupOf, getN, go_sem, ↓reduceIte, reduceCtorEq, Nat.reduceAdd, Nat.reduceMul, Nat.reduceSub, Nat.reduceLT, Nat.reduceLeDiff, Nat.reduceEqDiff, Nat.reduceBEq, Nat.reduceBneDiff, Int.reduceToNat, Int.toNat_natCast, eq_self, decide_true, decide_false, Int.reduceEq, and_true, true_and, if_false_eq, if_true_eq, List.getElem?_cons_zero, List.getElem?_cons_succ, setAll, List.length_cons, List.length_nil, List.length_set, List.getD_cons_zero, List.getD_cons_succ, Nat.le_refl, Int.le_refl, Nat.beq_refl, or_self, true_or, or_true, List.drop_zero, hD]
      · rw [hq] at hR
        have hR2 : ((0, 0, 2) : Int × Int × Int) = R := hR
        subst hR2
        simp only [go_sem, ↓reduceIte, reduceCtorEq, Nat.reduceAdd, Nat.reduceMul, Nat.reduceSub, Nat.reduceLT, Nat.reduceLeDiff, Nat.reduceEqDiff, Nat.reduceBEq, Nat.reduceBneDiff, Int.reduceToNat, Int.toNat_natCast, eq_self, decide_true, decide_false, Int.reduceEq, and_true, true_and, if_false_eq, if_true_eq, List.getElem?_cons_zero, List.getElem?_cons_succ, setAll, List.length_cons, List.length_nil, List.length_set, List.getD_cons_zero, List.getD_cons_succ, Nat.le_refl, Int.le_refl, Nat.beq_refl, or_self, true_or, or_true, List.drop_zero, hD]
        repeat' first
          | (refine SW.seq_k fun K hK => ?_)
          | (refine SW.block ?_)
          | ((first
      | refine SW.region ?_
      | refine SW.regionD (Checked.mixed Tryd.checked) (by kernel_rfl) ?_
      | refine SW.cond ?_
      | refine SW.skip ?_
      | refine SW.exit ?_
      | refine SW.ret ?_
      | (refine allF_i fun b hb => ?_; replace hD := And.intro hb hD; clear hb; simp only [fresh_cons, fresh_nil, and_true, ne_eq, neF] at hD)
      | simp only [appK, appOsK]); try simp only [go_sem, ↓reduceIte, reduceCtorEq, Nat.reduceAdd, Nat.reduceMul, Nat.reduceSub, Nat.reduceLT, Nat.reduceLeDiff, Nat.reduceEqDiff, Nat.reduceBEq, Nat.reduceBneDiff, Int.reduceToNat, Int.toNat_natCast, eq_self, decide_true, decide_false, Int.reduceEq, and_true, true_and, if_false_eq, if_true_eq, List.getElem?_cons_zero, List.getElem?_cons_succ, setAll, List.length_cons, List.length_nil, List.length_set, List.getD_cons_zero, List.getD_cons_succ, Nat.le_refl, Int.le_refl, Nat.beq_refl, or_self, true_or, or_true, List.drop_zero, hD])
          | (refine And.intro (by omega) ?_)
          | (refine ifI (fun hc => ?_) (fun hc => ?_) <;> first | (exfalso; omega) | skip)
          | (first | (apply hK; clear hK K) | (clear hK K; apply hK; clear hK K) | (clear hK K; clear hK K; apply hK; clear hK K) | (clear hK K; clear hK K; clear hK K; apply hK; clear hK K) | (clear hK K; clear hK K; clear hK K; clear hK K; apply hK; clear hK K) | (clear hK K; clear hK K; clear hK K; clear hK K; clear hK K; apply hK; clear hK K))
          | fail
        apply ret_cell (i := 2) (n := 2); exact rfl; (simp only [go_sem, ↓reduceIte, reduceCtorEq, Nat.reduceAdd, Nat.reduceMul, Nat.reduceSub, Nat.reduceLT, Nat.reduceLeDiff, Nat.reduceEqDiff, Nat.reduceBEq, Nat.reduceBneDiff, Int.reduceToNat, Int.toNat_natCast, eq_self, decide_true, decide_false, Int.reduceEq, and_true, true_and, if_false_eq, if_true_eq, List.getElem?_cons_zero, List.getElem?_cons_succ, setAll, List.length_cons, List.length_nil, List.length_set, List.getD_cons_zero, List.getD_cons_succ, Nat.le_refl, Int.le_refl, Nat.beq_refl, or_self, true_or, or_true, List.drop_zero, hD]; try rfl); (first | exact Nat.le_refl _ | decide); simp only [resL_tmp, resL_cellE, resC_ok, resL_nil, tupOf, getN, go_sem, ↓reduceIte, reduceCtorEq, Nat.reduceAdd, Nat.reduceMul, Nat.reduceSub, Nat.reduceLT, Nat.reduceLeDiff, Nat.reduceEqDiff, Nat.reduceBEq, Nat.reduceBneDiff, Int.reduceToNat, Int.toNat_natCast, eq_self, decide_true, decide_false, Int.reduceEq, and_true, true_and, if_false_eq, if_true_eq, List.getElem?_cons_zero, List.getElem?_cons_succ, setAll, List.length_cons, List.length_nil, List.length_set, List.getD_cons_zero, List.getD_cons_succ, Nat.le_refl, Int.le_refl, Nat.beq_refl, or_self, true_or, or_true, List.drop_zero, hD]
  · rw [hp] at hR
    have hR2 : ((0, 0, 2) : Int × Int × Int) = R := hR
    subst hR2
    simp only [go_sem, ↓reduceIte, reduceCtorEq, Nat.reduceAdd, Nat.reduceMul, Nat.reduceSub, Nat.reduceLT, Nat.reduceLeDiff, Nat.reduceEqDiff, Nat.reduceBEq, Nat.reduceBneDiff, Int.reduceToNat, Int.toNat_natCast, eq_self, decide_true, decide_false, Int.reduceEq, and_true, true_and, if_false_eq, if_true_eq, List.getElem?_cons_zero, List.getElem?_cons_succ, setAll, List.length_cons, List.length_nil, List.length_set, List.getD_cons_zero, List.getD_cons_succ, Nat.le_refl, Int.le_refl, Nat.beq_refl, or_self, true_or, or_true, List.drop_zero, hD]
    cases hb : (B.toList == (⟨#[]⟩ : ByteArray).toList) with
    | true =>
      repeat' first
        | (refine SW.seq_k fun K hK => ?_)
        | (refine SW.block ?_)
        | ((first
      | refine SW.region ?_
      | refine SW.regionD (Checked.mixed Tryd.checked) (by kernel_rfl) ?_
      | refine SW.cond ?_
      | refine SW.skip ?_
      | refine SW.exit ?_
      | refine SW.ret ?_
      | (refine allF_i fun b hb => ?_; replace hD := And.intro hb hD; clear hb; simp only [fresh_cons, fresh_nil, and_true, ne_eq, neF] at hD)
      | simp only [appK, appOsK]); try simp only [go_sem, ↓reduceIte, reduceCtorEq, Nat.reduceAdd, Nat.reduceMul, Nat.reduceSub, Nat.reduceLT, Nat.reduceLeDiff, Nat.reduceEqDiff, Nat.reduceBEq, Nat.reduceBneDiff, Int.reduceToNat, Int.toNat_natCast, eq_self, decide_true, decide_false, Int.reduceEq, and_true, true_and, if_false_eq, if_true_eq, List.getElem?_cons_zero, List.getElem?_cons_succ, setAll, List.length_cons, List.length_nil, List.length_set, List.getD_cons_zero, List.getD_cons_succ, Nat.le_refl, Int.le_refl, Nat.beq_refl, or_self, true_or, or_true, List.drop_zero, hD, hb])
        | (refine And.intro (by omega) ?_)
        | (refine ifI (fun hc => ?_) (fun hc => ?_) <;> first | (exfalso; omega) | skip)
        | (first | (apply hK; clear hK K) | (clear hK K; apply hK; clear hK K) | (clear hK K; clear hK K; apply hK; clear hK K) | (clear hK K; clear hK K; clear hK K; apply hK; clear hK K) | (clear hK K; clear hK K; clear hK K; clear hK K; apply hK; clear hK K) | (clear hK K; clear hK K; clear hK K; clear hK K; clear hK K; apply hK; clear hK K))
        | fail
      apply ret_cell (i := 2) (n := 2); exact rfl; (simp only [go_sem, ↓reduceIte, reduceCtorEq, Nat.reduceAdd, Nat.reduceMul, Nat.reduceSub, Nat.reduceLT, Nat.reduceLeDiff, Nat.reduceEqDiff, Nat.reduceBEq, Nat.reduceBneDiff, Int.reduceToNat, Int.toNat_natCast, eq_self, decide_true, decide_false, Int.reduceEq, and_true, true_and, if_false_eq, if_true_eq, List.getElem?_cons_zero, List.getElem?_cons_succ, setAll, List.length_cons, List.length_nil, List.length_set, List.getD_cons_zero, List.getD_cons_succ, Nat.le_refl, Int.le_refl, Nat.beq_refl, or_self, true_or, or_true, List.drop_zero, hD]; try rfl); (first | exact Nat.le_refl _ | decide); simp only [resL_tmp, resL_cellE, resC_ok, resL_nil, tupOf, getN, go_sem, ↓reduceIte, reduceCtorEq, Nat.reduceAdd, Nat.reduceMul, Nat.reduceSub, Nat.reduceLT, Nat.reduceLeDiff, Nat.reduceEqDiff, Nat.reduceBEq, Nat.reduceBneDiff, Int.reduceToNat, Int.toNat_natCast, eq_self, decide_true, decide_false, Int.reduceEq, and_true, true_and, if_false_eq, if_true_eq, List.getElem?_cons_zero, List.getElem?_cons_succ, setAll, List.length_cons, List.length_nil, List.length_set, List.getD_cons_zero, List.getD_cons_succ, Nat.le_refl, Int.le_refl, Nat.beq_refl, or_self, true_or, or_true, List.drop_zero, hD]
    | false =>
      repeat' first
        | (refine SW.seq_k fun K hK => ?_)
        | (refine SW.block ?_)
        | ((first
      | refine SW.region ?_
      | refine SW.regionD (Checked.mixed Tryd.checked) (by kernel_rfl) ?_
      | refine SW.cond ?_
      | refine SW.skip ?_
      | refine SW.exit ?_
      | refine SW.ret ?_
      | (refine allF_i fun b hb => ?_; replace hD := And.intro hb hD; clear hb; simp only [fresh_cons, fresh_nil, and_true, ne_eq, neF] at hD)
      | simp only [appK, appOsK]); try simp only [go_sem, ↓reduceIte, reduceCtorEq, Nat.reduceAdd, Nat.reduceMul, Nat.reduceSub, Nat.reduceLT, Nat.reduceLeDiff, Nat.reduceEqDiff, Nat.reduceBEq, Nat.reduceBneDiff, Int.reduceToNat, Int.toNat_natCast, eq_self, decide_true, decide_false, Int.reduceEq, and_true, true_and, if_false_eq, if_true_eq, List.getElem?_cons_zero, List.getElem?_cons_succ, setAll, List.length_cons, List.length_nil, List.length_set, List.getD_cons_zero, List.getD_cons_succ, Nat.le_refl, Int.le_refl, Nat.beq_refl, or_self, true_or, or_true, List.drop_zero, hD, hb])
        | (refine And.intro (by omega) ?_)
        | (refine ifI (fun hc => ?_) (fun hc => ?_) <;> first | (exfalso; omega) | skip)
        | (first | (apply hK; clear hK K) | (clear hK K; apply hK; clear hK K) | (clear hK K; clear hK K; apply hK; clear hK K) | (clear hK K; clear hK K; clear hK K; apply hK; clear hK K) | (clear hK K; clear hK K; clear hK K; clear hK K; apply hK; clear hK K) | (clear hK K; clear hK K; clear hK K; clear hK K; clear hK K; apply hK; clear hK K))
        | fail
      refine ECall.use pb ?_
      rintro r (⟨d, hq, hd, rfl⟩ | ⟨hq, d, a', b', hd, rfl⟩)
      · simp only [go_sem, ↓reduceIte, reduceCtorEq, Nat.reduceAdd, Nat.reduceMul, Nat.reduceSub, Nat.reduceLT, Nat.reduceLeDiff, Nat.reduceEqDiff, Nat.reduceBEq, Nat.reduceBneDiff, Int.reduceToNat, Int.toNat_natCast, eq_self, decide_true, decide_false, Int.reduceEq, and_true, true_and, if_false_eq, if_true_eq, List.getElem?_cons_zero, List.getElem?_cons_succ, setAll, List.length_cons, List.length_nil, List.length_set, List.getD_cons_zero, List.getD_cons_succ, Nat.le_refl, Int.le_refl, Nat.beq_refl, or_self, true_or, or_true, List.drop_zero, hD]
        repeat' first
          | (refine SW.seq_k fun K hK => ?_)
          | (refine SW.block ?_)
          | ((first
      | refine SW.region ?_
      | refine SW.regionD (Checked.mixed Tryd.checked) (by kernel_rfl) ?_
      | refine SW.cond ?_
      | refine SW.skip ?_
      | refine SW.exit ?_
      | refine SW.ret ?_
      | (refine allF_i fun b hb => ?_; replace hD := And.intro hb hD; clear hb; simp only [fresh_cons, fresh_nil, and_true, ne_eq, neF] at hD)
      | simp only [appK, appOsK]); try simp only [go_sem, ↓reduceIte, reduceCtorEq, Nat.reduceAdd, Nat.reduceMul, Nat.reduceSub, Nat.reduceLT, Nat.reduceLeDiff, Nat.reduceEqDiff, Nat.reduceBEq, Nat.reduceBneDiff, Int.reduceToNat, Int.toNat_natCast, eq_self, decide_true, decide_false, Int.reduceEq, and_true, true_and, if_false_eq, if_true_eq, List.getElem?_cons_zero, List.getElem?_cons_succ, setAll, List.length_cons, List.length_nil, List.length_set, List.getD_cons_zero, List.getD_cons_succ, Nat.le_refl, Int.le_refl, Nat.beq_refl, or_self, true_or, or_true, List.drop_zero, hD])
          | (refine And.intro (by omega) ?_)
          | (refine ifI (fun hc => ?_) (fun hc => ?_) <;> first | (exfalso; omega) | skip)
          | (first | (apply hK; clear hK K) | (clear hK K; apply hK; clear hK K) | (clear hK K; clear hK K; apply hK; clear hK K) | (clear hK K; clear hK K; clear hK K; apply hK; clear hK K) | (clear hK K; clear hK K; clear hK K; clear hK K; apply hK; clear hK K) | (clear hK K; clear hK K; clear hK K; clear hK K; clear hK K; apply hK; clear hK K))
          | fail
        apply ret_cell (i := 2) (n := 2); exact rfl; (simp only [go_sem, ↓reduceIte, reduceCtorEq, Nat.reduceAdd, Nat.reduceMul, Nat.reduceSub, Nat.reduceLT, Nat.reduceLeDiff, Nat.reduceEqDiff, Nat.reduceBEq, Nat.reduceBneDiff, Int.reduceToNat, Int.toNat_natCast, eq_self, decide_true, decide_false, Int.reduceEq, and_true, true_and, if_false_eq, if_true_eq, List.getElem?_cons_zero, List.getElem?_cons_succ, setAll, List.length_cons, List.length_nil, List.length_set, List.getD_cons_zero, List.getD_cons_succ, Nat.le_refl, Int.le_refl, Nat.beq_refl, or_self, true_or, or_true, List.drop_zero, hD]; try rfl); (first | exact Nat.le_refl _ | decide); simp only [resL_tmp, resL_cellE, resC_ok, resL_nil, tupOf, getN, go_sem, ↓reduceIte, reduceCtorEq, Nat.reduceAdd, Nat.reduceMul, Nat.reduceSub, Nat.reduceLT, Nat.reduceLeDiff, Nat.reduceEqDiff, Nat.reduceBEq, Nat.reduceBneDiff, Int.reduceToNat, Int.toNat_natCast, eq_self, decide_true, decide_false, Int.reduceEq, and_true, true_and, if_false_eq, if_true_eq, List.getElem?_cons_zero, List.getElem?_cons_succ, setAll, List.length_cons, List.length_nil, List.length_set, List.getD_cons_zero, List.getD_cons_succ, Nat.le_refl, Int.le_refl, Nat.beq_refl, or_self, true_or, or_true, List.drop_zero, hD]
      · simp only [go_sem, ↓reduceIte, reduceCtorEq, Nat.reduceAdd, Nat.reduceMul, Nat.reduceSub, Nat.reduceLT, Nat.reduceLeDiff, Nat.reduceEqDiff, Nat.reduceBEq, Nat.reduceBneDiff, Int.reduceToNat, Int.toNat_natCast, eq_self, decide_true, decide_false, Int.reduceEq, and_true, true_and, if_false_eq, if_true_eq, List.getElem?_cons_zero, List.getElem?_cons_succ, setAll, List.length_cons, List.length_nil, List.length_set, List.getD_cons_zero, List.getD_cons_succ, Nat.le_refl, Int.le_refl, Nat.beq_refl, or_self, true_or, or_true, List.drop_zero, hD]
        repeat' first
          | (refine SW.seq_k fun K hK => ?_)
          | (refine SW.block ?_)
          | ((first
      | refine SW.region ?_
      | refine SW.regionD (Checked.mixed Tryd.checked) (by kernel_rfl) ?_
      | refine SW.cond ?_
      | refine SW.skip ?_
      | refine SW.exit ?_
      | refine SW.ret ?_
      | (refine allF_i fun b hb => ?_; replace hD := And.intro hb hD; clear hb; simp only [fresh_cons, fresh_nil, and_true, ne_eq, neF] at hD)
      | simp only [appK, appOsK]); try simp only [go_sem, ↓reduceIte, reduceCtorEq, Nat.reduceAdd, Nat.reduceMul, Nat.reduceSub, Nat.reduceLT, Nat.reduceLeDiff, Nat.reduceEqDiff, Nat.reduceBEq, Nat.reduceBneDiff, Int.reduceToNat, Int.toNat_natCast, eq_self, decide_true, decide_false, Int.reduceEq, and_true, true_and, if_false_eq, if_true_eq, List.getElem?_cons_zero, List.getElem?_cons_succ, setAll, List.length_cons, List.length_nil, List.length_set, List.getD_cons_zero, List.getD_cons_succ, Nat.le_refl, Int.le_refl, Nat.beq_refl, or_self, true_or, or_true, List.drop_zero, hD])
          | (refine And.intro (by omega) ?_)
          | (refine ifI (fun hc => ?_) (fun hc => ?_) <;> first | (exfalso; omega) | skip)
          | (first | (apply hK; clear hK K) | (clear hK K; apply hK; clear hK K) | (clear hK K; clear hK K; apply hK; clear hK K) | (clear hK K; clear hK K; clear hK K; apply hK; clear hK K) | (clear hK K; clear hK K; clear hK K; clear hK K; apply hK; clear hK K) | (clear hK K; clear hK K; clear hK K; clear hK K; clear hK K; apply hK; clear hK K))
          | fail
        apply ret_cell (i := 2) (n := 2); exact rfl; (simp only [go_sem, ↓reduceIte, reduceCtorEq, Nat.reduceAdd, Nat.reduceMul, Nat.reduceSub, Nat.reduceLT, Nat.reduceLeDiff, Nat.reduceEqDiff, Nat.reduceBEq, Nat.reduceBneDiff, Int.reduceToNat, Int.toNat_natCast, eq_self, decide_true, decide_false, Int.reduceEq, and_true, true_and, if_false_eq, if_true_eq, List.getElem?_cons_zero, List.getElem?_cons_succ, setAll, List.length_cons, List.length_nil, List.length_set, List.getD_cons_zero, List.getD_cons_succ, Nat.le_refl, Int.le_refl, Nat.beq_refl, or_self, true_or, or_true, List.drop_zero, hD]; try rfl); (first | exact Nat.le_refl _ | decide); simp only [resL_tmp, resL_cellE, resC_ok, resL_nil, tupOf, getN, go_sem, ↓reduceIte, reduceCtorEq, Nat.reduceAdd, Nat.reduceMul, Nat.reduceSub, Nat.reduceLT, Nat.reduceLeDiff, Nat.reduceEqDiff, Nat.reduceBEq, Nat.reduceBneDiff, Int.reduceToNat, Int.toNat_natCast, eq_self, decide_true, decide_false, Int.reduceEq, and_true, true_and, if_false_eq, if_true_eq, List.getElem?_cons_zero, List.getElem?_cons_succ, setAll, List.length_cons, List.length_nil, List.length_set, List.getD_cons_zero, List.getD_cons_succ, Nat.le_refl, Int.le_refl, Nat.beq_refl, or_self, true_or, or_true, List.drop_zero, hD]

theorem parse_p (s : ByteArray) (hs : s.size ≤ 281474976710656) : PCall Tryd.prog 28 [Str s] (FR (keepR s (candP s))) :=
  parse_p1 s (cutA s 47) (cutB s 47) _ (cut_c s (by omega)) (pint_c (cutA s 47) (Nat.le_trans (cutA_size s 47) hs)) (pint_c (cutB s 47) (Nat.le_trans (cutB_size s 47) hs)) _ rfl
end Go.Proofs.YtcbgkcjlechdnaaDoor
