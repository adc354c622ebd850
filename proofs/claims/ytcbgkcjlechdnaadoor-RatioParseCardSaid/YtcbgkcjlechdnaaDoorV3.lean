/- Contracts: integer and Parse of the reference. -/
import Derived.Test.YtcbgkcjlechdnaaDoorV2
set_option linter.unusedSimpArgs false
set_option linter.unusedVariables false
set_option linter.unusedSectionVars false
namespace Go.Ab
open Go
/-- What stands behind the first n parts of a function's code. -/
def tlN : Nat → Code → Code
  | 0, c => c
  | n + 1, .seq _ b => tlN n b
  | _, c => c
def codeOf (f : Func) : Code := f.body.getD .skip

/-- The number that digits spell. -/
def digF : Nat → List UInt8 → Option Nat
  | n, [] => some n
  | n, c :: r => if 48 ≤ c.toNat ∧ c.toNat ≤ 57 then digF (n * 10 + (c.toNat - 48)) r else .none
/-- The number that a sign and digits spell. -/
def intD (neg : Bool) (l : List UInt8) : Option Int := if l = [] ∨ 19 < l.length then .none else match digF 0 l with
  | .none => .none
  | some n => if 9223372036854775808 < n ∨ (n = 9223372036854775808 ∧ neg = false) then .none else some (if neg = true then -(n : Int) else n)
def intS (s : ByteArray) : Option Int := if s.data.toList.getD 0 0 = 45 then intD true (s.data.toList.drop 1) else intD false s.data.toList
/-- What integer hands back. -/
def intR (o : Option Int) : SV := match o with
  | some v => .tup [I64 v, SB true]
  | .none => .tup [I64 0, SB false]

theorem u8n {n : Int} (h0 : 0 ≤ n) (h1 : n < 256) : IntKind.u8.wrap n = n := by
  have e : (2 : Int) ^ 8 = 256 := by decide
  show (if (false && decide (n % (2 : Int) ^ 8 ≥ (2 : Int) ^ 7)) = true then n % (2 : Int) ^ 8 - (2 : Int) ^ 8 else n % (2 : Int) ^ 8) = n
  rw [e]
  simp only [Bool.false_and, Bool.false_eq_true, if_false]
  omega
theorem digF_app : ∀ (a b : List UInt8) (n m : Nat), digF n a = some m → digF n (a ++ b) = digF m b
  | [], b, n, m, h => by cases h; rfl
  | c :: a, b, n, m, h => by
    simp only [List.cons_append, digF] at h ⊢
    split at h
    · rw [if_pos (by assumption)]
      exact digF_app a b _ m h
    · cases h

theorem digF_lt : ∀ (l : List UInt8) (n m k : Nat), n < 10 ^ k → digF n l = some m → m < 10 ^ (k + l.length)
  | [], n, m, k, h, e => by cases e; simpa using h
  | c :: r, n, m, k, h, e => by
    simp only [digF] at e
    split at e
    · rename_i hc
      have h2 : n * 10 + (c.toNat - 48) < 10 ^ (k + 1) := by
        rw [Nat.pow_succ]
        omega
      have := digF_lt r _ m (k + 1) h2 e
      rwa [List.length_cons, Nat.add_comm r.length, ← Nat.add_assoc]
    · cases e

theorem digF_step {l : List UInt8} {i n : Nat} (hi : i < l.length) (h : digF 0 (l.take i) = some n) :
    (48 ≤ (l.getD i 0).toNat ∧ (l.getD i 0).toNat ≤ 57 → digF 0 (l.take (i + 1)) = some (n * 10 + ((l.getD i 0).toNat - 48))) ∧
    (¬ (48 ≤ (l.getD i 0).toNat ∧ (l.getD i 0).toNat ≤ 57) → digF 0 l = .none) := by
  have g : l.getD i 0 = l[i] := by simp [List.getD_eq_getElem?_getD, hi]
  refine ⟨fun hc => ?_, fun hn => ?_⟩
  · rw [List.take_add_one, List.getElem?_eq_getElem hi, digF_app _ _ _ _ h, ← g]
    simp only [Option.toList_some, digF]
    rw [if_pos hc]
  · have e2 : l = l.take i ++ (l.getD i 0 :: l.drop (i + 1)) := by
      rw [g, ← List.drop_eq_getElem_cons hi, List.take_append_drop]
    rw [e2, digF_app _ _ _ _ h]
    simp only [digF]
    rw [if_neg hn]
theorem barr_empty {D : ByteArray} : ((D.toList == (⟨#[]⟩ : ByteArray).toList) = true) ↔ D.data.toList = [] := by
  rw [barr_eq]
  constructor
  · intro h; rw [h]
  · intro h
    cases D with
    | mk d =>
      have : d = #[] := Array.toList_inj.1 h
      rw [this]
end Go.Ab
namespace Go.Proofs.YtcbgkcjlechdnaaDoor
open Go Go.Ab
variable [Gl]

set_option maxHeartbeats 1000000 in
set_option maxRecDepth 20000 in
theorem int_tail (s D : ByteArray) (neg : Bool) (hD0 : D.size ≤ 281474976710656) : SW Tryd.prog 66 (tlN 3 (codeOf Tryd.f49)) (retQ Tryd.prog [.tmp 2, .tmp 3] (fun r' h' => r' = intR (intD neg D.data.toList) ∧ h' = [])) ⟨[(4, Str D), (5, SB neg)], []⟩ := by
  conv =>
    arg 3
    whnf
  have hD : (0 : Nat) = 0 := rfl
  have hsl : D.data.toList.length = D.size := Array.length_toList
  cases hE : (D.toList == (⟨#[]⟩ : ByteArray).toList) with
  | true =>
    have hr : intD neg D.data.toList = .none := by rw [intD, if_pos (.inl (barr_empty.1 hE))]
    rw [hr]
    repeat' first
      | (refine SW.seq_k fun K hK => ?_)
      | (refine SW.block ?_)
      | ((first
      | refine SW.region ?_
      | refine SW.regionD (Checked.mixed Tryd.checked) (by kernel_rfl) ?_
      | refine SW.cond ?_
      | refine SW.skip ?_
      | refine SW.exit ?_
      | refine SW.ret ?_
      | (refine allF_i fun b hb => ?_; replace hD := And.intro hb hD; clear hb; simp only [fresh_cons, fresh_nil, and_true, ne_eq, neF] at hD)
      | simp only [appK, appOsK]); try simp only [go_sem, ↓reduceIte, reduceCtorEq, Nat.reduceAdd, Nat.reduceMul, Nat.reduceSub, Nat.reduceLT, Nat.reduceLeDiff, Nat.reduceEqDiff, Nat.reduceBEq, Nat.reduceBneDiff, Int.reduceToNat, Int.toNat_natCast, eq_self, decide_true, decide_false, Int.reduceEq, and_true, true_and, if_false_eq, if_true_eq, List.getElem?_cons_zero, List.getElem?_cons_succ, setAll, List.length_cons, List.length_nil, List.length_set, List.getD_cons_zero, List.getD_cons_succ, Nat.le_refl, Int.le_refl, Nat.beq_refl, or_self, true_or, or_true, List.drop_zero, hD, hE])
      | (refine And.intro (by omega) ?_)
      | (refine ifI (fun hc => ?_) (fun hc => ?_) <;> first | (exfalso; omega) | skip)
      | (first | (apply hK; clear hK K) | (clear hK K; apply hK; clear hK K) | (clear hK K; clear hK K; apply hK; clear hK K) | (clear hK K; clear hK K; clear hK K; apply hK; clear hK K) | (clear hK K; clear hK K; clear hK K; clear hK K; apply hK; clear hK K) | (clear hK K; clear hK K; clear hK K; clear hK K; clear hK K; apply hK; clear hK K))
      | fail
    refine ret_pure ?_; simp only [resL_tmp, resL_nil, tupOf, go_sem, ↓reduceIte, reduceCtorEq, Nat.reduceAdd, Nat.reduceMul, Nat.reduceSub, Nat.reduceLT, Nat.reduceLeDiff, Nat.reduceEqDiff, Nat.reduceBEq, Nat.reduceBneDiff, Int.reduceToNat, Int.toNat_natCast, eq_self, decide_true, decide_false, Int.reduceEq, and_true, true_and, if_false_eq, if_true_eq, List.getElem?_cons_zero, List.getElem?_cons_succ, setAll, List.length_cons, List.length_nil, List.length_set, List.getD_cons_zero, List.getD_cons_succ, Nat.le_refl, Int.le_refl, Nat.beq_refl, or_self, true_or, or_true, List.drop_zero, hD]
    rfl
  | false =>
    have hl : D.data.toList ≠ [] := fun h => by rw [barr_empty.2 h] at hE; cases hE
    by_cases h19 : 19 < D.size
    · have h19i : (19 : Int) < ((D.size : Nat) : Int) := by omega
      have hr : intD neg D.data.toList = .none := by rw [intD, if_pos (.inr (by rw [hsl]; exact h19))]
      rw [hr]
      repeat' first
        | (refine SW.seq_k fun K hK => ?_)
        | (refine SW.block ?_)
        | ((first
      | refine SW.region ?_
      | refine SW.regionD (Checked.mixed Tryd.checked) (by kernel_rfl) ?_
      | refine SW.cond ?_
      | refine SW.skip ?_
      | refine SW.exit ?_
      | refine SW.ret ?_
      | (refine allF_i fun b hb => ?_; replace hD := And.intro hb hD; clear hb; simp only [fresh_cons, fresh_nil, and_true, ne_eq, neF] at hD)
      | simp only [appK, appOsK]); try simp only [go_sem, ↓reduceIte, reduceCtorEq, Nat.reduceAdd, Nat.reduceMul, Nat.reduceSub, Nat.reduceLT, Nat.reduceLeDiff, Nat.reduceEqDiff, Nat.reduceBEq, Nat.reduceBneDiff, Int.reduceToNat, Int.toNat_natCast, eq_self, decide_true, decide_false, Int.reduceEq, and_true, true_and, if_false_eq, if_true_eq, List.getElem?_cons_zero, List.getElem?_cons_succ, setAll, List.length_cons, List.length_nil, List.length_set, List.getD_cons_zero, List.getD_cons_succ, Nat.le_refl, Int.le_refl, Nat.beq_refl, or_self, true_or, or_true, List.drop_zero, hD, hE, h19i])
        | (refine And.intro (by omega) ?_)
        | (refine ifI (fun hc => ?_) (fun hc => ?_) <;> first | (exfalso; omega) | skip)
        | (first | (apply hK; clear hK K) | (clear hK K; apply hK; clear hK K) | (clear hK K; clear hK K; apply hK; clear hK K) | (clear hK K; clear hK K; clear hK K; apply hK; clear hK K) | (clear hK K; clear hK K; clear hK K; clear hK K; apply hK; clear hK K) | (clear hK K; clear hK K; clear hK K; clear hK K; clear hK K; apply hK; clear hK K))
        | fail
      refine ret_pure ?_; simp only [resL_tmp, resL_nil, tupOf, go_sem, ↓reduceIte, reduceCtorEq, Nat.reduceAdd, Nat.reduceMul, Nat.reduceSub, Nat.reduceLT, Nat.reduceLeDiff, Nat.reduceEqDiff, Nat.reduceBEq, Nat.reduceBneDiff, Int.reduceToNat, Int.toNat_natCast, eq_self, decide_true, decide_false, Int.reduceEq, and_true, true_and, if_false_eq, if_true_eq, List.getElem?_cons_zero, List.getElem?_cons_succ, setAll, List.length_cons, List.length_nil, List.length_set, List.getD_cons_zero, List.getD_cons_succ, Nat.le_refl, Int.le_refl, Nat.beq_refl, or_self, true_or, or_true, List.drop_zero, hD]
      rfl
    · have h19i : ¬ (19 : Int) < ((D.size : Nat) : Int) := by omega
      obtain ⟨R, hR⟩ : ∃ R, R = intR (intD neg D.data.toList) := ⟨_, rfl⟩
      rw [← hR]
      rw [intD, if_neg (by rw [hsl]; exact fun h => h.elim hl h19)] at hR
      repeat' first
        | (refine SW.seq_k fun K hK => ?_)
        | ((first
      | refine SW.region ?_
      | refine SW.regionD (Checked.mixed Tryd.checked) (by kernel_rfl) ?_
      | refine SW.cond ?_
      | refine SW.skip ?_
      | refine SW.exit ?_
      | refine SW.ret ?_
      | (refine allF_i fun b hb => ?_; replace hD := And.intro hb hD; clear hb; simp only [fresh_cons, fresh_nil, and_true, ne_eq, neF] at hD)
      | simp only [appK, appOsK]); try simp only [go_sem, ↓reduceIte, reduceCtorEq, Nat.reduceAdd, Nat.reduceMul, Nat.reduceSub, Nat.reduceLT, Nat.reduceLeDiff, Nat.reduceEqDiff, Nat.reduceBEq, Nat.reduceBneDiff, Int.reduceToNat, Int.toNat_natCast, eq_self, decide_true, decide_false, Int.reduceEq, and_true, true_and, if_false_eq, if_true_eq, List.getElem?_cons_zero, List.getElem?_cons_succ, setAll, List.length_cons, List.length_nil, List.length_set, List.getD_cons_zero, List.getD_cons_succ, Nat.le_refl, Int.le_refl, Nat.beq_refl, or_self, true_or, or_true, List.drop_zero, hD, hE, h19i])
        | (refine And.intro (by omega) ?_)
        | (refine ifI (fun hc => ?_) (fun hc => ?_) <;> first | (exfalso; omega) | skip)
        | (first | (apply hK; clear hK K) | (clear hK K; apply hK; clear hK K) | (clear hK K; clear hK K; apply hK; clear hK K) | (clear hK K; clear hK K; clear hK K; apply hK; clear hK K) | (clear hK K; clear hK K; clear hK K; clear hK K; apply hK; clear hK K) | (clear hK K; clear hK K; clear hK K; clear hK K; clear hK K; apply hK; clear hK K))
        | fail
      refine SW.block ?_
      obtain ⟨I, hI⟩ : ∃ I : Nat → St → Prop, ∀ k S, I k S ↔ (∃ i n : Nat, k = D.size - i ∧ i ≤ D.size ∧ digF 0 (D.data.toList.take i) = some n ∧ S = ⟨[(4, Str D), (5, SB neg), (6, U64 n), (7, I64 i)], []⟩) := ⟨fun k S => _, fun _ _ => Iff.rfl⟩
      refine SW.loop' I D.size ((hI _ _).2 ⟨0, 0, rfl, Nat.zero_le _, rfl, rfl⟩) (by repeat' (first | exact rfl | exact trivial | exact int_eq (by omega) | exact int_eq (by (rw [i64_wrap] <;> omega)) | constructor)) ?_
      intro k S hIn
      obtain ⟨i, n, rfl, hi, hn, rfl⟩ := (hI _ _).1 hIn
      clear hIn
      have hn2 : n < 10 ^ i := by
        have h := digF_lt _ 0 n 0 (by decide) hn
        rw [Nat.zero_add, List.length_take] at h
        exact Nat.lt_of_lt_of_le h (Nat.pow_le_pow_right (by decide) (Nat.min_le_left _ _))
      have hp : (10 : Nat) ^ i ≤ 10 ^ 19 := Nat.pow_le_pow_right (by decide) (by omega)
      have hp2 : (10 : Nat) ^ 19 = 10000000000000000000 := by decide
      by_cases hlt : i < D.size
      · obtain ⟨st1, st2⟩ := digF_step (by rw [hsl]; exact hlt) hn
        have hpi : (10 : Nat) ^ (i + 1) ≤ 10 ^ 19 := Nat.pow_le_pow_right (by decide) (by omega)
        have hpe : (10 : Nat) ^ (i + 1) = 10 ^ i * 10 := Nat.pow_succ 10 i
        generalize hcc : D.data.toList.getD i 0 = c at *
        have hlti : (i : Int) < ((D.size : Nat) : Int) := by omega
        have cb := c.toNat_lt
        by_cases hc : 48 ≤ c.toNat ∧ c.toNat ≤ 57
        · have c1 : ¬ ((c.toNat : Nat) : Int) < 48 := by omega
          have c2 : ¬ (57 : Int) < ((c.toNat : Nat) : Int) := by omega
          have e1 : IntKind.u8.wrap (((c.toNat : Nat) : Int) - 48) = ((c.toNat - 48 : Nat) : Int) := by
            rw [u8n (by omega) (by omega)]; omega
          have e2 : IntKind.u64.wrap ((c.toNat - 48 : Nat) : Int) = ((c.toNat - 48 : Nat) : Int) := u64n (by omega) (by omega)
          have e3 : IntKind.u64.wrap ((n : Int) * 10) = ((n * 10 : Nat) : Int) := by rw [u64n (by omega) (by omega)]; omega
          have e4 : IntKind.u64.wrap (((n * 10 : Nat) : Int) + ((c.toNat - 48 : Nat) : Int)) = ((n * 10 + (c.toNat - 48) : Nat) : Int) := by rw [u64n (by omega) (by omega)]; omega
          have e5 : IntKind.i64.wrap ((i : Int) + 1) = ((i + 1 : Nat) : Int) := by rw [i64_wrap (by omega) (by omega)]; omega
          repeat' first
            | (refine SW.seq_k fun K hK => ?_)
            | (refine SW.block ?_)
            | ((first
      | refine SW.region ?_
      | refine SW.regionD (Checked.mixed Tryd.checked) (by kernel_rfl) ?_
      | refine SW.cond ?_
      | refine SW.skip ?_
      | refine SW.exit ?_
      | refine SW.ret ?_
      | (refine allF_i fun b hb => ?_; replace hD := And.intro hb hD; clear hb; simp only [fresh_cons, fresh_nil, and_true, ne_eq, neF] at hD)
      | simp only [appK, appOsK]); try simp only [go_sem, ↓reduceIte, reduceCtorEq, Nat.reduceAdd, Nat.reduceMul, Nat.reduceSub, Nat.reduceLT, Nat.reduceLeDiff, Nat.reduceEqDiff, Nat.reduceBEq, Nat.reduceBneDiff, Int.reduceToNat, Int.toNat_natCast, eq_self, decide_true, decide_false, Int.reduceEq, and_true, true_and, if_false_eq, if_true_eq, List.getElem?_cons_zero, List.getElem?_cons_succ, setAll, List.length_cons, List.length_nil, List.length_set, List.getD_cons_zero, List.getD_cons_succ, Nat.le_refl, Int.le_refl, Nat.beq_refl, or_self, true_or, or_true, List.drop_zero, hD, hlti, hcc, c1, c2, e1, e2, e3, e4, e5])
            | (refine And.intro (by omega) ?_)
            | (refine ifI (fun hc => ?_) (fun hc => ?_) <;> first | (exfalso; omega) | skip)
            | (first | (apply hK; clear hK K) | (clear hK K; apply hK; clear hK K) | (clear hK K; clear hK K; apply hK; clear hK K) | (clear hK K; clear hK K; clear hK K; apply hK; clear hK K) | (clear hK K; clear hK K; clear hK K; clear hK K; apply hK; clear hK K) | (clear hK K; clear hK K; clear hK K; clear hK K; clear hK K; apply hK; clear hK K))
            | fail
          refine Rnd.sub (D.size - (i + 1)) (by omega) ((hI _ _).2 ⟨i + 1, _, rfl, by omega, st1 hc, rfl⟩) (by repeat' (first | exact rfl | exact trivial | exact int_eq (by omega) | exact int_eq (by (rw [i64_wrap] <;> omega)) | constructor))
        · rw [st2 hc] at hR
          have hR2 : R = .tup [I64 0, SB false] := hR
          repeat' first
            | (refine SW.seq_k fun K hK => ?_)
            | (refine SW.block ?_)
            | ((first
      | refine SW.region ?_
      | refine SW.regionD (Checked.mixed Tryd.checked) (by kernel_rfl) ?_
      | refine SW.cond ?_
      | refine SW.skip ?_
      | refine SW.exit ?_
      | refine SW.ret ?_
      | (refine allF_i fun b hb => ?_; replace hD := And.intro hb hD; clear hb; simp only [fresh_cons, fresh_nil, and_true, ne_eq, neF] at hD)
      | simp only [appK, appOsK]); try simp only [go_sem, ↓reduceIte, reduceCtorEq, Nat.reduceAdd, Nat.reduceMul, Nat.reduceSub, Nat.reduceLT, Nat.reduceLeDiff, Nat.reduceEqDiff, Nat.reduceBEq, Nat.reduceBneDiff, Int.reduceToNat, Int.toNat_natCast, eq_self, decide_true, decide_false, Int.reduceEq, and_true, true_and, if_false_eq, if_true_eq, List.getElem?_cons_zero, List.getElem?_cons_succ, setAll, List.length_cons, List.length_nil, List.length_set, List.getD_cons_zero, List.getD_cons_succ, Nat.le_refl, Int.le_refl, Nat.beq_refl, or_self, true_or, or_true, List.drop_zero, hD, hlti, hcc])
            | (refine And.intro (by omega) ?_)
            | (refine ifI (fun hc => ?_) (fun hc => ?_) <;> first | (exfalso; omega) | skip)
            | (first | (apply hK; clear hK K) | (clear hK K; apply hK; clear hK K) | (clear hK K; clear hK K; apply hK; clear hK K) | (clear hK K; clear hK K; clear hK K; apply hK; clear hK K) | (clear hK K; clear hK K; clear hK K; clear hK K; apply hK; clear hK K) | (clear hK K; clear hK K; clear hK K; clear hK K; clear hK K; apply hK; clear hK K))
            | fail
          all_goals
            refine ret_pure ?_; simp only [resL_tmp, resL_nil, tupOf, go_sem, ↓reduceIte, reduceCtorEq, Nat.reduceAdd, Nat.reduceMul, Nat.reduceSub, Nat.reduceLT, Nat.reduceLeDiff, Nat.reduceEqDiff, Nat.reduceBEq, Nat.reduceBneDiff, Int.reduceToNat, Int.toNat_natCast, eq_self, decide_true, decide_false, Int.reduceEq, and_true, true_and, if_false_eq, if_true_eq, List.getElem?_cons_zero, List.getElem?_cons_succ, setAll, List.length_cons, List.length_nil, List.length_set, List.getD_cons_zero, List.getD_cons_succ, Nat.le_refl, Int.le_refl, Nat.beq_refl, or_self, true_or, or_true, List.drop_zero, hD]
            rw [hR2]
      · obtain rfl : i = D.size := by omega
        rw [List.take_of_length_le (by omega)] at hn
        rw [hn] at hR
        simp only at hR
        by_cases h1 : 9223372036854775808 < n
        · have hR2 : R = .tup [I64 0, SB false] := by rw [hR, if_pos (.inl h1)]; rfl
          have h1i : (9223372036854775808 : Int) < (n : Int) := by omega
          repeat' first
            | (refine SW.seq_k fun K hK => ?_)
            | (refine SW.block ?_)
            | ((first
      | refine SW.region ?_
      | refine SW.regionD (Checked.mixed Tryd.checked) (by kernel_rfl) ?_
      | refine SW.cond ?_
      | refine SW.skip ?_
      | refine SW.exit ?_
      | refine SW.ret ?_
      | (refine allF_i fun b hb => ?_; replace hD := And.intro hb hD; clear hb; simp only [fresh_cons, fresh_nil, and_true, ne_eq, neF] at hD)
      | simp only [appK, appOsK]); try simp only [go_sem, ↓reduceIte, reduceCtorEq, Nat.reduceAdd, Nat.reduceMul, Nat.reduceSub, Nat.reduceLT, Nat.reduceLeDiff, Nat.reduceEqDiff, Nat.reduceBEq, Nat.reduceBneDiff, Int.reduceToNat, Int.toNat_natCast, eq_self, decide_true, decide_false, Int.reduceEq, and_true, true_and, if_false_eq, if_true_eq, List.getElem?_cons_zero, List.getElem?_cons_succ, setAll, List.length_cons, List.length_nil, List.length_set, List.getD_cons_zero, List.getD_cons_succ, Nat.le_refl, Int.le_refl, Nat.beq_refl, or_self, true_or, or_true, List.drop_zero, hD, hE, h1i])
            | (refine And.intro (by omega) ?_)
            | (refine ifI (fun hc => ?_) (fun hc => ?_) <;> first | (exfalso; omega) | skip)
            | (first | (apply hK; clear hK K) | (clear hK K; apply hK; clear hK K) | (clear hK K; clear hK K; apply hK; clear hK K) | (clear hK K; clear hK K; clear hK K; apply hK; clear hK K) | (clear hK K; clear hK K; clear hK K; clear hK K; apply hK; clear hK K) | (clear hK K; clear hK K; clear hK K; clear hK K; clear hK K; apply hK; clear hK K))
            | fail
          refine ret_pure ?_; simp only [resL_tmp, resL_nil, tupOf, go_sem, ↓reduceIte, reduceCtorEq, Nat.reduceAdd, Nat.reduceMul, Nat.reduceSub, Nat.reduceLT, Nat.reduceLeDiff, Nat.reduceEqDiff, Nat.reduceBEq, Nat.reduceBneDiff, Int.reduceToNat, Int.toNat_natCast, eq_self, decide_true, decide_false, Int.reduceEq, and_true, true_and, if_false_eq, if_true_eq, List.getElem?_cons_zero, List.getElem?_cons_succ, setAll, List.length_cons, List.length_nil, List.length_set, List.getD_cons_zero, List.getD_cons_succ, Nat.le_refl, Int.le_refl, Nat.beq_refl, or_self, true_or, or_true, List.drop_zero, hD]
          rw [hR2]
        · have h1i : ¬ (9223372036854775808 : Int) < (n : Int) := by omega
          by_cases h2 : n = 9223372036854775808
          · have h2t : decide ((n : Int) = 9223372036854775808) = true := decide_eq_true (by omega)
            cases neg with
            | false =>
              have hR2 : R = .tup [I64 0, SB false] := by rw [hR, if_pos (.inr ⟨h2, rfl⟩)]; rfl
              repeat' first
                | (refine SW.seq_k fun K hK => ?_)
                | (refine SW.block ?_)
                | ((first
      | refine SW.region ?_
      | refine SW.regionD (Checked.mixed Tryd.checked) (by kernel_rfl) ?_
      | refine SW.cond ?_
      | refine SW.skip ?_
      | refine SW.exit ?_
      | refine SW.ret ?_
      | (refine allF_i fun b hb => ?_; replace hD := And.intro hb hD; clear hb; simp only [fresh_cons, fresh_nil, and_true, ne_eq, neF] at hD)
      | simp only [appK, appOsK]); try simp only [go_sem, ↓reduceIte, reduceCtorEq, Nat.reduceAdd, Nat.reduceMul, Nat.reduceSub, Nat.reduceLT, Nat.reduceLeDiff, Nat.reduceEqDiff, Nat.reduceBEq, Nat.reduceBneDiff, Int.reduceToNat, Int.toNat_natCast, eq_self, decide_true, decide_false, Int.reduceEq, and_true, true_and, if_false_eq, if_true_eq, List.getElem?_cons_zero, List.getElem?_cons_succ, setAll, List.length_cons, List.length_nil, List.length_set, List.getD_cons_zero, List.getD_cons_succ, Nat.le_refl, Int.le_refl, Nat.beq_refl, or_self, true_or, or_true, List.drop_zero, hD, hE, h1i, h2t])
                | (refine And.intro (by omega) ?_)
                | (refine ifI (fun hc => ?_) (fun hc => ?_) <;> first | (exfalso; omega) | skip)
                | (first | (apply hK; clear hK K) | (clear hK K; apply hK; clear hK K) | (clear hK K; clear hK K; apply hK; clear hK K) | (clear hK K; clear hK K; clear hK K; apply hK; clear hK K) | (clear hK K; clear hK K; clear hK K; clear hK K; apply hK; clear hK K) | (clear hK K; clear hK K; clear hK K; clear hK K; clear hK K; apply hK; clear hK K))
                | fail
              refine ret_pure ?_; simp only [resL_tmp, resL_nil, tupOf, go_sem, ↓reduceIte, reduceCtorEq, Nat.reduceAdd, Nat.reduceMul, Nat.reduceSub, Nat.reduceLT, Nat.reduceLeDiff, Nat.reduceEqDiff, Nat.reduceBEq, Nat.reduceBneDiff, Int.reduceToNat, Int.toNat_natCast, eq_self, decide_true, decide_false, Int.reduceEq, and_true, true_and, if_false_eq, if_true_eq, List.getElem?_cons_zero, List.getElem?_cons_succ, setAll, List.length_cons, List.length_nil, List.length_set, List.getD_cons_zero, List.getD_cons_succ, Nat.le_refl, Int.le_refl, Nat.beq_refl, or_self, true_or, or_true, List.drop_zero, hD]
              rw [hR2]
            | true =>
              have hR2 : R = .tup [I64 (-(n : Int)), SB true] := by rw [hR, if_neg (by simp [h1])]; rfl
              have e1 : IntKind.i64.wrap (0 - IntKind.i64.wrap (n : Int)) = -(n : Int) := by rw [h2]; decide
              repeat' first
                | (refine SW.seq_k fun K hK => ?_)
                | (refine SW.block ?_)
                | ((first
      | refine SW.region ?_
      | refine SW.regionD (Checked.mixed Tryd.checked) (by kernel_rfl) ?_
      | refine SW.cond ?_
      | refine SW.skip ?_
      | refine SW.exit ?_
      | refine SW.ret ?_
      | (refine allF_i fun b hb => ?_; replace hD := And.intro hb hD; clear hb; simp only [fresh_cons, fresh_nil, and_true, ne_eq, neF] at hD)
      | simp only [appK, appOsK]); try simp only [go_sem, ↓reduceIte, reduceCtorEq, Nat.reduceAdd, Nat.reduceMul, Nat.reduceSub, Nat.reduceLT, Nat.reduceLeDiff, Nat.reduceEqDiff, Nat.reduceBEq, Nat.reduceBneDiff, Int.reduceToNat, Int.toNat_natCast, eq_self, decide_true, decide_false, Int.reduceEq, and_true, true_and, if_false_eq, if_true_eq, List.getElem?_cons_zero, List.getElem?_cons_succ, setAll, List.length_cons, List.length_nil, List.length_set, List.getD_cons_zero, List.getD_cons_succ, Nat.le_refl, Int.le_refl, Nat.beq_refl, or_self, true_or, or_true, List.drop_zero, hD, hE, h1i, h2t, e1])
                | (refine And.intro (by omega) ?_)
                | (refine ifI (fun hc => ?_) (fun hc => ?_) <;> first | (exfalso; omega) | skip)
                | (first | (apply hK; clear hK K) | (clear hK K; apply hK; clear hK K) | (clear hK K; clear hK K; apply hK; clear hK K) | (clear hK K; clear hK K; clear hK K; apply hK; clear hK K) | (clear hK K; clear hK K; clear hK K; clear hK K; apply hK; clear hK K) | (clear hK K; clear hK K; clear hK K; clear hK K; clear hK K; apply hK; clear hK K))
                | fail
              refine ret_pure ?_; simp only [resL_tmp, resL_nil, tupOf, go_sem, ↓reduceIte, reduceCtorEq, Nat.reduceAdd, Nat.reduceMul, Nat.reduceSub, Nat.reduceLT, Nat.reduceLeDiff, Nat.reduceEqDiff, Nat.reduceBEq, Nat.reduceBneDiff, Int.reduceToNat, Int.toNat_natCast, eq_self, decide_true, decide_false, Int.reduceEq, and_true, true_and, if_false_eq, if_true_eq, List.getElem?_cons_zero, List.getElem?_cons_succ, setAll, List.length_cons, List.length_nil, List.length_set, List.getD_cons_zero, List.getD_cons_succ, Nat.le_refl, Int.le_refl, Nat.beq_refl, or_self, true_or, or_true, List.drop_zero, hD]
              rw [hR2]
          · have h2t : decide ((n : Int) = 9223372036854775808) = false := decide_eq_false (by omega)
            have e1 : IntKind.i64.wrap (n : Int) = (n : Int) := i64_wrap (by omega) (by omega)
            have e2 : IntKind.i64.wrap (0 - (n : Int)) = -(n : Int) := by rw [i64_wrap (by omega) (by omega)]; omega
            have hR2 : R = .tup [I64 (if neg = true then -(n : Int) else n), SB true] := by rw [hR, if_neg (by omega)]; rfl
            cases neg with
            | false =>
              repeat' first
                | (refine SW.seq_k fun K hK => ?_)
                | (refine SW.block ?_)
                | ((first
      | refine SW.region ?_
      | refine SW.regionD (Checked.mixed Tryd.checked) (by kernel_rfl) ?_
      | refine SW.cond ?_
      | refine SW.skip ?_
      | refine SW.exit ?_
      | refine SW.ret ?_
      | (refine allF_i fun b hb => ?_; replace hD := And.intro hb hD; clear hb; simp only [fresh_cons, fresh_nil, and_true, ne_eq, neF] at hD)
      | simp only [appK, appOsK]); try simp only [go_sem, ↓reduceIte, reduceCtorEq, Nat.reduceAdd, Nat.reduceMul, Nat.reduceSub, Nat.reduceLT, Nat.reduceLeDiff, Nat.reduceEqDiff, Nat.reduceBEq, Nat.reduceBneDiff, Int.reduceToNat, Int.toNat_natCast, eq_self, decide_true, decide_false, Int.reduceEq, and_true, true_and, if_false_eq, if_true_eq, List.getElem?_cons_zero, List.getElem?_cons_succ, setAll, List.length_cons, List.length_nil, List.length_set, List.getD_cons_zero, List.getD_cons_succ, Nat.le_refl, Int.le_refl, Nat.beq_refl, or_self, true_or, or_true, List.drop_zero, hD, hE, h1i, h2t, e1])
                | (refine And.intro (by omega) ?_)
                | (refine ifI (fun hc => ?_) (fun hc => ?_) <;> first | (exfalso; omega) | skip)
                | (first | (apply hK; clear hK K) | (clear hK K; apply hK; clear hK K) | (clear hK K; clear hK K; apply hK; clear hK K) | (clear hK K; clear hK K; clear hK K; apply hK; clear hK K) | (clear hK K; clear hK K; clear hK K; clear hK K; apply hK; clear hK K) | (clear hK K; clear hK K; clear hK K; clear hK K; clear hK K; apply hK; clear hK K))
                | fail
              refine ret_pure ?_; simp only [resL_tmp, resL_nil, tupOf, go_sem, ↓reduceIte, reduceCtorEq, Nat.reduceAdd, Nat.reduceMul, Nat.reduceSub, Nat.reduceLT, Nat.reduceLeDiff, Nat.reduceEqDiff, Nat.reduceBEq, Nat.reduceBneDiff, Int.reduceToNat, Int.toNat_natCast, eq_self, decide_true, decide_false, Int.reduceEq, and_true, true_and, if_false_eq, if_true_eq, List.getElem?_cons_zero, List.getElem?_cons_succ, setAll, List.length_cons, List.length_nil, List.length_set, List.getD_cons_zero, List.getD_cons_succ, Nat.le_refl, Int.le_refl, Nat.beq_refl, or_self, true_or, or_true, List.drop_zero, hD]
              rw [hR2]; rfl
            | true =>
              repeat' first
                | (refine SW.seq_k fun K hK => ?_)
                | (refine SW.block ?_)
                | ((first
      | refine SW.region ?_
      | refine SW.regionD (Checked.mixed Tryd.checked) (by kernel_rfl) ?_
      | refine SW.cond ?_
      | refine SW.skip ?_
      | refine SW.exit ?_
      | refine SW.ret ?_
      | (refine allF_i fun b hb => ?_; replace hD := And.intro hb hD; clear hb; simp only [fresh_cons, fresh_nil, and_true, ne_eq, neF] at hD)
      | simp only [appK, appOsK]); try simp only [go_sem, ↓reduceIte, reduceCtorEq, Nat.reduceAdd, Nat.reduceMul, Nat.reduceSub, Nat.reduceLT, Nat.reduceLeDiff, Nat.reduceEqDiff, Nat.reduceBEq, Nat.reduceBneDiff, Int.reduceToNat, Int.toNat_natCast, eq_self, decide_true, decide_false, Int.reduceEq, and_true, true_and, if_false_eq, if_true_eq, List.getElem?_cons_zero, List.getElem?_cons_succ, setAll, List.length_cons, List.length_nil, List.length_set, List.getD_cons_zero, List.getD_cons_succ, Nat.le_refl, Int.le_refl, Nat.beq_refl, or_self, true_or, or_true, List.drop_zero, hD, hE, h1i, h2t, e1, e2])
                | (refine And.intro (by omega) ?_)
                | (refine ifI (fun hc => ?_) (fun hc => ?_) <;> first | (exfalso; omega) | skip)
                | (first | (apply hK; clear hK K) | (clear hK K; apply hK; clear hK K) | (clear hK K; clear hK K; apply hK; clear hK K) | (clear hK K; clear hK K; clear hK K; apply hK; clear hK K) | (clear hK K; clear hK K; clear hK K; clear hK K; apply hK; clear hK K) | (clear hK K; clear hK K; clear hK K; clear hK K; clear hK K; apply hK; clear hK K))
                | fail
              refine ret_pure ?_; simp only [resL_tmp, resL_nil, tupOf, go_sem, ↓reduceIte, reduceCtorEq, Nat.reduceAdd, Nat.reduceMul, Nat.reduceSub, Nat.reduceLT, Nat.reduceLeDiff, Nat.reduceEqDiff, Nat.reduceBEq, Nat.reduceBneDiff, Int.reduceToNat, Int.toNat_natCast, eq_self, decide_true, decide_false, Int.reduceEq, and_true, true_and, if_false_eq, if_true_eq, List.getElem?_cons_zero, List.getElem?_cons_succ, setAll, List.length_cons, List.length_nil, List.length_set, List.getD_cons_zero, List.getD_cons_succ, Nat.le_refl, Int.le_refl, Nat.beq_refl, or_self, true_or, or_true, List.drop_zero, hD]
              rw [hR2]; rfl

set_option maxRecDepth 20000 in
theorem integer_r (s : ByteArray) (hs : s.size ≤ 281474976710656) : PCall Tryd.prog 49 [Str s] (intR (intS s)) := by
  have hsl : s.data.toList.length = s.size := Array.length_toList
  unfold intS
  cases hE : (s.toList == (⟨#[]⟩ : ByteArray).toList) with
  | true =>
    have h0 := barr_empty.1 hE
    rw [h0, if_neg (by decide)]
    have it := int_tail s s false hs
    rw [h0] at it
    refine Call.enter' (N := 66) (rs := [.tmp 2, .tmp 3]) Tryd.func49 rfl rfl rfl (by decide) rfl ?_; simp only [argT]; have hD : (0 : Nat) = 0 := rfl
    repeat' first
      | (refine SW.seq_k fun K hK => ?_)
      | (refine SW.block ?_)
      | ((first
      | refine SW.region ?_
      | refine SW.regionZ (id := 1) (Checked.mixed Tryd.checked) ((.one 0 [0, 8, 9] (.one 1 [1, 2, 3, 4, 5, 6, 7, 8, 9] (.one 2 [2, 3, 4, 5, 6, 7, 8, 9] (.one 3 [3, 4, 5, 6, 7, 8, 9] (.one 4 [4, 5, 6, 7, 9] (.one 5 [5, 6, 7, 9] (.one 6 [6, 7, 9] (.one 7 [7, 9] (.one 8 [8, 9] (.one 9 [9] .done)))))))))) : OZ) (by kernel_rfl) ?_
      | refine SW.regionD (Checked.mixed Tryd.checked) (by kernel_rfl) ?_
      | refine SW.cond ?_
      | refine SW.skip ?_
      | refine SW.exit ?_
      | refine SW.ret ?_
      | (refine allF_i fun b hb => ?_; replace hD := And.intro hb hD; clear hb; simp only [fresh_cons, fresh_nil, and_true, ne_eq, neF] at hD)
      | simp only [appK, appOsK]); try simp only [go_sem, ↓reduceIte, reduceCtorEq, Nat.reduceAdd, Nat.reduceMul, Nat.reduceSub, Nat.reduceLT, Nat.reduceLeDiff, Nat.reduceEqDiff, Nat.reduceBEq, Nat.reduceBneDiff, Int.reduceToNat, Int.toNat_natCast, eq_self, decide_true, decide_false, Int.reduceEq, and_true, true_and, if_false_eq, if_true_eq, List.getElem?_cons_zero, List.getElem?_cons_succ, setAll, List.length_cons, List.length_nil, List.length_set, List.getD_cons_zero, List.getD_cons_succ, Nat.le_refl, Int.le_refl, Nat.beq_refl, or_self, true_or, or_true, List.drop_zero, hD, hE])
      | (refine And.intro (by omega) ?_)
      | (refine ifI (fun hc => ?_) (fun hc => ?_) <;> first | (exfalso; omega) | skip)
      | (first | (apply hK; clear hK K) | (clear hK K; apply hK; clear hK K) | (clear hK K; clear hK K; apply hK; clear hK K) | (clear hK K; clear hK K; clear hK K; apply hK; clear hK K) | (clear hK K; clear hK K; clear hK K; clear hK K; apply hK; clear hK K) | (clear hK K; clear hK K; clear hK K; clear hK K; clear hK K; apply hK; clear hK K))
      | (refine And.intro ?_ ?_)
      | fail
    refine ret_pure ?_; simp only [resL_tmp, resL_nil, tupOf, go_sem, ↓reduceIte, reduceCtorEq, Nat.reduceAdd, Nat.reduceMul, Nat.reduceSub, Nat.reduceLT, Nat.reduceLeDiff, Nat.reduceEqDiff, Nat.reduceBEq, Nat.reduceBneDiff, Int.reduceToNat, Int.toNat_natCast, eq_self, decide_true, decide_false, Int.reduceEq, and_true, true_and, if_false_eq, if_true_eq, List.getElem?_cons_zero, List.getElem?_cons_succ, setAll, List.length_cons, List.length_nil, List.length_set, List.getD_cons_zero, List.getD_cons_succ, Nat.le_refl, Int.le_refl, Nat.beq_refl, or_self, true_or, or_true, List.drop_zero, hD]
    rfl
  | false =>
    have h1 : 1 ≤ s.size := by
      rcases Nat.eq_zero_or_pos s.size with h | h
      · rw [← hsl] at h
        rw [barr_empty.2 (List.length_eq_zero_iff.1 h)] at hE
        cases hE
      · exact h
    have h1i : (0 : Int) < ((s.size : Nat) : Int) := by omega
    have h1j : (1 : Int) ≤ ((s.size : Nat) : Int) := by omega
    by_cases hc : s.data.toList.getD 0 0 = 45
    · rw [if_pos hc]
      have hc2 : decide (((s.data.toList.getD 0 0).toNat : Int) = 45) = true := decide_eq_true (by rw [hc]; rfl)
      have hL : (s.extract 1 s.size).data.toList = s.data.toList.drop 1 := by
        rw [ByteArray.data_extract, Array.toList_extract, List.extract_eq_take_drop, List.take_of_length_le (by rw [List.length_drop, hsl]; exact Nat.le_refl _)]
      have it := int_tail s (s.extract 1 s.size) true (by rw [ByteArray.size_extract]; omega)
      rw [hL] at it
      refine Call.enter' (N := 66) (rs := [.tmp 2, .tmp 3]) Tryd.func49 rfl rfl rfl (by decide) rfl ?_; simp only [argT]; have hD : (0 : Nat) = 0 := rfl
      repeat' first
        | (exact SW.le (St.le_sub (by repeat' (first | exact rfl | exact trivial | exact int_eq (by omega) | exact int_eq (by (rw [i64_wrap] <;> omega)) | constructor))) it)
        | (refine SW.seq_k fun K hK => ?_)
        | (refine SW.block ?_)
        | ((first
      | refine SW.region ?_
      | refine SW.regionZ (id := 1) (Checked.mixed Tryd.checked) ((.one 0 [0, 8, 9] (.one 1 [1, 2, 3, 4, 5, 6, 7, 8, 9] (.one 2 [2, 3, 4, 5, 6, 7, 8, 9] (.one 3 [3, 4, 5, 6, 7, 8, 9] (.one 4 [4, 5, 6, 7, 9] (.one 5 [5, 6, 7, 9] (.one 6 [6, 7, 9] (.one 7 [7, 9] (.one 8 [8, 9] (.one 9 [9] .done)))))))))) : OZ) (by kernel_rfl) ?_
      | refine SW.regionD (Checked.mixed Tryd.checked) (by kernel_rfl) ?_
      | refine SW.cond ?_
      | refine SW.skip ?_
      | refine SW.exit ?_
      | refine SW.ret ?_
      | (refine allF_i fun b hb => ?_; replace hD := And.intro hb hD; clear hb; simp only [fresh_cons, fresh_nil, and_true, ne_eq, neF] at hD)
      | simp only [appK, appOsK]); try simp only [go_sem, ↓reduceIte, reduceCtorEq, Nat.reduceAdd, Nat.reduceMul, Nat.reduceSub, Nat.reduceLT, Nat.reduceLeDiff, Nat.reduceEqDiff, Nat.reduceBEq, Nat.reduceBneDiff, Int.reduceToNat, Int.toNat_natCast, eq_self, decide_true, decide_false, Int.reduceEq, and_true, true_and, if_false_eq, if_true_eq, List.getElem?_cons_zero, List.getElem?_cons_succ, setAll, List.length_cons, List.length_nil, List.length_set, List.getD_cons_zero, List.getD_cons_succ, Nat.le_refl, Int.le_refl, Nat.beq_refl, or_self, true_or, or_true, List.drop_zero, hD, hE, hc2, h1i, h1j])
        | (refine And.intro (by omega) ?_)
        | (refine ifI (fun hc => ?_) (fun hc => ?_) <;> first | (exfalso; omega) | skip)
        | (first | (apply hK; clear hK K) | (clear hK K; apply hK; clear hK K) | (clear hK K; clear hK K; apply hK; clear hK K) | (clear hK K; clear hK K; clear hK K; apply hK; clear hK K) | (clear hK K; clear hK K; clear hK K; clear hK K; apply hK; clear hK K) | (clear hK K; clear hK K; clear hK K; clear hK K; clear hK K; apply hK; clear hK K))
        | (refine And.intro ?_ ?_)
        | fail
    · rw [if_neg hc]
      have hc2 : decide (((s.data.toList.getD 0 0).toNat : Int) = 45) = false := decide_eq_false (fun h => hc (by
        have h2 : (s.data.toList.getD 0 0).toNat = 45 := by omega
        exact UInt8.toNat_inj.1 h2))
      have it := int_tail s s false hs
      refine Call.enter' (N := 66) (rs := [.tmp 2, .tmp 3]) Tryd.func49 rfl rfl rfl (by decide) rfl ?_; simp only [argT]; have hD : (0 : Nat) = 0 := rfl
      repeat' first
        | (exact SW.le (St.le_sub (by repeat' (first | exact rfl | exact trivial | exact int_eq (by omega) | exact int_eq (by (rw [i64_wrap] <;> omega)) | constructor))) it)
        | (refine SW.seq_k fun K hK => ?_)
        | (refine SW.block ?_)
        | ((first
      | refine SW.region ?_
      | refine SW.regionZ (id := 1) (Checked.mixed Tryd.checked) ((.one 0 [0, 8, 9] (.one 1 [1, 2, 3, 4, 5, 6, 7, 8, 9] (.one 2 [2, 3, 4, 5, 6, 7, 8, 9] (.one 3 [3, 4, 5, 6, 7, 8, 9] (.one 4 [4, 5, 6, 7, 9] (.one 5 [5, 6, 7, 9] (.one 6 [6, 7, 9] (.one 7 [7, 9] (.one 8 [8, 9] (.one 9 [9] .done)))))))))) : OZ) (by kernel_rfl) ?_
      | refine SW.regionD (Checked.mixed Tryd.checked) (by kernel_rfl) ?_
      | refine SW.cond ?_
      | refine SW.skip ?_
      | refine SW.exit ?_
      | refine SW.ret ?_
      | (refine allF_i fun b hb => ?_; replace hD := And.intro hb hD; clear hb; simp only [fresh_cons, fresh_nil, and_true, ne_eq, neF] at hD)
      | simp only [appK, appOsK]); try simp only [go_sem, ↓reduceIte, reduceCtorEq, Nat.reduceAdd, Nat.reduceMul, Nat.reduceSub, Nat.reduceLT, Nat.reduceLeDiff, Nat.reduceEqDiff, Nat.reduceBEq, Nat.reduceBneDiff, Int.reduceToNat, Int.toNat_natCast, eq_self, decide_true, decide_false, Int.reduceEq, and_true, true_and, if_false_eq, if_true_eq, List.getElem?_cons_zero, List.getElem?_cons_succ, setAll, List.length_cons, List.length_nil, List.length_set, List.getD_cons_zero, List.getD_cons_succ, Nat.le_refl, Int.le_refl, Nat.beq_refl, or_self, true_or, or_true, List.drop_zero, hD, hE, hc2, h1i, h1j])
        | (refine And.intro (by omega) ?_)
        | (refine ifI (fun hc => ?_) (fun hc => ?_) <;> first | (exfalso; omega) | skip)
        | (first | (apply hK; clear hK K) | (clear hK K; apply hK; clear hK K) | (clear hK K; clear hK K; apply hK; clear hK K) | (clear hK K; clear hK K; clear hK K; apply hK; clear hK K) | (clear hK K; clear hK K; clear hK K; clear hK K; apply hK; clear hK K) | (clear hK K; clear hK K; clear hK K; clear hK K; clear hK K; apply hK; clear hK K))
        | (refine And.intro ?_ ?_)
        | fail
end Go.Proofs.YtcbgkcjlechdnaaDoor
