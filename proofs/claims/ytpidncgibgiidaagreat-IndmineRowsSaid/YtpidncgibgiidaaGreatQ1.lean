/- Several texts in one: R1, G1, G2, G3, A0, P1, P2, P4, C1. -/
import Derived.Test.YtpidncgibgiidaaGreatB1
import Derived.Test.YtpidncgibgiidaaGreatZ8
import Derived.Test.YtpidncgibgiidaaGreatZ13
import Derived.Test.YtpidncgibgiidaaGreatZ11
import Derived.Test.YtpidncgibgiidaaGreatZ9
import Derived.Test.YtpidncgibgiidaaGreatZ14
set_option linter.unusedSimpArgs false
set_option linter.unusedVariables false
set_option linter.unusedSectionVars false
set_option maxRecDepth 20000
set_option maxHeartbeats 2000000
namespace Go.Ab
open Go
abbrev VS (k n : Int) (s : ByteArray) : SV := .agg [I64 k, I64 n, Str s]
def emp (s : ByteArray) : Bool := s.toList == (⟨#[]⟩ : ByteArray).toList
def vok (k n : Int) (s : ByteArray) : Bool := if k = 0 then decide (n = 0) && emp s else if k = 1 then emp s else if k = 2 then decide (n = 0) && decide (s.size ≤ 200) else if k = 3 then decide (1 ≤ n) && emp s else false
def sgn (a b : Int) : Int := if a < b then -1 else if b < a then 1 else 0
end Go.Ab
namespace Go.Proofs.YtpidncgibgiidaaGreat
open Go Go.Ab
variable [Gl] [Tabs]
theorem valid_p (k n : Int) (s : ByteArray) : PCall Tryz.prog 180 [VS k n s] (SB (vok k n s)) := by
  obtain ⟨R, hR⟩ : ∃ R, R = vok k n s := ⟨_, rfl⟩
  rw [← hR]
  unfold vok emp at hR
  have cs : ((s.size : Nat) : Int) ≤ 200 ↔ s.size ≤ 200 := by omega
  refine Call.enter' (N := 41) (rs := [.tmp 2]) Tryz.func180 rfl rfl rfl (by decide) rfl ?_; simp only [argT]; have hD : (0 : Nat) = 0 := rfl
  repeat' first | (refine SW.seq_k fun K hK => ?_) | (refine SW.block ?_) | ((first | refine SW.region ?_ | refine SW.cond ?_ | refine SW.skip ?_ | refine SW.ret ?_ | (refine allF_i fun b hb => ?_; replace hD := And.intro hb hD; clear hb; try simp only [fresh_cons, fresh_nil, and_true, ne_eq, neF] at hD)); try simp only [go_sem, hD]) | (refine ifI (fun hc => ?_) (fun hc => ?_) <;> first | (exfalso; omega) | skip) | (apply hK; clear hK K)
  all_goals
    refine ret_pure ?_; simp only [resL_tmp, resL_nil, tupOf, go_sem, hD]
    rw [hR]
    simp_all
    first | done | (intro h; exfalso; omega)
theorem valid_r (k n : Int) (s : ByteArray) : PCall Tryz.prog 123 [VS k n s] (SB (vok k n s)) := by
  obtain ⟨R, hR⟩ : ∃ R, R = vok k n s := ⟨_, rfl⟩
  rw [← hR]
  unfold vok emp at hR
  have cs : ((s.size : Nat) : Int) ≤ 200 ↔ s.size ≤ 200 := by omega
  refine Call.enter' (N := 44) (rs := [.tmp 2]) Tryz.func123 rfl rfl rfl (by decide) rfl ?_; simp only [argT]; have hD : (0 : Nat) = 0 := rfl
  repeat' first | (refine SW.seq_k fun K hK => ?_) | (refine SW.block ?_) | ((first | refine SW.region ?_ | refine SW.cond ?_ | refine SW.skip ?_ | refine SW.ret ?_ | (refine allF_i fun b hb => ?_; replace hD := And.intro hb hD; clear hb; try simp only [fresh_cons, fresh_nil, and_true, ne_eq, neF] at hD)); try simp only [go_sem, hD]) | (refine ifI (fun hc => ?_) (fun hc => ?_) <;> first | (exfalso; omega) | skip) | (apply hK; clear hK K)
  all_goals
    refine ret_pure ?_; simp only [resL_tmp, resL_nil, tupOf, go_sem, hD]
    rw [hR]
    simp_all
    first | done | (intro h; exfalso; omega)
theorem sign_r (a b : Int) : PCall Tryz.prog 122 [I64 a, I64 b] (I64 (sgn a b)) := by
  unfold sgn
  refine Call.enter' (N := 11) (rs := [.tmp 4]) Tryz.func122 rfl rfl rfl (by decide) rfl ?_; simp only [argT]; have hD : (0 : Nat) = 0 := rfl
  by_cases h1 : a < b
  · rw [if_pos h1]
    repeat' first | (refine SW.seq_k fun K hK => ?_) | ((first | refine SW.region ?_ | refine SW.cond ?_ | refine SW.ret ?_); try simp only [go_sem, hD, h1]) | (apply hK; clear hK K)
    refine ret_pure ?_; simp only [resL_tmp, resL_nil, tupOf, go_sem, hD]
  · rw [if_neg h1]
    by_cases h2 : b < a
    · rw [if_pos h2]
      repeat' first | (refine SW.seq_k fun K hK => ?_) | ((first | refine SW.region ?_ | refine SW.cond ?_ | refine SW.skip ?_ | refine SW.ret ?_); try simp only [go_sem, hD, h1, h2]) | (apply hK; clear hK K)
      refine ret_pure ?_; simp only [resL_tmp, resL_nil, tupOf, go_sem, hD]
    · rw [if_neg h2]
      repeat' first | (refine SW.seq_k fun K hK => ?_) | ((first | refine SW.region ?_ | refine SW.cond ?_ | refine SW.skip ?_ | refine SW.ret ?_); try simp only [go_sem, hD, h1, h2]) | (apply hK; clear hK K)
      refine ret_pure ?_; simp only [resL_tmp, resL_nil, tupOf, go_sem, hD]
end Go.Proofs.YtpidncgibgiidaaGreat
namespace Go.Ab.A34
open Go Go.Ab
def isL (c : UInt8) : Bool := (decide (97 ≤ c.toNat) && decide (c.toNat ≤ 122)) || ((decide (65 ≤ c.toNat) && decide (c.toNat ≤ 90)) || decide (c.toNat = 95))
def isD (c : UInt8) : Bool := decide (48 ≤ c.toNat) && decide (c.toNat ≤ 57)
def isW (c : UInt8) : Bool := isL c || isD c
def nullL : List UInt8 := [110, 117, 108, 108]
def nameB (l : List UInt8) : Bool := match l with
  | [] => false
  | c :: _ => decide (l.length ≤ 24) && !decide (l = nullL) && isL c && l.all isW
theorem all_step {l : List UInt8} {i : Nat} (h : i < l.length) : (l.drop i).all isW = (isW (l.getD i 0) && (l.drop (i + 1)).all isW) := by
  have g : l.getD i 0 = l[i] := by simp [List.getD_eq_getElem?_getD, h]
  rw [List.drop_eq_getElem_cons h, List.all_cons, g]
theorem all_end {l : List UInt8} {i : Nat} (h : l.length ≤ i) : (l.drop i).all isW = true := by
  rw [List.drop_of_length_le h]
  rfl
theorem ba_ext {a b : ByteArray} (h : a.data.toList = b.data.toList) : a = b := by
  cases a; cases b
  simp only at h
  rw [Array.toList_inj.1 h]
end Go.Ab.A34
namespace Go.Proofs.YtpidncgibgiidaaGreat
open Go Go.Ab Go.Ab.A34
variable [Gl] [Tabs]
abbrev B8 (c : UInt8) : SV := .sc (.int .u8 (c.toNat : Int))
theorem letter_c (c : UInt8) : PCall Tryz.prog 157 [B8 c] (SB (isL c)) := by
  obtain ⟨R, hR⟩ : ∃ R, R = isL c := ⟨_, rfl⟩
  rw [← hR]
  unfold isL at hR
  refine Call.enter' (N := 21) (rs := [.tmp 2]) Tryz.func157 rfl rfl rfl (by decide) rfl ?_; simp only [argT]; have hD : (0 : Nat) = 0 := rfl
  repeat' first | (refine SW.seq_k fun K hK => ?_) | ((first | refine SW.region ?_ | refine SW.ret ?_); try simp only [go_sem, hD]) | (refine ifI (fun hc => ?_) (fun hc => ?_) <;> first | (exfalso; omega) | skip) | (apply hK; clear hK K)
  all_goals
    refine ret_pure ?_; simp only [resL_tmp, resL_nil, tupOf, go_sem, hD]
    rw [hR]
    refine congrArg (fun b => SV.sc (.bool b)) ?_
    rw [Bool.eq_iff_iff]
    simp only [Bool.or_eq_true, Bool.and_eq_true, decide_eq_true_eq, Bool.false_eq_true, true_iff, false_iff]
    omega
theorem len_list (s : ByteArray) : s.data.toList.length = s.size := Array.length_toList
theorem bempty (s : ByteArray) : (s.toList == (⟨#[]⟩ : ByteArray).toList) = decide (s.data.toList = []) := by
  rw [Bool.eq_iff_iff, decide_eq_true_eq, barr_eq]
  constructor
  · intro h; rw [h]
  · intro h; exact ba_ext h
theorem bnull (s : ByteArray) : (s.toList == (⟨#[110, 117, 108, 108]⟩ : ByteArray).toList) = decide (s.data.toList = nullL) := by
  rw [Bool.eq_iff_iff, decide_eq_true_eq, barr_eq]
  constructor
  · intro h; rw [h]; rfl
  · intro h; exact ba_ext h
theorem name_cases (l : List UInt8) : (l = [] ∧ nameB l = false) ∨ (l ≠ [] ∧ ((24 < l.length ∧ nameB l = false) ∨ (l.length ≤ 24 ∧ ((l = nullL ∧ nameB l = false) ∨ (¬ l = nullL ∧ ((isL (l.getD 0 0) = false ∧ nameB l = false) ∨ (isL (l.getD 0 0) = true ∧ nameB l = l.all isW))))))) := by
  cases l with
  | nil => exact .inl ⟨rfl, rfl⟩
  | cons c r =>
    refine .inr ⟨by simp, ?_⟩
    unfold nameB
    simp only
    by_cases h : (c :: r).length ≤ 24
    · refine .inr ⟨h, ?_⟩
      rw [decide_eq_true h, Bool.true_and]
      by_cases h2 : c :: r = nullL
      · exact .inl ⟨h2, by rw [decide_eq_true h2]; rfl⟩
      · refine .inr ⟨h2, ?_⟩
        rw [decide_eq_false h2, Bool.not_false, Bool.true_and]
        show (isL c = false ∧ _) ∨ (isL c = true ∧ _)
        cases isL c with
        | false => exact .inl ⟨rfl, rfl⟩
        | true => exact .inr ⟨rfl, by rw [Bool.true_and]⟩
    · exact .inl ⟨by omega, by rw [decide_eq_false h]; rfl⟩
theorem isName_p (s : ByteArray) : PCall Tryz.prog 163 [Str s] (SB (nameB s.data.toList)) := by
  have ls : s.data.toList.length = s.size := Array.length_toList
  have b1 := bempty s
  have b2 := bnull s
  have h0l := letter_c (s.data.toList.getD 0 0)
  rcases name_cases s.data.toList with ⟨h1, h2⟩ | ⟨h1, ⟨h2, h3⟩ | ⟨h2, ⟨h3, h4⟩ | ⟨h3, h4⟩⟩⟩
  · rw [h2]
    rw [decide_eq_true h1] at b1
    refine Call.enter' (N := 58) (rs := [.tmp 2]) Tryz.func163 rfl rfl rfl (by decide) rfl ?_; simp only [argT]; have hD : (0 : Nat) = 0 := rfl
    repeat' first | (refine SW.seq_k fun K hK => ?_) | ((first | refine SW.region ?_ | refine SW.cond ?_ | refine SW.ret ?_); try simp only [go_sem, hD, b1]) | (apply hK; clear hK K)
    refine ret_pure ?_; simp only [resL_tmp, resL_nil, tupOf, go_sem, hD]
  · rw [h3]
    rw [decide_eq_false h1] at b1
    have h24i : (24 : Int) < ((s.size : Nat) : Int) := by omega
    refine Call.enter' (N := 58) (rs := [.tmp 2]) Tryz.func163 rfl rfl rfl (by decide) rfl ?_; simp only [argT]; have hD : (0 : Nat) = 0 := rfl
    repeat' first | (refine SW.seq_k fun K hK => ?_) | ((first | refine SW.region ?_ | refine SW.cond ?_ | refine SW.ret ?_); try simp only [go_sem, hD, b1, h24i]) | (apply hK; clear hK K)
    refine ret_pure ?_; simp only [resL_tmp, resL_nil, tupOf, go_sem, hD]
  · rw [h4]
    rw [decide_eq_false h1] at b1
    rw [decide_eq_true h3] at b2
    have h24i : ¬ (24 : Int) < ((s.size : Nat) : Int) := by omega
    refine Call.enter' (N := 58) (rs := [.tmp 2]) Tryz.func163 rfl rfl rfl (by decide) rfl ?_; simp only [argT]; have hD : (0 : Nat) = 0 := rfl
    repeat' first | (refine SW.seq_k fun K hK => ?_) | ((first | refine SW.region ?_ | refine SW.cond ?_ | refine SW.ret ?_); try simp only [go_sem, hD, b1, h24i, b2]) | (apply hK; clear hK K)
    refine ret_pure ?_; simp only [resL_tmp, resL_nil, tupOf, go_sem, hD]
  · rw [decide_eq_false h1] at b1
    rw [decide_eq_false h3] at b2
    have h24i : ¬ (24 : Int) < ((s.size : Nat) : Int) := by omega
    obtain ⟨R, hR⟩ : ∃ R, R = nameB s.data.toList := ⟨_, rfl⟩
    rw [← hR] at h4 ⊢
    have h5 : (isL (s.data.toList.getD 0 0) = true ∧ R = (s.data.toList.drop 0).all isW) ∨ (0 = 0 ∧ R = false ∧ isL (s.data.toList.getD 0 0) = false) := by
      rcases h4 with ⟨a, b⟩ | ⟨a, b⟩
      · exact .inr ⟨rfl, b, a⟩
      · exact .inl ⟨a, b⟩
    have h0 : 0 < s.size := by
      rcases Nat.eq_zero_or_pos s.size with h | h
      · exact absurd (List.eq_nil_of_length_eq_zero (by rw [ls]; exact h)) h1
      · exact h
    clear h4 hR
    refine Call.enter' (N := 58) (rs := [.tmp 2]) Tryz.func163 rfl rfl rfl (by decide) rfl ?_; simp only [argT]; have hD : (0 : Nat) = 0 := rfl
    repeat' first | (refine SW.seq_k fun K hK => ?_) | (refine SW.block ?_) | ((first | refine SW.region ?_ | refine SW.cond ?_ | refine SW.skip ?_); try simp only [go_sem, hD, b1, h24i, b2]) | (apply hK; clear hK K)
    obtain ⟨I, hI⟩ : ∃ I : Nat → St → Prop, ∀ k S, I k S ↔ (∃ (i : Nat) , k = s.size - i ∧ i ≤ s.size ∧ ((isL (s.data.toList.getD 0 0) = true ∧ R = (s.data.toList.drop i).all isW) ∨ (i = 0 ∧ R = false ∧ isL (s.data.toList.getD 0 0) = false)) ∧ S = ⟨[(0, Str s), (18, I64 s.size), (19, I64 i)], []⟩) := ⟨fun k S => _, fun _ _ => Iff.rfl⟩
    refine SW.loop' I (s.size) ((hI _ _).2 ⟨0, rfl, Nat.zero_le _, h5, rfl⟩) (by repeat' (first | exact rfl | exact trivial | constructor)) ?_
    intro k S hIn
    obtain ⟨i, rfl, hi, hC, rfl⟩ := (hI _ _).1 hIn
    clear hIn
    have ie : ((i : Nat) : Int).toNat = i := Int.toNat_natCast _
    have i0 : (0 : Int) ≤ ((i : Nat) : Int) := by omega
    clear h5
    by_cases hlt : i < s.size
    · have hli : ((i : Nat) : Int) < (((s.size) : Nat) : Int) := by omega
      have w1 : IntKind.i64.wrap ((i : Int) + 1) = ((i + 1 : Nat) : Int) := by rw [i64_wrap (by omega) (by omega)]; omega
      obtain ⟨c, gc⟩ : ∃ c, s.data.toList.getD i 0 = c := ⟨_, rfl⟩
      have st := all_step (l := s.data.toList) (i := i) (by omega)
      rw [gc] at st
      cases q1 : isL c with
      | true =>
        have hC2 : (isL (s.data.toList.getD 0 0) = true ∧ R = (s.data.toList.drop (i + 1)).all isW) ∨ (i + 1 = 0 ∧ R = false ∧ isL (s.data.toList.getD 0 0) = false) := by
          rcases hC with ⟨a, b⟩ | ⟨rfl, b, d⟩
          · exact .inl ⟨a, by rw [b, st]; unfold isW; rw [q1]; rfl⟩
          · rw [gc, q1] at d
            cases d
        clear hC
        have q2 := q1
        unfold isL at q2
        simp only [Bool.or_eq_true, Bool.and_eq_true, decide_eq_true_eq] at q2
        repeat' first | (refine SW.seq_k fun K hK => ?_) | (refine SW.block ?_) | ((first | refine SW.region ?_ | refine SW.cond ?_ | refine SW.skip ?_); try simp only [go_sem, hD, hli, ie, i0, w1, gc]) | (refine ifI (fun hc => ?_) (fun hc => ?_) <;> first | (exfalso; omega) | skip) | (apply hK; clear hK K)
        all_goals
          refine Rnd.sub (s.size - (i + 1)) (by omega) ((hI _ _).2 ⟨i + 1, rfl, by omega, hC2, rfl⟩) (by repeat' (first | exact rfl | exact trivial | constructor))
      | false =>
        have q2 := q1
        unfold isL at q2
        simp only [Bool.or_eq_false_iff, Bool.and_eq_false_iff, decide_eq_false_iff_not] at q2
        by_cases hz : 0 < i ∧ isD c = true
        · obtain ⟨z1, z2⟩ := hz
          have hC2 : (isL (s.data.toList.getD 0 0) = true ∧ R = (s.data.toList.drop (i + 1)).all isW) ∨ (i + 1 = 0 ∧ R = false ∧ isL (s.data.toList.getD 0 0) = false) := by
            rcases hC with ⟨a, b⟩ | ⟨rfl, b, d⟩
            · exact .inl ⟨a, by rw [b, st]; unfold isW; rw [q1, z2]; rfl⟩
            · exact absurd z1 (Nat.lt_irrefl 0)
          clear hC
          unfold isD at z2
          simp only [Bool.and_eq_true, decide_eq_true_eq] at z2
          have z3 : ¬ ((i : Nat) : Int) = 0 := by omega
          repeat' first | (refine SW.seq_k fun K hK => ?_) | (refine SW.block ?_) | ((first | refine SW.region ?_ | refine SW.cond ?_ | refine SW.skip ?_); try simp only [go_sem, hD, hli, ie, i0, w1, gc, z3]) | (refine ifI (fun hc => ?_) (fun hc => ?_) <;> first | (exfalso; omega) | skip) | (apply hK; clear hK K)
          all_goals
            refine Rnd.sub (s.size - (i + 1)) (by omega) ((hI _ _).2 ⟨i + 1, rfl, by omega, hC2, rfl⟩) (by repeat' (first | exact rfl | exact trivial | constructor))
        · have hC2 : R = false := by
            rcases hC with ⟨a, b⟩ | ⟨rfl, b, d⟩
            · rcases Nat.eq_zero_or_pos i with rfl | h
              · rw [gc, q1] at a
                cases a
              · have : isD c = false := by
                  rw [Bool.eq_false_iff]
                  exact fun x => hz ⟨h, x⟩
                rw [b, st]
                unfold isW
                rw [q1, this]
                rfl
            · exact b
          clear hC
          subst hC2
          rcases Nat.eq_zero_or_pos i with rfl | h
          · repeat' first | (with_reducible refine And.intro (by omega) ?_) | (refine SW.seq_k fun K hK => ?_) | (refine SW.block ?_) | ((first | refine SW.region ?_ | refine SW.cond ?_ | refine SW.skip ?_ | refine SW.ret ?_); try simp only [go_sem, hD, hli, ie, i0, w1, gc]) | (refine ifI (fun hc => ?_) (fun hc => ?_) <;> first | (exfalso; omega) | skip) | (apply hK; clear hK K)
            all_goals
              refine ret_pure ?_; simp only [resL_tmp, resL_nil, tupOf, go_sem, hD]
          · have z2 : isD c = false := by
              rw [Bool.eq_false_iff]
              exact fun x => hz ⟨h, x⟩
            unfold isD at z2
            simp only [Bool.and_eq_false_iff, decide_eq_false_iff_not] at z2
            have z3 : ¬ ((i : Nat) : Int) = 0 := by omega
            repeat' first | (refine SW.seq_k fun K hK => ?_) | (refine SW.block ?_) | ((first | refine SW.region ?_ | refine SW.cond ?_ | refine SW.skip ?_ | refine SW.ret ?_); try simp only [go_sem, hD, hli, ie, i0, w1, gc, z3]) | (refine ifI (fun hc => ?_) (fun hc => ?_) <;> first | (exfalso; omega) | skip) | (apply hK; clear hK K)
            all_goals
              refine ret_pure ?_; simp only [resL_tmp, resL_nil, tupOf, go_sem, hD]
    · have hli : ¬ ((i : Nat) : Int) < (((s.size) : Nat) : Int) := by omega
      have hC2 : R = true := by
        rcases hC with ⟨a, b⟩ | ⟨rfl, b, d⟩
        · rw [b, all_end (l := s.data.toList) (i := i) (by omega)]
        · exfalso; omega
      subst hC2
      repeat' first | (refine SW.seq_k fun K hK => ?_) | ((first | refine SW.region ?_ | refine SW.cond ?_ | refine SW.exit ?_ | refine SW.ret ?_); try simp only [go_sem, hD, hli]) | (apply hK; clear hK K) | (clear hK K; apply hK; clear hK K)
      refine ret_pure ?_; simp only [resL_tmp, resL_nil, tupOf, go_sem, hD]
theorem name_r (s : ByteArray) : PCall Tryz.prog 119 [Str s] (SB (nameB s.data.toList)) := by
  have ls : s.data.toList.length = s.size := Array.length_toList
  have b2 := bnull s
  have h0l := letter_c (s.data.toList.getD 0 0)
  rcases name_cases s.data.toList with ⟨h1, h2⟩ | ⟨h1, h2⟩
  · rw [h2]
    have hz : ((s.size : Nat) : Int) = 0 := by rw [← ls, h1]; rfl
    refine Call.enter' (N := 45) (rs := [.tmp 2]) Tryz.func119 rfl rfl rfl (by decide) rfl ?_; simp only [argT]; have hD : (0 : Nat) = 0 := rfl
    repeat' first | (refine SW.seq_k fun K hK => ?_) | ((first | refine SW.region ?_ | refine SW.cond ?_ | refine SW.ret ?_); try simp only [go_sem, hD, hz]) | (apply hK; clear hK K)
    refine ret_pure ?_; simp only [resL_tmp, resL_nil, tupOf, go_sem, hD]
  · have h0 : 0 < s.size := by
      rcases Nat.eq_zero_or_pos s.size with h | h
      · exact absurd (List.eq_nil_of_length_eq_zero (by rw [ls]; exact h)) h1
      · exact h
    have hz : ¬ ((s.size : Nat) : Int) = 0 := by omega
    have hz1 : (0 : Int) < ((s.size : Nat) : Int) := by omega
    rcases h2 with ⟨h2, h3⟩ | ⟨h2, h3⟩
    · rw [h3]
      have h24i : (24 : Int) < ((s.size : Nat) : Int) := by omega
      refine Call.enter' (N := 45) (rs := [.tmp 2]) Tryz.func119 rfl rfl rfl (by decide) rfl ?_; simp only [argT]; have hD : (0 : Nat) = 0 := rfl
      repeat' first | (refine SW.seq_k fun K hK => ?_) | ((first | refine SW.region ?_ | refine SW.cond ?_ | refine SW.ret ?_); try simp only [go_sem, hD, hz, h24i]) | (apply hK; clear hK K)
      refine ret_pure ?_; simp only [resL_tmp, resL_nil, tupOf, go_sem, hD]
    · have h24i : ¬ (24 : Int) < ((s.size : Nat) : Int) := by omega
      rcases h3 with ⟨h3, h4⟩ | ⟨h3, ⟨h4, h5⟩ | ⟨h4, h5⟩⟩
      · rw [h4]
        rw [decide_eq_true h3] at b2
        cases q : isL (s.data.toList.getD 0 0) with
        | true =>
          rw [q] at h0l
          refine Call.enter' (N := 45) (rs := [.tmp 2]) Tryz.func119 rfl rfl rfl (by decide) rfl ?_; simp only [argT]; have hD : (0 : Nat) = 0 := rfl
          repeat' first | (refine SW.seq_k fun K hK => ?_) | ((first | refine SW.region ?_ | refine SW.cond ?_ | refine SW.ret ?_ | refine Call.of_pure (h0l) ?_); try simp only [go_sem, hD, hz, hz1, h24i, b2]) | (apply hK; clear hK K)
          refine ret_pure ?_; simp only [resL_tmp, resL_nil, tupOf, go_sem, hD]
        | false =>
          rw [q] at h0l
          refine Call.enter' (N := 45) (rs := [.tmp 2]) Tryz.func119 rfl rfl rfl (by decide) rfl ?_; simp only [argT]; have hD : (0 : Nat) = 0 := rfl
          repeat' first | (refine SW.seq_k fun K hK => ?_) | ((first | refine SW.region ?_ | refine SW.cond ?_ | refine SW.ret ?_ | refine Call.of_pure (h0l) ?_); try simp only [go_sem, hD, hz, hz1, h24i, b2]) | (apply hK; clear hK K)
          refine ret_pure ?_; simp only [resL_tmp, resL_nil, tupOf, go_sem, hD]
      · rw [h5]
        rw [h4] at h0l
        refine Call.enter' (N := 45) (rs := [.tmp 2]) Tryz.func119 rfl rfl rfl (by decide) rfl ?_; simp only [argT]; have hD : (0 : Nat) = 0 := rfl
        repeat' first | (refine SW.seq_k fun K hK => ?_) | ((first | refine SW.region ?_ | refine SW.cond ?_ | refine SW.ret ?_ | refine Call.of_pure (h0l) ?_); try simp only [go_sem, hD, hz, hz1, h24i, b2]) | (apply hK; clear hK K)
        refine ret_pure ?_; simp only [resL_tmp, resL_nil, tupOf, go_sem, hD]
      · obtain ⟨R, hR⟩ : ∃ R, R = nameB s.data.toList := ⟨_, rfl⟩
        rw [← hR] at h5 ⊢
        rw [h4] at h0l
        rw [decide_eq_false h3] at b2
        refine Call.enter' (N := 45) (rs := [.tmp 2]) Tryz.func119 rfl rfl rfl (by decide) rfl ?_; simp only [argT]; have hD : (0 : Nat) = 0 := rfl
        repeat' first | (refine SW.seq_k fun K hK => ?_) | (refine SW.block ?_) | ((first | refine SW.region ?_ | refine SW.cond ?_ | refine SW.skip ?_ | refine Call.of_pure (h0l) ?_); try simp only [go_sem, hD, hz, hz1, h24i, b2]) | (apply hK; clear hK K)
        obtain ⟨I, hI⟩ : ∃ I : Nat → St → Prop, ∀ k S, I k S ↔ (∃ (i : Nat) , k = s.size - i ∧ i ≤ s.size ∧ R = (s.data.toList.drop i).all isW ∧ S = ⟨[(0, Str s), (3, I64 i)], []⟩) := ⟨fun k S => _, fun _ _ => Iff.rfl⟩
        refine SW.loop' I (s.size) ((hI _ _).2 ⟨0, rfl, Nat.zero_le _, h5, rfl⟩) (by repeat' (first | exact rfl | exact trivial | constructor)) ?_
        intro k S hIn
        obtain ⟨i, rfl, hi, hC, rfl⟩ := (hI _ _).1 hIn
        clear hIn
        have ie : ((i : Nat) : Int).toNat = i := Int.toNat_natCast _
        have i0 : (0 : Int) ≤ ((i : Nat) : Int) := by omega
        clear h5 hR
        by_cases hlt : i < s.size
        · have hli : ((i : Nat) : Int) < (((s.size) : Nat) : Int) := by omega
          have w1 : IntKind.i64.wrap ((i : Int) + 1) = ((i + 1 : Nat) : Int) := by rw [i64_wrap (by omega) (by omega)]; omega
          rw [all_step (by omega)] at hC
          obtain ⟨c, gc⟩ : ∃ c, s.data.toList.getD i 0 = c := ⟨_, rfl⟩
          rw [gc] at hC
          have lc := letter_c c
          cases q1 : isL c with
          | true =>
            rw [q1] at lc
            have hC2 : R = (s.data.toList.drop (i + 1)).all isW := by rw [hC]; unfold isW; rw [q1]; rfl
            repeat' first | (refine SW.seq_k fun K hK => ?_) | (refine SW.block ?_) | ((first | refine SW.region ?_ | refine SW.cond ?_ | refine SW.skip ?_ | refine Call.of_pure (lc) ?_); try simp only [go_sem, hD, hli, ie, i0, w1, gc]) | (apply hK; clear hK K)
            refine Rnd.sub (s.size - (i + 1)) (by omega) ((hI _ _).2 ⟨i + 1, rfl, by omega, hC2, rfl⟩) (by repeat' (first | exact rfl | exact trivial | constructor))
          | false =>
            rw [q1] at lc
            cases q2 : isD c with
            | true =>
              have hC2 : R = (s.data.toList.drop (i + 1)).all isW := by rw [hC]; unfold isW; rw [q1, q2]; rfl
              unfold isD at q2
              simp only [Bool.and_eq_true, decide_eq_true_eq] at q2
              repeat' first | (refine SW.seq_k fun K hK => ?_) | (refine SW.block ?_) | ((first | refine SW.region ?_ | refine SW.cond ?_ | refine SW.skip ?_ | refine Call.of_pure (lc) ?_); try simp only [go_sem, hD, hli, ie, i0, w1, gc]) | (refine ifI (fun hc => ?_) (fun hc => ?_) <;> first | (exfalso; omega) | skip) | (apply hK; clear hK K)
              refine Rnd.sub (s.size - (i + 1)) (by omega) ((hI _ _).2 ⟨i + 1, rfl, by omega, hC2, rfl⟩) (by repeat' (first | exact rfl | exact trivial | constructor))
            | false =>
              have hC2 : R = false := by rw [hC]; unfold isW; rw [q1, q2]; rfl
              subst hC2
              unfold isD at q2
              simp only [Bool.and_eq_false_iff, decide_eq_false_iff_not] at q2
              repeat' first | (refine SW.seq_k fun K hK => ?_) | (refine SW.block ?_) | ((first | refine SW.region ?_ | refine SW.cond ?_ | refine SW.skip ?_ | refine SW.ret ?_ | refine Call.of_pure (lc) ?_); try simp only [go_sem, hD, hli, ie, i0, w1, gc]) | (refine ifI (fun hc => ?_) (fun hc => ?_) <;> first | (exfalso; omega) | skip) | (apply hK; clear hK K)
              all_goals
                refine ret_pure ?_; simp only [resL_tmp, resL_nil, tupOf, go_sem, hD]
        · have hli : ¬ ((i : Nat) : Int) < (((s.size) : Nat) : Int) := by omega
          rw [all_end (l := s.data.toList) (i := i) (by omega)] at hC
          subst hC
          repeat' first | (refine SW.seq_k fun K hK => ?_) | ((first | refine SW.region ?_ | refine SW.cond ?_ | refine SW.exit ?_ | refine SW.ret ?_); try simp only [go_sem, hD, hli]) | (apply hK; clear hK K) | (clear hK K; apply hK; clear hK K)
          refine ret_pure ?_; simp only [resL_tmp, resL_nil, tupOf, go_sem, hD]
end Go.Proofs.YtpidncgibgiidaaGreat
namespace Go.Ab.A34
open Go Go.Ab
def posS (x : ByteArray) : Nat → List ByteArray → Int
  | _, [] => -1
  | i, y :: l => if x = y then (i : Int) else posS x (i + 1) l
theorem posS_step {x : ByteArray} {l : List ByteArray} {i : Nat} (h : i < l.length) : posS x i (l.drop i) = if x = l.getD i ⟨#[]⟩ then (i : Int) else posS x (i + 1) (l.drop (i + 1)) := by
  have g : l.getD i ⟨#[]⟩ = l[i] := by simp [List.getD_eq_getElem?_getD, h]
  rw [List.drop_eq_getElem_cons h, g]
  rfl
def namesF (l : List ByteArray) : Nat → Nat → Bool
  | 0, _ => true
  | g + 1, i => nameB (l.getD i ⟨#[]⟩).data.toList && (!decide (0 ≤ posS (l.getD i ⟨#[]⟩) 0 (l.take i))) && namesF l g (i + 1)
def namesB (l : List ByteArray) : Bool := namesF l l.length 0
def sF (l : List ByteArray) (i : Nat) : List SV := [.sc (.string (l.getD i ⟨#[]⟩))]
abbrev SL (l : List ByteArray) : SV := .fl l.length 1 (sF l)
theorem getD_take {α : Type} (l : List α) (n i : Nat) (d : α) (h : i < n) : (l.take n).getD i d = l.getD i d := by
  rw [List.getD_eq_getElem?_getD, List.getD_eq_getElem?_getD, List.getElem?_take, if_pos h]
end Go.Ab.A34
namespace Go.Proofs.YtpidncgibgiidaaGreat
open Go Go.Ab Go.Ab.A34
variable [Gl] [Tabs]
theorem index_c (x : ByteArray) (l : List ByteArray) (n : Nat) (hl : n ≤ 1000000) (hn : l.length = n) (f : Nat → List SV) (hf : ∀ i, i < n → f i = [Str (l.getD i ⟨#[]⟩)]) : PCall Tryz.prog 192 [.fl n 1 f, Str x] (I64 (posS x 0 l)) := by
  subst hn
  obtain ⟨R, hR⟩ : ∃ R, R = posS x 0 l := ⟨_, rfl⟩
  rw [← hR]
  refine Call.enter' (N := 19) (rs := [.tmp 4]) Tryz.func192 rfl rfl rfl (by decide) rfl ?_; simp only [argT]; have hD : (0 : Nat) = 0 := rfl
  repeat' first | (refine SW.seq_k fun K hK => ?_) | (refine SW.block ?_) | (refine SW.region ?_; try simp only [go_sem, hD]) | (apply hK; clear hK K)
  obtain ⟨I, hI⟩ : ∃ I : Nat → St → Prop, ∀ k S, I k S ↔ (∃ (i : Nat) , k = l.length - i ∧ i ≤ l.length ∧ R = posS x i (l.drop i) ∧ S = ⟨[(0, .fl l.length 1 f), (1, Str x), (7, I64 l.length), (8, I64 i)], []⟩) := ⟨fun k S => _, fun _ _ => Iff.rfl⟩
  refine SW.loop' I (l.length) ((hI _ _).2 ⟨0, rfl, Nat.zero_le _, by rw [List.drop_zero]; exact hR, rfl⟩) (by repeat' (first | exact rfl | exact trivial | constructor)) ?_
  intro k S hIn
  obtain ⟨i, rfl, hi, hC, rfl⟩ := (hI _ _).1 hIn
  clear hIn
  have ie : ((i : Nat) : Int).toNat = i := Int.toNat_natCast _
  have i0 : (0 : Int) ≤ ((i : Nat) : Int) := by omega
  clear hR
  by_cases hlt : i < l.length
  · have hli : ((i : Nat) : Int) < (((l.length) : Nat) : Int) := by omega
    have w1 : IntKind.i64.wrap ((i : Int) + 1) = ((i + 1 : Nat) : Int) := by rw [i64_wrap (by omega) (by omega)]; omega
    rw [posS_step hlt] at hC
    have fi := hf i hlt
    by_cases he : x = l.getD i ⟨#[]⟩
    · rw [if_pos he] at hC
      have ee : (x.toList == (l.getD i ⟨#[]⟩).toList) = true := barr_eq.2 he
      subst hC
      repeat' first | (refine SW.seq_k fun K hK => ?_) | (refine SW.block ?_) | ((first | refine SW.region ?_ | refine SW.cond ?_ | refine SW.skip ?_ | refine SW.ret ?_); try simp only [go_sem, hD, hli, ie, i0, w1, fi, ee]) | (apply hK; clear hK K)
      refine ret_pure ?_; simp only [resL_tmp, resL_nil, tupOf, go_sem, hD]
    · rw [if_neg he] at hC
      have ee : (x.toList == (l.getD i ⟨#[]⟩).toList) = false := by rw [Bool.eq_false_iff]; exact fun h => he (barr_eq.1 h)
      repeat' first | (refine SW.seq_k fun K hK => ?_) | (refine SW.block ?_) | ((first | refine SW.region ?_ | refine SW.cond ?_ | refine SW.skip ?_); try simp only [go_sem, hD, hli, ie, i0, w1, fi, ee]) | (apply hK; clear hK K)
      refine Rnd.sub (l.length - (i + 1)) (by omega) ((hI _ _).2 ⟨i + 1, rfl, by omega, hC, rfl⟩) (by repeat' (first | exact rfl | exact trivial | constructor))
  · have hli : ¬ ((i : Nat) : Int) < (((l.length) : Nat) : Int) := by omega
    rw [List.drop_of_length_le (by omega)] at hC
    have hC2 : R = -1 := hC
    subst hC2
    repeat' first | (refine SW.seq_k fun K hK => ?_) | ((first | refine SW.region ?_ | refine SW.cond ?_ | refine SW.exit ?_ | refine SW.ret ?_); try simp only [go_sem, hD, hli]) | (apply hK; clear hK K) | (clear hK K; apply hK; clear hK K)
    refine ret_pure ?_; simp only [resL_tmp, resL_nil, tupOf, go_sem, hD]
theorem contains_c (x : ByteArray) (l : List ByteArray) (n : Nat) (hl : n ≤ 1000000) (hn : l.length = n) (f : Nat → List SV) (hf : ∀ i, i < n → f i = [Str (l.getD i ⟨#[]⟩)]) : PCall Tryz.prog 164 [.fl n 1 f, Str x] (SB (decide (0 ≤ posS x 0 l))) := by
  have ix := index_c x l n hl hn f hf
  refine Call.enter' (N := 9) (rs := [.tmp 4]) Tryz.func164 rfl rfl rfl (by decide) rfl ?_; simp only [argT]; have hD : (0 : Nat) = 0 := rfl
  repeat' first | (refine SW.seq_k fun K hK => ?_) | ((first | refine SW.region ?_ | refine SW.ret ?_ | refine Call.of_pure (ix) ?_); try simp only [go_sem, hD]) | (apply hK; clear hK K)
  refine ret_pure ?_; simp only [resL_tmp, resL_nil, tupOf, go_sem, hD]
theorem attr_r (x : ByteArray) (l : List ByteArray) (n : Nat) (hl : n ≤ 1000000) (hn : l.length = n) (f : Nat → List SV) (hf : ∀ i, i < n → f i = [Str (l.getD i ⟨#[]⟩)]) : PCall Tryz.prog 158 [.fl n 1 f, Str x] (I64 (posS x 0 l)) := by
  subst hn
  obtain ⟨R, hR⟩ : ∃ R, R = posS x 0 l := ⟨_, rfl⟩
  rw [← hR]
  refine Call.enter' (N := 19) (rs := [.tmp 4]) Tryz.func158 rfl rfl rfl (by decide) rfl ?_; simp only [argT]; have hD : (0 : Nat) = 0 := rfl
  repeat' first | (refine SW.seq_k fun K hK => ?_) | (refine SW.block ?_) | (refine SW.region ?_; try simp only [go_sem, hD]) | (apply hK; clear hK K)
  obtain ⟨I, hI⟩ : ∃ I : Nat → St → Prop, ∀ k S, I k S ↔ (∃ (i : Nat) , k = l.length - i ∧ i ≤ l.length ∧ R = posS x i (l.drop i) ∧ S = ⟨[(0, .fl l.length 1 f), (1, Str x), (5, I64 i)], []⟩) := ⟨fun k S => _, fun _ _ => Iff.rfl⟩
  refine SW.loop' I (l.length) ((hI _ _).2 ⟨0, rfl, Nat.zero_le _, by rw [List.drop_zero]; exact hR, rfl⟩) (by repeat' (first | exact rfl | exact trivial | constructor)) ?_
  intro k S hIn
  obtain ⟨i, rfl, hi, hC, rfl⟩ := (hI _ _).1 hIn
  clear hIn
  have ie : ((i : Nat) : Int).toNat = i := Int.toNat_natCast _
  have i0 : (0 : Int) ≤ ((i : Nat) : Int) := by omega
  clear hR
  by_cases hlt : i < l.length
  · have hli : ((i : Nat) : Int) < (((l.length) : Nat) : Int) := by omega
    have w1 : IntKind.i64.wrap ((i : Int) + 1) = ((i + 1 : Nat) : Int) := by rw [i64_wrap (by omega) (by omega)]; omega
    rw [posS_step hlt] at hC
    have fi := hf i hlt
    by_cases he : x = l.getD i ⟨#[]⟩
    · rw [if_pos he] at hC
      have ee : ((l.getD i ⟨#[]⟩).toList == x.toList) = true := barr_eq.2 he.symm
      subst hC
      repeat' first | (refine SW.seq_k fun K hK => ?_) | (refine SW.block ?_) | ((first | refine SW.region ?_ | refine SW.cond ?_ | refine SW.skip ?_ | refine SW.ret ?_); try simp only [go_sem, hD, hli, ie, i0, w1, fi, ee]) | (apply hK; clear hK K)
      refine ret_pure ?_; simp only [resL_tmp, resL_nil, tupOf, go_sem, hD]
    · rw [if_neg he] at hC
      have ee : ((l.getD i ⟨#[]⟩).toList == x.toList) = false := by rw [Bool.eq_false_iff]; exact fun h => he (barr_eq.1 h).symm
      repeat' first | (refine SW.seq_k fun K hK => ?_) | (refine SW.block ?_) | ((first | refine SW.region ?_ | refine SW.cond ?_ | refine SW.skip ?_); try simp only [go_sem, hD, hli, ie, i0, w1, fi, ee]) | (apply hK; clear hK K)
      refine Rnd.sub (l.length - (i + 1)) (by omega) ((hI _ _).2 ⟨i + 1, rfl, by omega, hC, rfl⟩) (by repeat' (first | exact rfl | exact trivial | constructor))
  · have hli : ¬ ((i : Nat) : Int) < (((l.length) : Nat) : Int) := by omega
    rw [List.drop_of_length_le (by omega)] at hC
    have hC2 : R = -1 := hC
    subst hC2
    repeat' first | (refine SW.seq_k fun K hK => ?_) | ((first | refine SW.region ?_ | refine SW.cond ?_ | refine SW.exit ?_ | refine SW.ret ?_); try simp only [go_sem, hD, hli]) | (apply hK; clear hK K) | (clear hK K; apply hK; clear hK K)
    refine ret_pure ?_; simp only [resL_tmp, resL_nil, tupOf, go_sem, hD]
theorem sF_take {l : List ByteArray} {i j : Nat} (hj : j < i) : sF l j = [Str ((l.take i).getD j ⟨#[]⟩)] := by
  rw [getD_take _ _ _ _ hj]
  rfl
theorem names_r (l : List ByteArray) (hl : l.length ≤ 1000000) : PCall Tryz.prog 120 [SL l] (SB (namesB l)) := by
  obtain ⟨R, hR⟩ : ∃ R, R = namesB l := ⟨_, rfl⟩
  rw [← hR]
  unfold namesB at hR
  refine Call.enter' (N := 27) (rs := [.tmp 2]) Tryz.func120 rfl rfl rfl (by decide) rfl ?_; simp only [argT]; have hD : (0 : Nat) = 0 := rfl
  repeat' first | (refine SW.seq_k fun K hK => ?_) | (refine SW.block ?_) | (refine SW.region ?_; try simp only [go_sem, hD]) | (apply hK; clear hK K)
  obtain ⟨I, hI⟩ : ∃ I : Nat → St → Prop, ∀ k S, I k S ↔ (∃ (i : Nat) , k = l.length - i ∧ i ≤ l.length ∧ R = namesF l (l.length - i) i ∧ S = ⟨[(0, SL l), (3, I64 i)], []⟩) := ⟨fun k S => _, fun _ _ => Iff.rfl⟩
  refine SW.loop' I (l.length) ((hI _ _).2 ⟨0, rfl, Nat.zero_le _, hR, rfl⟩) (by repeat' (first | exact rfl | exact trivial | constructor)) ?_
  intro k S hIn
  obtain ⟨i, rfl, hi, hC, rfl⟩ := (hI _ _).1 hIn
  clear hIn
  have ie : ((i : Nat) : Int).toNat = i := Int.toNat_natCast _
  have i0 : (0 : Int) ≤ ((i : Nat) : Int) := by omega
  clear hR
  by_cases hlt : i < l.length
  · have hli : ((i : Nat) : Int) < (((l.length) : Nat) : Int) := by omega
    have w1 : IntKind.i64.wrap ((i : Int) + 1) = ((i + 1 : Nat) : Int) := by rw [i64_wrap (by omega) (by omega)]; omega
    have e : l.length - i = (l.length - (i + 1)) + 1 := by omega
    rw [e, namesF] at hC
    have iz : (((i : Nat) : Int) - 0).toNat = i := by omega
    have il : ((i : Nat) : Int) ≤ ((l.length : Nat) : Int) := by omega
    have fi : sF l i = [Str (l.getD i ⟨#[]⟩)] := rfl
    have nm := name_r (l.getD i ⟨#[]⟩)
    have at' := attr_r (l.getD i ⟨#[]⟩) (l.take i) i (by omega) (by rw [List.length_take]; omega) (sF l) (fun j hj => sF_take (l := l) hj)
    generalize posS (l.getD i ⟨#[]⟩) 0 (l.take i) = q at *
    cases q1 : nameB (l.getD i ⟨#[]⟩).data.toList with
    | false =>
      rw [q1] at nm hC
      have hC2 : R = false := hC
      subst hC2
      repeat' first | (refine SW.seq_k fun K hK => ?_) | (refine SW.block ?_) | ((first | refine SW.region ?_ | refine SW.regionD (Checked.mixed Tryz.checked) (by kernel_rfl) ?_ | refine SW.cond ?_ | refine SW.skip ?_ | refine SW.ret ?_ | refine ⟨_, nm, ?_⟩); try simp only [go_sem, hD, hli, ie, i0, w1, fi, iz, il]) | (apply hK; clear hK K)
      refine ret_pure ?_; simp only [resL_tmp, resL_nil, tupOf, go_sem, hD]
    | true =>
      rw [q1] at nm hC
      rw [Bool.true_and] at hC
      by_cases hq : 0 ≤ q
      · rw [decide_eq_true hq] at hC
        have hC2 : R = false := hC
        subst hC2
        repeat' first | (refine SW.seq_k fun K hK => ?_) | (refine SW.block ?_) | ((first | refine SW.region ?_ | refine SW.regionD (Checked.mixed Tryz.checked) (by kernel_rfl) ?_ | refine SW.cond ?_ | refine SW.skip ?_ | refine SW.ret ?_ | refine ⟨_, nm, ?_⟩ | refine ⟨_, at', ?_⟩); try simp only [go_sem, hD, hli, ie, i0, w1, fi, iz, il, hq]) | (apply hK; clear hK K)
        refine ret_pure ?_; simp only [resL_tmp, resL_nil, tupOf, go_sem, hD]
      · rw [decide_eq_false hq, Bool.not_false, Bool.true_and] at hC
        repeat' first | (refine SW.seq_k fun K hK => ?_) | (refine SW.block ?_) | ((first | refine SW.region ?_ | refine SW.regionD (Checked.mixed Tryz.checked) (by kernel_rfl) ?_ | refine SW.cond ?_ | refine SW.skip ?_ | refine ⟨_, nm, ?_⟩ | refine ⟨_, at', ?_⟩); try simp only [go_sem, hD, hli, ie, i0, w1, fi, iz, il, hq]) | (apply hK; clear hK K)
        refine Rnd.sub (l.length - (i + 1)) (by omega) ((hI _ _).2 ⟨i + 1, rfl, by omega, hC, rfl⟩) (by repeat' (first | exact rfl | exact trivial | constructor))
  · have hli : ¬ ((i : Nat) : Int) < (((l.length) : Nat) : Int) := by omega
    have e : l.length - i = 0 := by omega
    rw [e] at hC
    have hC2 : R = true := hC
    subst hC2
    repeat' first | (refine SW.seq_k fun K hK => ?_) | ((first | refine SW.region ?_ | refine SW.cond ?_ | refine SW.exit ?_ | refine SW.ret ?_); try simp only [go_sem, hD, hli]) | (apply hK; clear hK K) | (clear hK K; apply hK; clear hK K)
    refine ret_pure ?_; simp only [resL_tmp, resL_nil, tupOf, go_sem, hD]
end Go.Proofs.YtpidncgibgiidaaGreat
namespace Go.Ab
theorem St.le_only [Gl] {t : List (Nat × SV)} {h : Heap} {b : Nat} {k : Blk} (hm : (b, k) ∈ h) : (St.mk t h).le ⟨t, [(b, k)]⟩ := St.le_sublist (fun x hx => by
  rw [List.mem_singleton] at hx
  rw [hx]
  exact hm) (fun _ => by simp)
end Go.Ab
namespace Go.Ab.A34
open Go Go.Ab Go.Proofs
abbrev V3 := Int × Int × ByteArray
def v0 : V3 := (0, 0, ⟨#[]⟩)
def encV (v : V3) : List Value := [.int .i64 v.1, .int .i64 v.2.1, .string v.2.2]
abbrev vC (v : V3) : List SV := [I64 v.1, I64 v.2.1, Str v.2.2]
abbrev VV (v : V3) : SV := .agg (vC v)
def vF (l : List V3) (i : Nat) : List SV := vC (l.getD i v0)
abbrev VL (l : List V3) : SV := .fl l.length 3 (vF l)
abbrev R3 := Int × List V3
def r0 : R3 := (0, [])
def rC (r : R3) : List SV := [I64 r.1, VL r.2]
def rF (l : List R3) (i : Nat) : List SV := rC (l.getD i r0)
abbrev RL (l : List R3) : SV := .fl l.length 2 (rF l)
structure Tb where
  name : ByteArray
  attrs : List ByteArray
  rows : List R3
abbrev TB (t : Tb) : SV := .agg [Str t.name, SL t.attrs, RL t.rows]
def okV (v : V3) : Bool := vok v.1 v.2.1 v.2.2
def rowsV (n : Nat) : Int → List R3 → Int
  | _, [] => 0
  | last, r :: l => if r.1 ≤ last then 1 else if ¬ r.2.length = n then 6 else if r.2.all okV = true then rowsV n r.1 l else 1
def validS (t : Tb) : Int :=
  if nameB t.name.data.toList = true then
    if 16 < t.attrs.length ∨ 1000 < t.rows.length then 3
    else if namesB t.attrs = true then rowsV t.attrs.length 0 t.rows else 1
  else 1
theorem okV_step {l : List V3} {i : Nat} (h : i < l.length) : (l.drop i).all okV = (okV (l.getD i v0) && (l.drop (i + 1)).all okV) := by
  have g : l.getD i v0 = l[i] := by simp [List.getD_eq_getElem?_getD, h]
  rw [List.drop_eq_getElem_cons h, List.all_cons, g]
theorem rowsV_step {n : Nat} {p : Int} {l : List R3} {i : Nat} (h : i < l.length) : rowsV n p (l.drop i) = if (l.getD i r0).1 ≤ p then 1 else if ¬ (l.getD i r0).2.length = n then 6 else if (l.getD i r0).2.all okV = true then rowsV n (l.getD i r0).1 (l.drop (i + 1)) else 1 := by
  have g : l.getD i r0 = l[i] := by simp [List.getD_eq_getElem?_getD, h]
  rw [List.drop_eq_getElem_cons h, g]
  rfl
theorem getD_mem {α : Type} (d : α) {l : List α} {i : Nat} (h : i < l.length) : l.getD i d ∈ l := by
  have g : l.getD i d = l[i] := by simp [List.getD_eq_getElem?_getD, h]
  rw [g]
  exact List.getElem_mem h
def posF {α : Type} (p : α → Bool) : Nat → List α → Int
  | _, [] => -1
  | i, y :: l => if p y = true then (i : Int) else posF p (i + 1) l
theorem posF_any {α : Type} (p : α → Bool) : ∀ (l : List α) (i : Nat), (0 ≤ posF p i l ↔ l.any p = true)
  | [], i => by
    unfold posF
    simp
  | y :: l, i => by
    unfold posF
    by_cases h : p y = true
    · rw [if_pos h]
      simp [h]
    · rw [if_neg h, posF_any p l (i + 1), List.any_cons, Bool.eq_false_iff.2 h, Bool.false_or]
theorem posF_step {α : Type} {p : α → Bool} (d : α) {l : List α} {i : Nat} (h : i < l.length) : posF p i (l.drop i) = if p (l.getD i d) = true then (i : Int) else posF p (i + 1) (l.drop (i + 1)) := by
  have g : l.getD i d = l[i] := by simp [List.getD_eq_getElem?_getD, h]
  rw [List.drop_eq_getElem_cons h, g]
  rfl
end Go.Ab.A34
namespace Go.Proofs.YtpidncgibgiidaaGreat
open Go Go.Ab Go.Ab.A34
variable [Gl] [Tabs]
theorem valids_r (l : List V3) (hl : l.length ≤ 9223372036854775807) : PCall Tryz.prog 83 [VL l] (SB (l.all okV)) := by
  obtain ⟨R, hR⟩ : ∃ R, R = l.all okV := ⟨_, rfl⟩
  rw [← hR]
  refine Call.enter' (N := 16) (rs := [.tmp 2]) Tryz.func83 rfl rfl rfl (by decide) rfl ?_; simp only [argT]; have hD : (0 : Nat) = 0 := rfl
  repeat' first | (refine SW.seq_k fun K hK => ?_) | (refine SW.block ?_) | (refine SW.region ?_; try simp only [go_sem, hD]) | (apply hK; clear hK K)
  obtain ⟨I, hI⟩ : ∃ I : Nat → St → Prop, ∀ k S, I k S ↔ (∃ (i : Nat) , k = l.length - i ∧ i ≤ l.length ∧ R = (l.drop i).all okV ∧ S = ⟨[(0, VL l), (3, I64 i)], []⟩) := ⟨fun k S => _, fun _ _ => Iff.rfl⟩
  refine SW.loop' I (l.length) ((hI _ _).2 ⟨0, rfl, Nat.zero_le _, hR, rfl⟩) (by repeat' (first | exact rfl | exact trivial | constructor)) ?_
  intro k S hIn
  obtain ⟨i, rfl, hi, hC, rfl⟩ := (hI _ _).1 hIn
  clear hIn
  have ie : ((i : Nat) : Int).toNat = i := Int.toNat_natCast _
  have i0 : (0 : Int) ≤ ((i : Nat) : Int) := by omega
  clear hR
  by_cases hlt : i < l.length
  · have hli : ((i : Nat) : Int) < (((l.length) : Nat) : Int) := by omega
    have w1 : IntKind.i64.wrap ((i : Int) + 1) = ((i + 1 : Nat) : Int) := by rw [i64_wrap (by omega) (by omega)]; omega
    rw [okV_step hlt] at hC
    obtain ⟨k, n, s, hv⟩ : ∃ k n s, l.getD i v0 = (k, n, s) := ⟨_, _, _, rfl⟩
    rw [hv] at hC
    have fi : vF l i = [I64 k, I64 n, Str s] := by unfold vF; rw [hv]
    have va := valid_r k n s
    cases q : vok k n s with
    | true =>
      rw [q] at va
      have hC2 : R = (l.drop (i + 1)).all okV := by rw [hC]; unfold okV; simp only; rw [q]; rfl
      repeat' first | (refine SW.seq_k fun K hK => ?_) | (refine SW.block ?_) | ((first | refine SW.region ?_ | refine SW.cond ?_ | refine SW.skip ?_ | refine Call.of_pure (va) ?_); try simp only [go_sem, hD, hli, ie, i0, w1, fi]) | (apply hK; clear hK K)
      refine Rnd.sub (l.length - (i + 1)) (by omega) ((hI _ _).2 ⟨i + 1, rfl, by omega, hC2, rfl⟩) (by repeat' (first | exact rfl | exact trivial | constructor))
    | false =>
      rw [q] at va
      have hC2 : R = false := by rw [hC]; unfold okV; simp only; rw [q]; rfl
      subst hC2
      repeat' first | (refine SW.seq_k fun K hK => ?_) | (refine SW.block ?_) | ((first | refine SW.region ?_ | refine SW.cond ?_ | refine SW.skip ?_ | refine SW.ret ?_ | refine Call.of_pure (va) ?_); try simp only [go_sem, hD, hli, ie, i0, w1, fi]) | (apply hK; clear hK K)
      refine ret_pure ?_; simp only [resL_tmp, resL_nil, tupOf, go_sem, hD]
  · have hli : ¬ ((i : Nat) : Int) < (((l.length) : Nat) : Int) := by omega
    rw [List.drop_of_length_le (by omega)] at hC
    have hC2 : R = true := hC
    subst hC2
    repeat' first | (refine SW.seq_k fun K hK => ?_) | ((first | refine SW.region ?_ | refine SW.cond ?_ | refine SW.exit ?_ | refine SW.ret ?_); try simp only [go_sem, hD, hli]) | (apply hK; clear hK K) | (clear hK K; apply hK; clear hK K)
    refine ret_pure ?_; simp only [resL_tmp, resL_nil, tupOf, go_sem, hD]
theorem notValid_p (k n : Int) (s : ByteArray) : PCall Tryz.prog 194 [.agg [I64 k, I64 n, Str s]] (SB (!(vok k n s))) := by
  have va := valid_p k n s
  refine Call.enter' (N := 6) (rs := [.tmp 2]) Tryz.func194 rfl rfl rfl (by decide) rfl ?_; simp only [argT]; have hD : (0 : Nat) = 0 := rfl
  repeat' first | (refine SW.seq_k fun K hK => ?_) | ((first | refine SW.region ?_ | refine SW.ret ?_ | refine Call.of_pure (va) ?_ | (refine allF_i fun b hb => ?_; replace hD := And.intro hb hD; clear hb; try simp only [fresh_cons, fresh_nil, and_true, ne_eq, neF] at hD)); try simp only [go_sem, hD]) | (apply hK; clear hK K)
  refine ret_pure ?_; simp only [resL_tmp, resL_nil, tupOf, go_sem, hD]
theorem indexF_v (p : V3 → Bool) (g : Nat) (hg : ∀ v, PCall Tryz.prog g [VV v] (SB (p v))) (l : List V3) (hl : l.length ≤ 9223372036854775807) : PCall Tryz.prog 205 [VL l, .fn (.func g) [] []] (I64 (posF p 0 l)) := by
  obtain ⟨R, hR⟩ : ∃ R, R = posF p 0 l := ⟨_, rfl⟩
  rw [← hR]
  refine Call.enter' (N := 19) (rs := [.tmp 4]) Tryz.func205 rfl rfl rfl (by decide) rfl ?_; simp only [argT]; have hD : (0 : Nat) = 0 := rfl
  repeat' first | (refine SW.seq_k fun K hK => ?_) | (refine SW.block ?_) | (refine SW.region ?_; try simp only [go_sem, hD]) | (apply hK; clear hK K)
  obtain ⟨I, hI⟩ : ∃ I : Nat → St → Prop, ∀ k S, I k S ↔ (∃ (i : Nat) , k = l.length - i ∧ i ≤ l.length ∧ R = posF p i (l.drop i) ∧ S = ⟨[(0, VL l), (1, .fn (.func g) [] []), (7, I64 l.length), (8, I64 i)], []⟩) := ⟨fun k S => _, fun _ _ => Iff.rfl⟩
  refine SW.loop' I (l.length) ((hI _ _).2 ⟨0, rfl, Nat.zero_le _, hR, rfl⟩) (by repeat' (first | exact rfl | exact trivial | constructor)) ?_
  intro k S hIn
  obtain ⟨i, rfl, hi, hC, rfl⟩ := (hI _ _).1 hIn
  clear hIn
  have ie : ((i : Nat) : Int).toNat = i := Int.toNat_natCast _
  have i0 : (0 : Int) ≤ ((i : Nat) : Int) := by omega
  clear hR
  by_cases hlt : i < l.length
  · have hli : ((i : Nat) : Int) < (((l.length) : Nat) : Int) := by omega
    have w1 : IntKind.i64.wrap ((i : Int) + 1) = ((i + 1 : Nat) : Int) := by rw [i64_wrap (by omega) (by omega)]; omega
    rw [posF_step v0 hlt] at hC
    obtain ⟨k, n, s, hv⟩ : ∃ k n s, l.getD i v0 = (k, n, s) := ⟨_, _, _, rfl⟩
    rw [hv] at hC
    have fi : vF l i = [I64 k, I64 n, Str s] := by unfold vF; rw [hv]
    have hp := hg (k, n, s)
    cases q : p (k, n, s) with
    | true =>
      rw [q] at hp
      rw [q, if_pos rfl] at hC
      subst hC
      repeat' first | (refine SW.seq_k fun K hK => ?_) | (refine SW.block ?_) | ((first | refine SW.region ?_ | refine SW.cond ?_ | refine SW.skip ?_ | refine SW.ret ?_ | refine Call.of_pure (hp) ?_); try simp only [go_sem, hD, hli, ie, i0, w1, fi]) | (apply hK; clear hK K)
      refine ret_pure ?_; simp only [resL_tmp, resL_nil, tupOf, go_sem, hD]
    | false =>
      rw [q] at hp
      rw [q, if_neg (by simp)] at hC
      repeat' first | (refine SW.seq_k fun K hK => ?_) | (refine SW.block ?_) | ((first | refine SW.region ?_ | refine SW.cond ?_ | refine SW.skip ?_ | refine Call.of_pure (hp) ?_); try simp only [go_sem, hD, hli, ie, i0, w1, fi]) | (apply hK; clear hK K)
      refine Rnd.sub (l.length - (i + 1)) (by omega) ((hI _ _).2 ⟨i + 1, rfl, by omega, hC, rfl⟩) (by repeat' (first | exact rfl | exact trivial | constructor))
  · have hli : ¬ ((i : Nat) : Int) < (((l.length) : Nat) : Int) := by omega
    rw [List.drop_of_length_le (by omega)] at hC
    have hC2 : R = -1 := hC
    subst hC2
    repeat' first | (refine SW.seq_k fun K hK => ?_) | ((first | refine SW.region ?_ | refine SW.cond ?_ | refine SW.exit ?_ | refine SW.ret ?_); try simp only [go_sem, hD, hli]) | (apply hK; clear hK K) | (clear hK K; apply hK; clear hK K)
    refine ret_pure ?_; simp only [resL_tmp, resL_nil, tupOf, go_sem, hD]
theorem validValues_p (l : List V3) (hl : l.length ≤ 9223372036854775807) : PCall Tryz.prog 165 [VL l] (SB (l.all okV)) := by
  have ix := indexF_v (fun v => !(okV v)) 194 (fun v => notValid_p v.1 v.2.1 v.2.2) l hl
  have hm := posF_any (fun v => !(okV v)) l 0
  have cf : PCall Tryz.prog 193 [VL l, .fn (.func 194) [] []] (SB (!(l.all okV))) := by
    refine Call.enter' (N := 9) (rs := [.tmp 4]) Tryz.func193 rfl rfl rfl (by decide) rfl ?_; simp only [argT]; have hD : (0 : Nat) = 0 := rfl
    repeat' first | (refine SW.seq_k fun K hK => ?_) | ((first | refine SW.region ?_ | refine SW.ret ?_ | refine Call.of_pure (ix) ?_); try simp only [go_sem, hD]) | (apply hK; clear hK K)
    refine ret_pure ?_; simp only [resL_tmp, resL_nil, tupOf, go_sem, hD]
    refine congrArg (fun b => SV.sc (.bool b)) ?_
    rw [Bool.eq_iff_iff, decide_eq_true_eq, hm, List.any_eq_true]
    simp
  refine Call.enter' (N := 6) (rs := [.tmp 2]) Tryz.func165 rfl rfl rfl (by decide) rfl ?_; simp only [argT]; have hD : (0 : Nat) = 0 := rfl
  repeat' first | (refine SW.seq_k fun K hK => ?_) | ((first | refine SW.region ?_ | refine SW.ret ?_ | refine Call.of_pure (cf) ?_); try simp only [go_sem, hD]) | (apply hK; clear hK K)
  refine ret_pure ?_; simp only [resL_tmp, resL_nil, tupOf, go_sem, hD]
  rw [Bool.not_not]
theorem valid_tp (t : Tb) : PCall Tryz.prog 127 [TB t] (I64 (validS t)) := by
  obtain ⟨nm, al, l⟩ := t
  have hn := isName_p nm
  obtain ⟨R, hR⟩ : ∃ R, R = validS ⟨nm, al, l⟩ := ⟨_, rfl⟩
  rw [← hR]
  unfold validS at hR
  simp only at hR ⊢
  cases q1 : nameB nm.data.toList with
  | false =>
    rw [q1] at hR hn
    rw [if_neg (by simp)] at hR
    subst hR
    refine Call.enter' (N := 70) (rs := [.tmp 2]) Tryz.func127 rfl rfl rfl (by decide) rfl ?_; simp only [argT]; have hD : (0 : Nat) = 0 := rfl
    repeat' first | (refine SW.seq_k fun K hK => ?_) | ((first | refine SW.region ?_ | refine SW.cond ?_ | refine SW.ret ?_ | refine Call.of_pure (hn) ?_ | (refine allF_i fun b hb => ?_; replace hD := And.intro hb hD; clear hb; try simp only [fresh_cons, fresh_nil, and_true, ne_eq, neF] at hD)); try simp only [go_sem, hD]) | (apply hK; clear hK K)
    refine ret_pure ?_; simp only [resL_tmp, resL_nil, tupOf, go_sem, hD]
  | true =>
    rw [q1] at hR hn
    rw [if_pos rfl] at hR
    by_cases h16 : 16 < al.length
    · rw [if_pos (.inl h16)] at hR
      subst hR
      have h16i : (16 : Int) < ((al.length : Nat) : Int) := by omega
      refine Call.enter' (N := 70) (rs := [.tmp 2]) Tryz.func127 rfl rfl rfl (by decide) rfl ?_; simp only [argT]; have hD : (0 : Nat) = 0 := rfl
      repeat' first | (refine SW.seq_k fun K hK => ?_) | ((first | refine SW.region ?_ | refine SW.cond ?_ | refine SW.skip ?_ | refine SW.ret ?_ | refine Call.of_pure (hn) ?_ | (refine allF_i fun b hb => ?_; replace hD := And.intro hb hD; clear hb; try simp only [fresh_cons, fresh_nil, and_true, ne_eq, neF] at hD)); try simp only [go_sem, hD, h16i]) | (apply hK; clear hK K)
      refine ret_pure ?_; simp only [resL_tmp, resL_nil, tupOf, go_sem, hD]
    · have h16i : ¬ (16 : Int) < ((al.length : Nat) : Int) := by omega
      by_cases h1k : 1000 < l.length
      · rw [if_pos (.inr h1k)] at hR
        subst hR
        have h1ki : (1000 : Int) < ((l.length : Nat) : Int) := by omega
        refine Call.enter' (N := 70) (rs := [.tmp 2]) Tryz.func127 rfl rfl rfl (by decide) rfl ?_; simp only [argT]; have hD : (0 : Nat) = 0 := rfl
        repeat' first | (refine SW.seq_k fun K hK => ?_) | ((first | refine SW.region ?_ | refine SW.cond ?_ | refine SW.skip ?_ | refine SW.ret ?_ | refine Call.of_pure (hn) ?_ | (refine allF_i fun b hb => ?_; replace hD := And.intro hb hD; clear hb; try simp only [fresh_cons, fresh_nil, and_true, ne_eq, neF] at hD)); try simp only [go_sem, hD, h16i, h1ki]) | (apply hK; clear hK K)
        refine ret_pure ?_; simp only [resL_tmp, resL_nil, tupOf, go_sem, hD]
      · rw [if_neg (by omega)] at hR
        have h1ki : ¬ (1000 : Int) < ((l.length : Nat) : Int) := by omega
        refine Call.enter' (N := 70) (rs := [.tmp 2]) Tryz.func127 rfl rfl rfl (by decide) rfl ?_; simp only [argT]; have hD : (0 : Nat) = 0 := rfl
        repeat' first | (refine SW.seq_k fun K hK => ?_) | (refine SW.block ?_) | ((first | refine SW.region ?_ | refine SW.cond ?_ | refine SW.skip ?_ | refine Call.of_pure (hn) ?_ | (refine allF_i fun b hb => ?_; replace hD := And.intro hb hD; clear hb; try simp only [fresh_cons, fresh_nil, and_true, ne_eq, neF] at hD)); try simp only [go_sem, hD, h16i, h1ki]) | (apply hK; clear hK K)
        obtain ⟨I, hI⟩ : ∃ I : Nat → St → Prop, ∀ k S, I k S ↔ (∃ (i : Nat) , k = al.length - i ∧ i ≤ al.length ∧ R = (if namesF al (al.length - i) i = true then rowsV al.length 0 l else 1) ∧ S = ⟨[(1, .op b 0), (23, SL al), (24, I64 al.length), (25, I64 i)], [(b, .svs [Str nm, SL al, RL l])]⟩) := ⟨fun k S => _, fun _ _ => Iff.rfl⟩
        refine SW.loop' I (al.length) ((hI _ _).2 ⟨0, rfl, Nat.zero_le _, hR, rfl⟩) (by repeat' (first | exact rfl | exact trivial | constructor)) ?_
        intro k S hIn
        obtain ⟨i, rfl, hi, hC, rfl⟩ := (hI _ _).1 hIn
        clear hIn
        have ie : ((i : Nat) : Int).toNat = i := Int.toNat_natCast _
        have i0 : (0 : Int) ≤ ((i : Nat) : Int) := by omega
        clear hR
        by_cases hlt : i < al.length
        · have hli : ((i : Nat) : Int) < (((al.length) : Nat) : Int) := by omega
          have w1 : IntKind.i64.wrap ((i : Int) + 1) = ((i + 1 : Nat) : Int) := by rw [i64_wrap (by omega) (by omega)]; omega
          have e : al.length - i = (al.length - (i + 1)) + 1 := by omega
          rw [e, namesF] at hC
          have iz : (((i : Nat) : Int) - 0).toNat = i := by omega
          have il : ((i : Nat) : Int) ≤ ((al.length : Nat) : Int) := by omega
          have fi : sF al i = [Str (al.getD i ⟨#[]⟩)] := rfl
          have nm' := isName_p (al.getD i ⟨#[]⟩)
          have ct := contains_c (al.getD i ⟨#[]⟩) (al.take i) i (by omega) (by rw [List.length_take]; omega) (sF al) (fun j hj => sF_take (l := al) hj)
          generalize posS (al.getD i ⟨#[]⟩) 0 (al.take i) = q at *
          cases q1 : nameB (al.getD i ⟨#[]⟩).data.toList with
          | false =>
            rw [q1] at nm' hC
            have hC2 : R = 1 := hC
            subst hC2
            repeat' first | (refine SW.seq_k fun K hK => ?_) | (refine SW.block ?_) | ((first | refine SW.region ?_ | refine SW.cond ?_ | refine SW.skip ?_ | refine SW.ret ?_ | refine Call.of_pure (nm') ?_); try simp only [go_sem, hD, hli, ie, i0, w1, fi, iz, il]) | (apply hK; clear hK K)
            refine ret_pure ?_; simp only [resL_tmp, resL_nil, tupOf, go_sem, hD]
          | true =>
            rw [q1] at nm' hC
            rw [Bool.true_and] at hC
            by_cases hq : 0 ≤ q
            · rw [decide_eq_true hq] at hC ct
              have hC2 : R = 1 := hC
              subst hC2
              repeat' first | (refine SW.seq_k fun K hK => ?_) | (refine SW.block ?_) | ((first | refine SW.region ?_ | refine SW.cond ?_ | refine SW.skip ?_ | refine SW.ret ?_ | refine Call.of_pure (nm') ?_ | refine Call.of_pure (ct) ?_); try simp only [go_sem, hD, hli, ie, i0, w1, fi, iz, il]) | (apply hK; clear hK K)
              refine ret_pure ?_; simp only [resL_tmp, resL_nil, tupOf, go_sem, hD]
            · rw [decide_eq_false hq] at ct
              rw [decide_eq_false hq, Bool.not_false, Bool.true_and] at hC
              repeat' first | (refine SW.seq_k fun K hK => ?_) | (refine SW.block ?_) | ((first | refine SW.region ?_ | refine SW.cond ?_ | refine SW.skip ?_ | refine Call.of_pure (nm') ?_ | refine Call.of_pure (ct) ?_); try simp only [go_sem, hD, hli, ie, i0, w1, fi, iz, il]) | (apply hK; clear hK K)
              refine Rnd.sub (al.length - (i + 1)) (by omega) ((hI _ _).2 ⟨i + 1, rfl, by omega, hC, rfl⟩) (by repeat' (first | exact rfl | exact trivial | constructor))
        · have hli : ¬ ((i : Nat) : Int) < (((al.length) : Nat) : Int) := by omega
          have e : al.length - i = 0 := by omega
          rw [e] at hC
          have hC2 : R = rowsV al.length 0 l := hC
          clear hC
          repeat' first | (refine SW.seq_k fun K hK => ?_) | (refine SW.block ?_) | ((first | refine SW.region ?_ | refine SW.cond ?_ | refine SW.exit ?_); try simp only [go_sem, hD, hli]) | (apply hK; clear hK K) | (clear hK K; apply hK; clear hK K)
          obtain ⟨I, hI⟩ : ∃ I : Nat → St → Prop, ∀ k S, I k S ↔ (∃ (j : Nat) (p : Int), k = l.length - j ∧ j ≤ l.length ∧ R = rowsV al.length p (l.drop j) ∧ S = ⟨[(1, .op b 0), (5, I64 p), (43, RL l), (44, I64 l.length), (45, I64 j)], [(b, .svs [Str nm, SL al, RL l])]⟩) := ⟨fun k S => _, fun _ _ => Iff.rfl⟩
          refine SW.loop' I (l.length) ((hI _ _).2 ⟨0, 0, rfl, Nat.zero_le _, hC2, rfl⟩) (by repeat' (first | exact rfl | exact trivial | constructor)) ?_
          intro k S hIn
          obtain ⟨j, p, rfl, hi, hC, rfl⟩ := (hI _ _).1 hIn
          clear hIn
          have ie : ((j : Nat) : Int).toNat = j := Int.toNat_natCast _
          have i0 : (0 : Int) ≤ ((j : Nat) : Int) := by omega
          clear hC2
          by_cases hlt : j < l.length
          · have hli : ((j : Nat) : Int) < (((l.length) : Nat) : Int) := by omega
            have w1 : IntKind.i64.wrap ((j : Int) + 1) = ((j + 1 : Nat) : Int) := by rw [i64_wrap (by omega) (by omega)]; omega
            rw [rowsV_step hlt] at hC
            obtain ⟨id, vs, hr⟩ : ∃ id vs, l.getD j r0 = (id, vs) := ⟨_, _, rfl⟩
            have tf : rF l j = [I64 id, VL vs] := by unfold rF; rw [hr]; rfl
            rw [hr] at hC
            simp only at hC
            by_cases c1 : id ≤ p
            · rw [if_pos c1] at hC
              subst hC
              repeat' first | (refine SW.seq_k fun K hK => ?_) | (refine SW.block ?_) | ((first | refine SW.region ?_ | refine SW.cond ?_ | refine SW.skip ?_ | refine SW.ret ?_ | (refine allF_i fun b hb => ?_; replace hD := And.intro hb hD; clear hb; try simp only [fresh_cons, fresh_nil, and_true, ne_eq, neF] at hD)); try simp only [go_sem, hD, hli, ie, i0, w1, tf, c1]) | (apply hK; clear hK K)
              refine ret_pure ?_; simp only [resL_tmp, resL_nil, tupOf, go_sem, hD]
            · rw [if_neg c1] at hC
              by_cases c2 : vs.length = al.length
              · rw [if_neg (fun x => x c2)] at hC
                have c2i : ((vs.length : Nat) : Int) = ((al.length : Nat) : Int) := by rw [c2]
                have vv := validValues_p vs (by omega)
                cases c3 : vs.all okV with
                | true =>
                  rw [c3] at vv
                  rw [c3, if_pos rfl] at hC
                  repeat' first | (refine SW.seq_k fun K hK => ?_) | (refine SW.block ?_) | ((first | refine SW.region ?_ | refine SW.cond ?_ | refine SW.skip ?_ | refine Call.of_pure (vv) ?_ | (refine allF_i fun b hb => ?_; replace hD := And.intro hb hD; clear hb; try simp only [fresh_cons, fresh_nil, and_true, ne_eq, neF] at hD)); try simp only [go_sem, hD, hli, ie, i0, w1, tf, c1, c2i]) | (apply hK; clear hK K)
                  refine Rnd.le (St.le_only ?_) (Rnd.sub (l.length - (j + 1)) (by omega) ((hI _ _).2 ⟨j + 1, _, rfl, by omega, hC, rfl⟩) (by repeat' (first | exact rfl | exact trivial | constructor)))
                  repeat (first | exact List.mem_cons_self | apply List.mem_cons_of_mem)
                | false =>
                  rw [c3] at vv
                  rw [c3, if_neg (by simp)] at hC
                  subst hC
                  repeat' first | (refine SW.seq_k fun K hK => ?_) | (refine SW.block ?_) | ((first | refine SW.region ?_ | refine SW.cond ?_ | refine SW.skip ?_ | refine SW.ret ?_ | refine Call.of_pure (vv) ?_ | (refine allF_i fun b hb => ?_; replace hD := And.intro hb hD; clear hb; try simp only [fresh_cons, fresh_nil, and_true, ne_eq, neF] at hD)); try simp only [go_sem, hD, hli, ie, i0, w1, tf, c1, c2i]) | (apply hK; clear hK K)
                  refine ret_pure ?_; simp only [resL_tmp, resL_nil, tupOf, go_sem, hD]
              · rw [if_pos c2] at hC
                subst hC
                have c2i : ¬ ((vs.length : Nat) : Int) = ((al.length : Nat) : Int) := by omega
                repeat' first | (refine SW.seq_k fun K hK => ?_) | (refine SW.block ?_) | ((first | refine SW.region ?_ | refine SW.cond ?_ | refine SW.skip ?_ | refine SW.ret ?_ | (refine allF_i fun b hb => ?_; replace hD := And.intro hb hD; clear hb; try simp only [fresh_cons, fresh_nil, and_true, ne_eq, neF] at hD)); try simp only [go_sem, hD, hli, ie, i0, w1, tf, c1, c2i]) | (apply hK; clear hK K)
                refine ret_pure ?_; simp only [resL_tmp, resL_nil, tupOf, go_sem, hD]
          · have hli : ¬ ((j : Nat) : Int) < (((l.length) : Nat) : Int) := by omega
            rw [List.drop_of_length_le (by omega)] at hC
            have hC2 : R = 0 := hC
            subst hC2
            repeat' first | (refine SW.seq_k fun K hK => ?_) | ((first | refine SW.region ?_ | refine SW.cond ?_ | refine SW.exit ?_ | refine SW.ret ?_); try simp only [go_sem, hD, hli]) | (apply hK; clear hK K) | (clear hK K; apply hK; clear hK K)
            refine ret_pure ?_; simp only [resL_tmp, resL_nil, tupOf, go_sem, hD]
theorem valid_tr (t : Tb) (hv : ∀ r ∈ t.rows, r.2.length ≤ 9223372036854775807) : PCall Tryz.prog 78 [TB t] (I64 (validS t)) := by
  obtain ⟨nm, al, l⟩ := t
  have hn := name_r nm
  obtain ⟨R, hR⟩ : ∃ R, R = validS ⟨nm, al, l⟩ := ⟨_, rfl⟩
  rw [← hR]
  unfold validS at hR
  simp only at hR ⊢
  cases q1 : nameB nm.data.toList with
  | false =>
    rw [q1] at hR hn
    rw [if_neg (by simp)] at hR
    subst hR
    refine Call.enter' (N := 53) (rs := [.tmp 2]) Tryz.func78 rfl rfl rfl (by decide) rfl ?_; simp only [argT]; have hD : (0 : Nat) = 0 := rfl
    repeat' first | (refine SW.seq_k fun K hK => ?_) | ((first | refine SW.region ?_ | refine SW.cond ?_ | refine SW.ret ?_ | refine Call.of_pure (hn) ?_ | (refine allF_i fun b hb => ?_; replace hD := And.intro hb hD; clear hb; try simp only [fresh_cons, fresh_nil, and_true, ne_eq, neF] at hD)); try simp only [go_sem, hD]) | (apply hK; clear hK K)
    refine ret_pure ?_; simp only [resL_tmp, resL_nil, tupOf, go_sem, hD]
  | true =>
    rw [q1] at hR hn
    rw [if_pos rfl] at hR
    by_cases h16 : 16 < al.length
    · rw [if_pos (.inl h16)] at hR
      subst hR
      have h16i : (16 : Int) < ((al.length : Nat) : Int) := by omega
      refine Call.enter' (N := 53) (rs := [.tmp 2]) Tryz.func78 rfl rfl rfl (by decide) rfl ?_; simp only [argT]; have hD : (0 : Nat) = 0 := rfl
      repeat' first | (refine SW.seq_k fun K hK => ?_) | ((first | refine SW.region ?_ | refine SW.cond ?_ | refine SW.skip ?_ | refine SW.ret ?_ | refine Call.of_pure (hn) ?_ | (refine allF_i fun b hb => ?_; replace hD := And.intro hb hD; clear hb; try simp only [fresh_cons, fresh_nil, and_true, ne_eq, neF] at hD)); try simp only [go_sem, hD, h16i]) | (apply hK; clear hK K)
      refine ret_pure ?_; simp only [resL_tmp, resL_nil, tupOf, go_sem, hD]
    · have h16i : ¬ (16 : Int) < ((al.length : Nat) : Int) := by omega
      by_cases h1k : 1000 < l.length
      · rw [if_pos (.inr h1k)] at hR
        subst hR
        have h1ki : (1000 : Int) < ((l.length : Nat) : Int) := by omega
        refine Call.enter' (N := 53) (rs := [.tmp 2]) Tryz.func78 rfl rfl rfl (by decide) rfl ?_; simp only [argT]; have hD : (0 : Nat) = 0 := rfl
        repeat' first | (refine SW.seq_k fun K hK => ?_) | ((first | refine SW.region ?_ | refine SW.cond ?_ | refine SW.skip ?_ | refine SW.ret ?_ | refine Call.of_pure (hn) ?_ | (refine allF_i fun b hb => ?_; replace hD := And.intro hb hD; clear hb; try simp only [fresh_cons, fresh_nil, and_true, ne_eq, neF] at hD)); try simp only [go_sem, hD, h16i, h1ki]) | (apply hK; clear hK K)
        refine ret_pure ?_; simp only [resL_tmp, resL_nil, tupOf, go_sem, hD]
      · rw [if_neg (by omega)] at hR
        have h1ki : ¬ (1000 : Int) < ((l.length : Nat) : Int) := by omega
        have nr := names_r al (by omega)
        cases q2 : namesB al with
        | false =>
          rw [q2] at nr
          rw [q2, if_neg (by simp)] at hR
          subst hR
          refine Call.enter' (N := 53) (rs := [.tmp 2]) Tryz.func78 rfl rfl rfl (by decide) rfl ?_; simp only [argT]; have hD : (0 : Nat) = 0 := rfl
          repeat' first | (refine SW.seq_k fun K hK => ?_) | ((first | refine SW.region ?_ | refine SW.cond ?_ | refine SW.skip ?_ | refine SW.ret ?_ | refine Call.of_pure (hn) ?_ | refine Call.of_pure (nr) ?_ | (refine allF_i fun b hb => ?_; replace hD := And.intro hb hD; clear hb; try simp only [fresh_cons, fresh_nil, and_true, ne_eq, neF] at hD)); try simp only [go_sem, hD, h16i, h1ki]) | (apply hK; clear hK K)
          refine ret_pure ?_; simp only [resL_tmp, resL_nil, tupOf, go_sem, hD]
        | true =>
          rw [q2] at nr
          rw [q2, if_pos rfl] at hR
          refine Call.enter' (N := 53) (rs := [.tmp 2]) Tryz.func78 rfl rfl rfl (by decide) rfl ?_; simp only [argT]; have hD : (0 : Nat) = 0 := rfl
          repeat' first | (refine SW.seq_k fun K hK => ?_) | (refine SW.block ?_) | ((first | refine SW.region ?_ | refine SW.cond ?_ | refine SW.skip ?_ | refine Call.of_pure (hn) ?_ | refine Call.of_pure (nr) ?_ | (refine allF_i fun b hb => ?_; replace hD := And.intro hb hD; clear hb; try simp only [fresh_cons, fresh_nil, and_true, ne_eq, neF] at hD)); try simp only [go_sem, hD, h16i, h1ki]) | (apply hK; clear hK K)
          obtain ⟨I, hI⟩ : ∃ I : Nat → St → Prop, ∀ k S, I k S ↔ (∃ (j : Nat) (p : Int), k = l.length - j ∧ j ≤ l.length ∧ R = rowsV al.length p (l.drop j) ∧ S = ⟨[(1, .op b 0), (3, I64 p), (4, I64 j)], [(b, .svs [Str nm, SL al, RL l])]⟩) := ⟨fun k S => _, fun _ _ => Iff.rfl⟩
          refine SW.loop' I (l.length) ((hI _ _).2 ⟨0, 0, rfl, Nat.zero_le _, hR, rfl⟩) (by repeat' (first | exact rfl | exact trivial | constructor)) ?_
          intro k S hIn
          obtain ⟨j, p, rfl, hi, hC, rfl⟩ := (hI _ _).1 hIn
          clear hIn
          have ie : ((j : Nat) : Int).toNat = j := Int.toNat_natCast _
          have i0 : (0 : Int) ≤ ((j : Nat) : Int) := by omega
          clear hR
          by_cases hlt : j < l.length
          · have hli : ((j : Nat) : Int) < (((l.length) : Nat) : Int) := by omega
            have w1 : IntKind.i64.wrap ((j : Int) + 1) = ((j + 1 : Nat) : Int) := by rw [i64_wrap (by omega) (by omega)]; omega
            rw [rowsV_step hlt] at hC
            have hvj := hv _ (getD_mem r0 hlt)
            obtain ⟨id, vs, hr⟩ : ∃ id vs, l.getD j r0 = (id, vs) := ⟨_, _, rfl⟩
            have tf : rF l j = [I64 id, VL vs] := by unfold rF; rw [hr]; rfl
            rw [hr] at hC hvj
            simp only at hC hvj
            by_cases c1 : id ≤ p
            · rw [if_pos c1] at hC
              subst hC
              repeat' first | (refine SW.seq_k fun K hK => ?_) | (refine SW.block ?_) | ((first | refine SW.region ?_ | refine SW.cond ?_ | refine SW.skip ?_ | refine SW.ret ?_ | (refine allF_i fun b hb => ?_; replace hD := And.intro hb hD; clear hb; try simp only [fresh_cons, fresh_nil, and_true, ne_eq, neF] at hD)); try simp only [go_sem, hD, hli, ie, i0, w1, tf, c1]) | (apply hK; clear hK K)
              refine ret_pure ?_; simp only [resL_tmp, resL_nil, tupOf, go_sem, hD]
            · rw [if_neg c1] at hC
              by_cases c2 : vs.length = al.length
              · rw [if_neg (fun x => x c2)] at hC
                have c2i : ((vs.length : Nat) : Int) = ((al.length : Nat) : Int) := by rw [c2]
                have vv := valids_r vs hvj
                cases c3 : vs.all okV with
                | true =>
                  rw [c3] at vv
                  rw [c3, if_pos rfl] at hC
                  repeat' first | (refine SW.seq_k fun K hK => ?_) | (refine SW.block ?_) | ((first | refine SW.region ?_ | refine SW.cond ?_ | refine SW.skip ?_ | refine Call.of_pure (vv) ?_ | (refine allF_i fun b hb => ?_; replace hD := And.intro hb hD; clear hb; try simp only [fresh_cons, fresh_nil, and_true, ne_eq, neF] at hD)); try simp only [go_sem, hD, hli, ie, i0, w1, tf, c1, c2i]) | (apply hK; clear hK K)
                  refine Rnd.le (St.le_only ?_) (Rnd.sub (l.length - (j + 1)) (by omega) ((hI _ _).2 ⟨j + 1, _, rfl, by omega, hC, rfl⟩) (by repeat' (first | exact rfl | exact trivial | constructor)))
                  repeat (first | exact List.mem_cons_self | apply List.mem_cons_of_mem)
                | false =>
                  rw [c3] at vv
                  rw [c3, if_neg (by simp)] at hC
                  subst hC
                  repeat' first | (refine SW.seq_k fun K hK => ?_) | (refine SW.block ?_) | ((first | refine SW.region ?_ | refine SW.cond ?_ | refine SW.skip ?_ | refine SW.ret ?_ | refine Call.of_pure (vv) ?_ | (refine allF_i fun b hb => ?_; replace hD := And.intro hb hD; clear hb; try simp only [fresh_cons, fresh_nil, and_true, ne_eq, neF] at hD)); try simp only [go_sem, hD, hli, ie, i0, w1, tf, c1, c2i]) | (apply hK; clear hK K)
                  refine ret_pure ?_; simp only [resL_tmp, resL_nil, tupOf, go_sem, hD]
              · rw [if_pos c2] at hC
                subst hC
                have c2i : ¬ ((vs.length : Nat) : Int) = ((al.length : Nat) : Int) := by omega
                repeat' first | (refine SW.seq_k fun K hK => ?_) | (refine SW.block ?_) | ((first | refine SW.region ?_ | refine SW.cond ?_ | refine SW.skip ?_ | refine SW.ret ?_ | (refine allF_i fun b hb => ?_; replace hD := And.intro hb hD; clear hb; try simp only [fresh_cons, fresh_nil, and_true, ne_eq, neF] at hD)); try simp only [go_sem, hD, hli, ie, i0, w1, tf, c1, c2i]) | (apply hK; clear hK K)
                refine ret_pure ?_; simp only [resL_tmp, resL_nil, tupOf, go_sem, hD]
          · have hli : ¬ ((j : Nat) : Int) < (((l.length) : Nat) : Int) := by omega
            rw [List.drop_of_length_le (by omega)] at hC
            have hC2 : R = 0 := hC
            subst hC2
            repeat' first | (refine SW.seq_k fun K hK => ?_) | ((first | refine SW.region ?_ | refine SW.cond ?_ | refine SW.exit ?_ | refine SW.ret ?_); try simp only [go_sem, hD, hli]) | (apply hK; clear hK K) | (clear hK K; apply hK; clear hK K)
            refine ret_pure ?_; simp only [resL_tmp, resL_nil, tupOf, go_sem, hD]
end Go.Proofs.YtpidncgibgiidaaGreat
namespace Go.Ab.A34
open Go Go.Ab Go.Proofs
def fC {α : Type} (enc : α → List SV) (l : List α) : List SV := l.flatMap enc
theorem fC_snoc {α : Type} {enc : α → List SV} (l : List α) (x : α) : fC enc l ++ enc x = fC enc (l ++ [x]) := by unfold fC; rw [List.flatMap_append]; simp
theorem fC_len {α : Type} {enc : α → List SV} {k : Nat} (hk : ∀ x, (enc x).length = k) (l : List α) : l.length * k = (fC enc l).length := by
  unfold fC
  induction l with
  | nil => simp
  | cons a r ih => rw [List.flatMap_cons, List.length_append, ← ih, hk, List.length_cons, Nat.add_mul, Nat.one_mul, Nat.add_comm]
theorem fC_at {α : Type} {enc : α → List SV} {k : Nat} (hk : ∀ x, (enc x).length = k) (d : α) : ∀ (l : List α) (j : Nat), j < l.length → enc (l.getD j d) = ((fC enc l).drop (j * k)).take k
  | [], j, h => absurd h (by simp)
  | a :: l, 0, _ => by
    unfold fC
    rw [Nat.zero_mul, List.drop_zero, List.flatMap_cons, List.take_append_of_le_length (by rw [hk]; exact Nat.le_refl _), List.take_of_length_le (by rw [hk]; exact Nat.le_refl _)]
    rfl
  | a :: l, j + 1, h => by
    have := fC_at hk d l j (by rw [List.length_cons] at h; omega)
    unfold fC at *
    rw [List.flatMap_cons, show (j + 1) * k = (enc a).length + j * k by rw [hk, Nat.add_mul, Nat.one_mul, Nat.add_comm], ← List.drop_drop, List.drop_left]
    exact this
def vCs (l : List V3) : List SV := l.flatMap fun v => (encV v).map SV.sc
theorem vCs_snoc (l : List V3) (v : V3) : vCs l ++ vC v = vCs (l ++ [v]) := by
  unfold vCs
  rw [List.flatMap_append]
  rfl
theorem vCs_len (l : List V3) : l.length * 3 = (vCs l).length := fC_len (enc := fun v => (encV v).map SV.sc) (k := 3) (fun _ => rfl) l
theorem vCs_at : ∀ (l : List V3) (j : Nat), j < l.length → vF l j = ((vCs l).drop (j * 3)).take 3
  | [], j, h => absurd h (by simp)
  | a :: l, 0, _ => rfl
  | a :: l, j + 1, h => by
    have := vCs_at l j (by rw [List.length_cons] at h; omega)
    have e : (vCs (a :: l)).drop ((j + 1) * 3) = (vCs l).drop (j * 3) := by
      rw [show (j + 1) * 3 = j * 3 + 3 by omega, Nat.add_comm (j * 3) 3, ← List.drop_drop]
      rfl
    rw [e, ← this]
    rfl
theorem rowsV_ok {n : Nat} : ∀ {l : List R3} {p : Int}, rowsV n p l = 0 → ∀ r ∈ l, r.2.length = n ∧ r.2.all okV = true
  | [], p, _, r, hr => by cases hr
  | x :: l, p, h, r, hr => by
    unfold rowsV at h
    split at h
    · cases h
    · split at h
      · cases h
      · rename_i h2
        split at h
        · rename_i h3
          rcases List.mem_cons.1 hr with rfl | hr
          · exact ⟨by omega, h3⟩
          · exact rowsV_ok h r hr
        · cases h
theorem okV_size {v : V3} (h : okV v = true) : v.2.2.size ≤ 200 := by
  unfold okV vok at h
  have he : ∀ s : ByteArray, emp s = true → s.size ≤ 200 := fun s hs => by
    unfold emp at hs
    rw [barr_eq.1 hs]
    exact Nat.zero_le _
  repeat' split at h
  all_goals first | (cases h; done) | skip
  all_goals (try simp only [Bool.and_eq_true, decide_eq_true_eq] at h)
  · exact he _ h.2
  · exact he _ h
  · exact h.2
  · exact he _ h.2
theorem valid_rows {t : Tb} (h : validS t = 0) : t.rows.length ≤ 1000 ∧ t.attrs.length ≤ 16 ∧ ∀ r ∈ t.rows, r.2.length = t.attrs.length ∧ ∀ v ∈ r.2, okV v = true := by
  unfold validS at h
  split at h
  · split at h
    · cases h
    · split at h
      · exact ⟨by omega, by omega, fun r hr => ⟨(rowsV_ok h r hr).1, fun v hv => List.all_eq_true.1 (rowsV_ok h r hr).2 v hv⟩⟩
      · cases h
  · cases h
end Go.Ab.A34
namespace Go.Ab.A15
structure Dp where
  f : ByteArray
  l : List Int
  t : ByteArray
  r : List Int
def d0 : Dp := ⟨⟨#[]⟩, [], ⟨#[]⟩, []⟩
def atI (x : Int) : Nat → List Int → Int
  | _, [] => -1
  | i, y :: l => if y = x then (i : Int) else atI x (i + 1) l
theorem atI_step {x : Int} {l : List Int} {i : Nat} (h : i < l.length) : atI x i (l.drop i) = if l.getD i 0 = x then (i : Int) else atI x (i + 1) (l.drop (i + 1)) := by
  have g : l.getD i 0 = l[i] := by simp [List.getD_eq_getElem?_getD, h]
  rw [List.drop_eq_getElem_cons h, g]
  rfl
theorem atI_none {x : Int} : ∀ {l : List Int} {i : Nat}, atI x i l < 0 ↔ x ∉ l
  | [], i => by simp [atI]
  | y :: l, i => by
    unfold atI
    by_cases h : y = x
    · rw [if_pos h]
      simp [h]
    · rw [if_neg h, atI_none, List.mem_cons]
      constructor
      · rintro h2 (h3 | h3)
        · exact h h3.symm
        · exact h2 h3
      · exact fun h2 h3 => h2 (.inr h3)
theorem atI_is {x : Int} : ∀ {l : List Int} {i : Nat}, 0 ≤ atI x i l → ∃ j, atI x i l = ((i + j : Nat) : Int) ∧ j < l.length ∧ l.getD j 0 = x ∧ ∀ k, k < j → l.getD k 0 ≠ x
  | [], i, h => by simp [atI] at h
  | y :: l, i, h => by
    unfold atI at h ⊢
    by_cases h1 : y = x
    · rw [if_pos h1]
      exact ⟨0, rfl, by simp, by simp [h1], fun k hk => absurd hk (Nat.not_lt_zero _)⟩
    · rw [if_neg h1] at h ⊢
      obtain ⟨j, e1, e2, e3, e4⟩ := atI_is h
      refine ⟨j + 1, by rw [e1]; congr 1; omega, by simpa using e2, by simpa using e3, fun k hk => ?_⟩
      cases k with
      | zero => simpa using h1
      | succ k => simpa using e4 k (by omega)
theorem nodup_get {l : List Int} (h : l.Nodup) {i j : Nat} (hi : i < l.length) (hj : j < l.length) (e : l.getD i 0 = l.getD j 0) : i = j := by
  have g : ∀ k (hk : k < l.length), l.getD k 0 = l[k] := fun k hk => by simp [List.getD_eq_getElem?_getD, hk]
  rw [g i hi, g j hj] at e
  have hp := List.pairwise_iff_getElem.1 h
  rcases Nat.lt_trichotomy i j with h1 | h1 | h1
  · exact absurd e (hp i j hi hj h1)
  · exact h1
  · exact absurd e.symm (hp j i hj hi h1)
theorem atI_nodup {l : List Int} (h : l.Nodup) {p : Nat} (hp : p < l.length) : atI (l.getD p 0) 0 l = (p : Int) := by
  have hm : l.getD p 0 ∈ l := by
    have g : l.getD p 0 = l[p] := by simp [List.getD_eq_getElem?_getD, hp]
    rw [g]
    exact List.getElem_mem hp
  have h0 : 0 ≤ atI (l.getD p 0) 0 l := by
    rcases Int.lt_or_le (atI (l.getD p 0) 0 l) 0 with h1 | h1
    · exact absurd hm (atI_none.1 h1)
    · exact h1
  obtain ⟨j, e1, e2, e3, _⟩ := atI_is h0
  rw [e1, Nat.zero_add, nodup_get h e2 hp e3]
def folI (d : Dp) : List Int → Option (List (Int × Int))
  | [] => some []
  | x :: r => if atI x 0 d.l < 0 then none else match folI d r with
    | none => none
    | some q => some ((atI x 0 d.l, d.r.getD (atI x 0 d.l).toNat 0) :: q)
structure Sn where
  t : ByteArray
  a : List Int
  bf : Int
  ix : Nat
  ps : List Int
  st : Nat
def s0 : Sn := ⟨⟨#[]⟩, [], 0, 0, [], 0⟩
def nextS (s : Sn) (i k : Nat) (d : Dp) : Option Sn := if s.t = d.f then (match folI d s.a with
  | none => none
  | some q => some ⟨d.t, q.map (·.2), i, k, q.map (·.1), s.st + 1⟩) else none
def findS (t : ByteArray) (a : List Int) : Nat → List Sn → Int
  | _, [] => -1
  | i, y :: l => if y.t = t ∧ y.a = a then (i : Int) else findS t a (i + 1) l
theorem findS_none {t : ByteArray} {a : List Int} : ∀ {l : List Sn} {i : Nat}, findS t a i l < 0 ↔ ∀ s ∈ l, ¬ (s.t = t ∧ s.a = a)
  | [], i => by simp [findS]
  | y :: l, i => by
    unfold findS
    by_cases h : y.t = t ∧ y.a = a
    · rw [if_pos h]
      constructor
      · intro h2; omega
      · exact fun h2 => absurd h (h2 y List.mem_cons_self)
    · rw [if_neg h, findS_none]
      constructor
      · intro h2 s hs
        rcases List.mem_cons.1 hs with rfl | hs
        · exact h
        · exact h2 s hs
      · exact fun h2 s hs => h2 s (List.mem_cons_of_mem _ hs)
theorem findS_is {t : ByteArray} {a : List Int} : ∀ {l : List Sn} {i : Nat}, 0 ≤ findS t a i l → ∃ j, findS t a i l = ((i + j : Nat) : Int) ∧ j < l.length ∧ (l.getD j s0).t = t ∧ (l.getD j s0).a = a
  | [], i, h => by simp [findS] at h
  | y :: l, i, h => by
    unfold findS at h ⊢
    by_cases h1 : y.t = t ∧ y.a = a
    · rw [if_pos h1]
      exact ⟨0, rfl, by simp, by simp [h1.1], by simp [h1.2]⟩
    · rw [if_neg h1] at h ⊢
      obtain ⟨j, e1, e2, e3, e4⟩ := findS_is h
      exact ⟨j + 1, by rw [e1]; congr 1; omega, by simpa using e2, by simpa using e3, by simpa using e4⟩
def addS (i k : Nat) (d : Dp) (out : List Sn) : List Sn := match nextS (out.getD i s0) i k d with
  | none => out
  | some s => if 0 ≤ findS s.t s.a 0 out then out else out ++ [s]
def rndS (i : Nat) : Nat → List Dp → List Sn → List Sn
  | _, [], out => out
  | k, d :: r, out => rndS i (k + 1) r (addS i k d out)
def bfs (l : List Dp) : Nat → Nat → List Sn → List Sn
  | 0, _, out => out
  | n + 1, i, out => if i < out.length then bfs l n (i + 1) (rndS i 0 l out) else out
def root (g : Dp) : Sn := ⟨g.f, g.l, -1, 0, [], 0⟩
def states (l : List Dp) (g : Dp) : List Sn := bfs l 20000 0 [root g]
theorem rndS_step {i k : Nat} {l : List Dp} {out : List Sn} (h : k < l.length) : rndS i k (l.drop k) out = rndS i (k + 1) (l.drop (k + 1)) (addS i k (l.getD k d0) out) := by
  have g : l.getD k d0 = l[k] := by simp [List.getD_eq_getElem?_getD, h]
  rw [List.drop_eq_getElem_cons h, g]
  rfl
structure Ivs (l : List Dp) (g : Dp) (out : List Sn) : Prop where
  pos : 0 < out.length
  rt : out.getD 0 s0 = root g
  nx : ∀ j, 0 < j → j < out.length → ∃ b k, b < j ∧ k < l.length ∧ (out.getD j s0).bf = (b : Int) ∧ (out.getD j s0).ix = k ∧ nextS (out.getD b s0) b k (l.getD k d0) = some (out.getD j s0)
  nd : (out.map fun s => (s.t, s.a)).Nodup
theorem Ivs.root (l : List Dp) (g : Dp) : Ivs l g [root g] := ⟨by simp, rfl, fun j h1 h2 => by simp at h2; omega, by simp⟩
theorem getD_app {α : Type} {l r : List α} {i : Nat} {d : α} (h : i < l.length) : (l ++ r).getD i d = l.getD i d := by
  simp [List.getD_eq_getElem?_getD, List.getElem?_append_left h]
theorem getD_end {α : Type} {l : List α} {x d : α} : (l ++ [x]).getD l.length d = x := by simp [List.getD_eq_getElem?_getD]
theorem addS_cases (i k : Nat) (d : Dp) (out : List Sn) : (addS i k d out = out ∧ ∀ s, nextS (out.getD i s0) i k d = some s → 0 ≤ findS s.t s.a 0 out) ∨ ∃ s, nextS (out.getD i s0) i k d = some s ∧ findS s.t s.a 0 out < 0 ∧ addS i k d out = out ++ [s] := by
  unfold addS
  cases h : nextS (out.getD i s0) i k d with
  | none => exact .inl ⟨rfl, fun s hs => by cases hs⟩
  | some s =>
    simp only
    by_cases h2 : 0 ≤ findS s.t s.a 0 out
    · rw [if_pos h2]
      exact .inl ⟨rfl, fun s' hs => by cases hs; exact h2⟩
    · rw [if_neg h2]
      exact .inr ⟨s, rfl, by omega, rfl⟩
theorem nextS_bf {s s' : Sn} {i k : Nat} {d : Dp} (h : nextS s i k d = some s') : s'.bf = (i : Int) ∧ s'.ix = k ∧ s'.t = d.t ∧ s.t = d.f ∧ s'.st = s.st + 1 ∧ ∃ q, folI d s.a = some q ∧ s'.a = q.map (·.2) ∧ s'.ps = q.map (·.1) := by
  unfold nextS at h
  by_cases h1 : s.t = d.f
  · rw [if_pos h1] at h
    cases h2 : folI d s.a with
    | none => rw [h2] at h; cases h
    | some q =>
      rw [h2] at h
      cases h
      exact ⟨rfl, rfl, rfl, h1, rfl, q, rfl, rfl, rfl⟩
  · rw [if_neg h1] at h; cases h
theorem Ivs.add {l : List Dp} {g : Dp} {out : List Sn} (h : Ivs l g out) {i k : Nat} (hi : i < out.length) (hk : k < l.length) : Ivs l g (addS i k (l.getD k d0) out) ∧ ∃ r, addS i k (l.getD k d0) out = out ++ r := by
  rcases addS_cases i k (l.getD k d0) out with ⟨e, _⟩ | ⟨s, e1, e2, e⟩
  · rw [e]; exact ⟨h, [], by simp⟩
  · rw [e]
    refine ⟨⟨by simp, by rw [getD_app h.pos]; exact h.rt, fun j h1 h2 => ?_, ?_⟩, [s], rfl⟩
    · rw [List.length_append, List.length_singleton] at h2
      rcases Nat.lt_or_ge j out.length with h3 | h3
      · obtain ⟨b, k', g1, g2, g3, g4, g5⟩ := h.nx j h1 h3
        rw [getD_app h3]
        exact ⟨b, k', g1, g2, g3, g4, by rw [getD_app (show b < out.length by omega)]; exact g5⟩
      · obtain rfl : j = out.length := by omega
        rw [getD_end]
        obtain ⟨b1, b2, _⟩ := nextS_bf e1
        exact ⟨i, k, hi, hk, b1, b2, by rw [getD_app hi]; exact e1⟩
    · rw [List.map_append, List.nodup_append]
      refine ⟨h.nd, by simp, fun x hx y hy => ?_⟩
      obtain ⟨s', hs', rfl⟩ := List.mem_map.1 hx
      simp only [List.map_cons, List.map_nil, List.mem_singleton] at hy
      subst hy
      intro e
      exact findS_none.1 e2 s' hs' (by simpa using e)
def Done (l : List Dp) (out : List Sn) (i k : Nat) : Prop := ∀ d s, l[k]? = some d → nextS (out.getD i s0) i k d = some s → 0 ≤ findS s.t s.a 0 out
theorem findS_app {t : ByteArray} {a : List Int} {l r : List Sn} (h : 0 ≤ findS t a 0 l) : 0 ≤ findS t a 0 (l ++ r) := by
  rcases Int.lt_or_le (findS t a 0 (l ++ r)) 0 with h1 | h1
  · have : findS t a 0 l < 0 := findS_none.2 fun s hs => findS_none.1 h1 s (List.mem_append_left _ hs)
    omega
  · exact h1
theorem Done.app {l : List Dp} {out r : List Sn} {i k : Nat} (h : Done l out i k) (hi : i < out.length) : Done l (out ++ r) i k := fun d s hd hs => by
  rw [getD_app hi] at hs
  exact findS_app (h d s hd hs)
theorem Ivs.rnd {l : List Dp} {g : Dp} {i : Nat} : ∀ (n k : Nat) (out : List Sn), n = l.length - k → k ≤ l.length → Ivs l g out → i < out.length → (∀ k', k' < k → Done l out i k') →
    Ivs l g (rndS i k (l.drop k) out) ∧ (∃ r, rndS i k (l.drop k) out = out ++ r) ∧ ∀ k', k' < l.length → Done l (rndS i k (l.drop k) out) i k' := by
  intro n
  induction n with
  | zero =>
    intro k out hn hk h hi hd
    obtain rfl : k = l.length := by omega
    rw [List.drop_length]
    exact ⟨h, ⟨[], by simp [rndS]⟩, hd⟩
  | succ n ih =>
    intro k out hn hk h hi hd
    have hk2 : k < l.length := by omega
    rw [rndS_step hk2]
    obtain ⟨h1, r, h2⟩ := h.add hi hk2
    have hd2 : ∀ k', k' < k + 1 → Done l (addS i k (l.getD k d0) out) i k' := fun k' hk' => by
      rcases Nat.lt_or_ge k' k with h3 | h3
      · rw [h2]; exact (hd k' h3).app hi
      · obtain rfl : k' = k := by omega
        intro d s hd hs
        have gd : l.getD k' d0 = d := by rw [List.getD_eq_getElem?_getD, hd]; rfl
        rcases addS_cases i k' (l.getD k' d0) out with ⟨e, e2⟩ | ⟨s', e1, e2, e⟩
        · rw [e] at hs ⊢
          rw [← gd] at hs
          exact e2 s hs
        · rw [e] at hs ⊢
          rw [getD_app hi, ← gd, e1] at hs
          cases hs
          rcases Int.lt_or_le (findS s.t s.a 0 (out ++ [s])) 0 with h4 | h4
          · exact absurd ⟨rfl, rfl⟩ (findS_none.1 h4 s (by simp))
          · exact h4
    obtain ⟨g1, ⟨r2, g2⟩, g3⟩ := ih (k + 1) _ (by omega) (by omega) h1 (by rw [h2]; simp; omega) hd2
    exact ⟨g1, ⟨r ++ r2, by rw [g2, h2, List.append_assoc]⟩, g3⟩
def Bds (l : List Dp) (g : Dp) : Prop := ∀ out, Ivs l g out → out.length < 20000
theorem Ivs.bfs {l : List Dp} {g : Dp} (hB : Bds l g) : ∀ (n i : Nat) (out : List Sn), n + i = 20000 → i ≤ out.length → Ivs l g out → (∀ i', i' < i → ∀ k', k' < l.length → Done l out i' k') →
    Ivs l g (bfs l n i out) ∧ ∀ i', i' < (bfs l n i out).length → ∀ k', k' < l.length → Done l (bfs l n i out) i' k' := by
  intro n
  induction n with
  | zero =>
    intro i out hn hi h hd
    have := hB out h
    omega
  | succ n ih =>
    intro i out hn hi h hd
    unfold A15.bfs
    by_cases hlt : i < out.length
    · rw [if_pos hlt]
      obtain ⟨g1, ⟨r, g2⟩, g3⟩ := Ivs.rnd (i := i) l.length 0 out (by omega) (by omega) h hlt (fun k hk => absurd hk (Nat.not_lt_zero _))
      rw [List.drop_zero] at g1 g2 g3
      refine ih (i + 1) _ (by omega) (by rw [g2, List.length_append]; omega) g1 fun i' hi' k' hk' => ?_
      rcases Nat.lt_or_ge i' i with h1 | h1
      · rw [g2]; exact (hd i' h1 k' hk').app (by omega)
      · obtain rfl : i' = i := by omega
        exact g3 k' hk'
    · rw [if_neg hlt]
      obtain rfl : i = out.length := by omega
      exact ⟨h, hd⟩
end Go.Ab.A15
namespace Go.Ab.A15
theorem nodup_bound : ∀ (N : Nat) (L : List Nat), L.Nodup → (∀ x ∈ L, x < N) → L.length ≤ N
  | 0, L, _, h => by
    cases L with
    | nil => simp
    | cons x r => exact absurd (h x List.mem_cons_self) (Nat.not_lt_zero _)
  | N + 1, L, hn, h => by
    have h1 := nodup_bound N (L.erase N) (hn.erase N) (fun x hx => by
      have h2 := h x (List.mem_of_mem_erase hx)
      have h3 : x ≠ N := (hn.mem_erase_iff.1 hx).1
      omega)
    by_cases hm : N ∈ L
    · rw [List.length_erase_of_mem hm] at h1; omega
    · rw [List.erase_of_not_mem hm] at h1; omega
def In16 (a : List Int) : Prop := ∀ x ∈ a, 0 ≤ x ∧ x < 16
structure Small (l : List Dp) (g : Dp) (nm : List ByteArray) : Prop where
  n4 : nm.length ≤ 4
  g3 : g.l.length ≤ 3
  gl : In16 g.l
  gf : g.f ∈ nm
  lr : ∀ d ∈ l, d.l.length = d.r.length
  r16 : ∀ d ∈ l, In16 d.r
  lt : ∀ d ∈ l, d.t ∈ nm
theorem folI_len {d : Dp} : ∀ {a : List Int} {q : List (Int × Int)}, folI d a = some q → q.length = a.length
  | [], q, h => by cases h; rfl
  | x :: r, q, h => by
    unfold folI at h
    by_cases h1 : atI x 0 d.l < 0
    · rw [if_pos h1] at h; cases h
    · rw [if_neg h1] at h
      cases h2 : folI d r with
      | none => rw [h2] at h; cases h
      | some q' => rw [h2] at h; cases h; rw [List.length_cons, folI_len h2, List.length_cons]
theorem folI_mem {d : Dp} : ∀ {a : List Int} {q : List (Int × Int)}, folI d a = some q → ∀ p ∈ q, ∃ j, p.1 = ((j : Nat) : Int) ∧ j < d.l.length ∧ p.2 = d.r.getD j 0
  | [], q, h, p, hp => by cases h; cases hp
  | x :: r, q, h, p, hp => by
    unfold folI at h
    by_cases h1 : atI x 0 d.l < 0
    · rw [if_pos h1] at h; cases h
    · rw [if_neg h1] at h
      cases h2 : folI d r with
      | none => rw [h2] at h; cases h
      | some q' =>
        rw [h2] at h
        cases h
        rcases List.mem_cons.1 hp with rfl | hp
        · obtain ⟨j, e1, e2, _⟩ := atI_is (x := x) (i := 0) (show 0 ≤ atI x 0 d.l by omega)
          rw [Nat.zero_add] at e1
          exact ⟨j, e1, e2, by show d.r.getD (atI x 0 d.l).toNat 0 = _; rw [e1, Int.toNat_natCast]⟩
        · exact folI_mem h2 p hp
theorem getD_mem' {α : Type} (d : α) {l : List α} {i : Nat} (h : i < l.length) : l.getD i d ∈ l := by
  have g : l.getD i d = l[i] := by simp [List.getD_eq_getElem?_getD, h]
  rw [g]
  exact List.getElem_mem h
theorem Ivs.all {l : List Dp} {g : Dp} {nm : List ByteArray} (hs : Small l g nm) {out : List Sn} (h : Ivs l g out) : ∀ j, j < out.length → (out.getD j s0).t ∈ nm ∧ In16 (out.getD j s0).a ∧ (out.getD j s0).a.length = g.l.length := by
  intro j
  induction j using Nat.strongRecOn with
  | ind j ih =>
    intro hj
    rcases Nat.eq_zero_or_pos j with rfl | h0
    · rw [h.rt]
      exact ⟨hs.gf, hs.gl, rfl⟩
    · obtain ⟨b, k, hb, hk, _, _, hn⟩ := h.nx j h0 hj
      obtain ⟨_, _, e3, _, _, q, e4, e5, _⟩ := nextS_bf hn
      have hm := getD_mem' d0 hk
      refine ⟨by rw [e3]; exact hs.lt _ hm, fun x hx => ?_, ?_⟩
      · rw [e5] at hx
        obtain ⟨p, hp, rfl⟩ := List.mem_map.1 hx
        obtain ⟨i, _, hi, e⟩ := folI_mem e4 p hp
        rw [e]
        exact hs.r16 _ hm _ (getD_mem' 0 (by rw [← hs.lr _ hm]; exact hi))
      · rw [e5, List.length_map, folI_len e4, (ih b hb (by omega)).2.2]
def idxN (t : ByteArray) : List ByteArray → Nat
  | [] => 0
  | y :: r => if y = t then 0 else idxN t r + 1
theorem idxN_lt {t : ByteArray} : ∀ {nm : List ByteArray}, t ∈ nm → idxN t nm < nm.length
  | y :: r, h => by
    unfold idxN
    by_cases h1 : y = t
    · rw [if_pos h1]; simp
    · rw [if_neg h1, List.length_cons]
      have := idxN_lt ((List.mem_cons.1 h).resolve_left (fun e => h1 e.symm))
      omega
theorem idxN_inj {t u : ByteArray} : ∀ {nm : List ByteArray}, t ∈ nm → u ∈ nm → idxN t nm = idxN u nm → t = u
  | y :: r, h1, h2, h => by
    unfold idxN at h
    by_cases e1 : y = t
    · rw [if_pos e1] at h
      by_cases e2 : y = u
      · rw [← e1, ← e2]
      · rw [if_neg e2] at h; omega
    · rw [if_neg e1] at h
      by_cases e2 : y = u
      · rw [if_pos e2] at h; omega
      · rw [if_neg e2] at h
        exact idxN_inj ((List.mem_cons.1 h1).resolve_left (fun e => e1 e.symm)) ((List.mem_cons.1 h2).resolve_left (fun e => e2 e.symm)) (by omega)
/-! proofs -/
def p0 : Int × List Int := (0, [])
end Go.Ab.A15
namespace Go.Ab.A15
def imgR (n : Nat) (d : Dp) (r : List Int) : List Int := (List.range n).map fun (i : Nat) => if atI (i : Int) 0 d.r < 0 then 0 else r.getD (d.l.getD (atI (i : Int) 0 d.r).toNat 0).toNat 0
def firstR (n : Nat) (g : Dp) : List Int := (List.range n).map fun (i : Nat) => if atI (i : Int) 0 g.l < 0 then 0 else atI (i : Int) 0 g.l + 1
inductive Cl (nm : List ByteArray) (ns : List Nat) (l : List Dp) (g : Dp) : Nat → List Int → Prop where
  | first : Cl nm ns l g (idxN g.f nm) (firstR (ns.getD (idxN g.f nm) 0) g)
  | step (d : Dp) (r : List Int) (hd : d ∈ l) (h : Cl nm ns l g (idxN d.f nm) r) : Cl nm ns l g (idxN d.t nm) (imgR (ns.getD (idxN d.t nm) 0) d r)
theorem getD_range {α : Type} {n i : Nat} (f : Nat → α) (d : α) (h : i < n) : ((List.range n).map f).getD i d = f i := by simp [List.getD_eq_getElem?_getD, h]
theorem Cl.len {nm : List ByteArray} {ns : List Nat} {l : List Dp} {g : Dp} {t : Nat} {r : List Int} (h : Cl nm ns l g t r) : r.length = ns.getD t 0 := by
  cases h <;> simp [firstR, imgR]
theorem atI_lt {x : Int} {l : List Int} (h : ¬ atI x 0 l < 0) : (atI x 0 l).toNat < l.length ∧ l.getD (atI x 0 l).toNat 0 = x := by
  obtain ⟨j, e1, e2, e3, _⟩ := atI_is (x := x) (l := l) (i := 0) (by omega)
  rw [e1, Nat.zero_add, Int.toNat_natCast]
  exact ⟨e2, e3⟩
theorem getD_out {l : List Int} {i : Nat} (h : l.length ≤ i) : l.getD i 0 = 0 := by
  rw [List.getD_eq_getElem?_getD, List.getElem?_eq_none h]; rfl
theorem Cl.val {nm : List ByteArray} {ns : List Nat} {l : List Dp} {g : Dp} {t : Nat} {r : List Int} (h : Cl nm ns l g t r) : ∀ i, 0 ≤ r.getD i 0 ∧ r.getD i 0 ≤ g.l.length := by
  induction h with
  | first =>
    intro i
    rcases Nat.lt_or_ge i (ns.getD (idxN g.f nm) 0) with hi | hi
    · unfold firstR
      rw [getD_range _ _ hi]
      split
      · omega
      · rename_i h1
        have := (atI_lt h1).1
        omega
    · rw [getD_out (by simp [firstR]; simpa using hi)]; omega
  | step d r hd h ih =>
    intro i
    rcases Nat.lt_or_ge i (ns.getD (idxN d.t nm) 0) with hi | hi
    · unfold imgR
      rw [getD_range _ _ hi]
      split
      · omega
      · exact ih _
    · rw [getD_out (by simp [imgR]; simpa using hi)]; omega
structure Fit (nm : List ByteArray) (ns : List Nat) (d : Dp) : Prop where
  f : d.f ∈ nm
  t : d.t ∈ nm
  lr : d.l.length = d.r.length
  l : ∀ x ∈ d.l, 0 ≤ x ∧ x < ns.getD (idxN d.f nm) 0
  r : ∀ x ∈ d.r, 0 ≤ x ∧ x < ns.getD (idxN d.t nm) 0
  nl : d.l.Nodup
  nr : d.r.Nodup
theorem folI_of {d : Dp} : ∀ {a : List Int}, (∀ x ∈ a, x ∈ d.l) → ∃ q, folI d a = some q ∧ q.map (·.2) = a.map fun x => d.r.getD (atI x 0 d.l).toNat 0
  | [], _ => ⟨[], rfl, rfl⟩
  | x :: r, h => by
    obtain ⟨q, e1, e2⟩ := folI_of (a := r) (d := d) fun y hy => h y (List.mem_cons_of_mem _ hy)
    have hx : ¬ atI x 0 d.l < 0 := fun h1 => atI_none.1 h1 (h x List.mem_cons_self)
    exact ⟨(atI x 0 d.l, d.r.getD (atI x 0 d.l).toNat 0) :: q, by unfold folI; rw [if_neg hx, e1], by rw [List.map_cons, List.map_cons, e2]⟩
theorem Cl.known {nm : List ByteArray} {ns : List Nat} {l : List Dp} {g : Dp} {out : List Sn} (hl : ∀ d ∈ l, Fit nm ns d) (hg : Fit nm ns g) (hr : 0 ≤ findS g.f g.l 0 out) (hd : ∀ i', i' < out.length → ∀ k', k' < l.length → Done l out i' k')
    {t : Nat} {r : List Int} (h : Cl nm ns l g t r) : ∀ (u : ByteArray) (a : List Int), u ∈ nm → idxN u nm = t → a.length = g.l.length → (∀ i, i < a.length → 0 ≤ a.getD i 0 ∧ a.getD i 0 < ns.getD t 0 ∧ r.getD (a.getD i 0).toNat 0 = (i : Int) + 1) → 0 ≤ findS u a 0 out := by
  induction h with
  | first =>
    intro u a hu ht hal ha
    obtain rfl := idxN_inj hu hg.f ht
    have e : a = g.l := by
      refine List.ext_getElem hal fun i h1 h2 => ?_
      obtain ⟨a1, a2, a3⟩ := ha i h1
      have ga : a.getD i 0 = a[i] := by simp [List.getD_eq_getElem?_getD, h1]
      have gl : g.l.getD i 0 = g.l[i] := by simp [List.getD_eq_getElem?_getD, h2]
      rw [← ga, ← gl]
      unfold firstR at a3
      rw [getD_range _ _ (by omega)] at a3
      rw [show (((a.getD i 0).toNat : Nat) : Int) = a.getD i 0 by omega] at a3
      split at a3
      · omega
      · rename_i h3
        obtain ⟨b1, b2⟩ := atI_lt h3
        have : (atI (a.getD i 0) 0 g.l).toNat = i := by omega
        rw [this] at b2
        exact b2.symm
    rw [e]
    exact hr
  | step d r hdm h ih =>
    intro u a hu ht hal ha
    have F := hl d hdm
    obtain rfl := idxN_inj hu F.t ht
    have key : ∀ i, i < a.length → ¬ atI (a.getD i 0) 0 d.r < 0 ∧ r.getD (d.l.getD (atI (a.getD i 0) 0 d.r).toNat 0).toNat 0 = (i : Int) + 1 := fun i hi => by
      obtain ⟨a1, a2, a3⟩ := ha i hi
      unfold imgR at a3
      rw [getD_range _ _ (by omega)] at a3
      rw [show (((a.getD i 0).toNat : Nat) : Int) = a.getD i 0 by omega] at a3
      split at a3
      · omega
      · rename_i h3
        exact ⟨h3, a3⟩
    have gm : ∀ i, i < (a.map fun x => d.l.getD (atI x 0 d.r).toNat 0).length → i < a.length ∧ (a.map fun x => d.l.getD (atI x 0 d.r).toNat 0).getD i 0 = d.l.getD (atI (a.getD i 0) 0 d.r).toNat 0 := fun i hi => by
      rw [List.length_map] at hi
      exact ⟨hi, by simp [List.getD_eq_getElem?_getD, hi]⟩
    have in_l : ∀ i, i < a.length → d.l.getD (atI (a.getD i 0) 0 d.r).toNat 0 ∈ d.l := fun i hi => getD_mem' 0 (by rw [F.lr]; exact (atI_lt (key i hi).1).1)
    have k1 := ih d.f (a.map fun x => d.l.getD (atI x 0 d.r).toNat 0) F.f rfl (by rw [List.length_map, hal]) (fun i hi => by
      obtain ⟨g1, g2⟩ := gm i hi
      have hb := F.l _ (in_l i g1)
      rw [g2]
      exact ⟨hb.1, hb.2, (key i g1).2⟩)
    obtain ⟨j, _, j2, j3, j4⟩ := findS_is k1
    obtain ⟨q, q1, q2⟩ := folI_of (d := d) (a := a.map fun x => d.l.getD (atI x 0 d.r).toNat 0) (fun x hx => by
      obtain ⟨i, hi, rfl⟩ := List.getElem_of_mem hx
      obtain ⟨g1, g2⟩ := gm i hi
      have := in_l i g1
      rw [← g2] at this
      rwa [List.getD_eq_getElem?_getD, List.getElem?_eq_getElem hi] at this)
    obtain ⟨kk, hk, hkd⟩ := List.getElem_of_mem hdm
    have := hd j j2 kk hk d ⟨d.t, q.map (·.2), j, kk, q.map (·.1), (out.getD j s0).st + 1⟩ (by rw [List.getElem?_eq_getElem hk, hkd]) (by
      unfold nextS
      rw [if_pos j3, j4, q1])
    simp only at this
    rw [q2, List.map_map] at this
    have e : (a.map ((fun x => d.r.getD (atI x 0 d.l).toNat 0) ∘ fun x => d.l.getD (atI x 0 d.r).toNat 0)) = a := by
      refine List.ext_getElem (by simp) fun i h1 h2 => ?_
      have ga : a.getD i 0 = a[i] := by simp [List.getD_eq_getElem?_getD, h2]
      obtain ⟨b1, b2⟩ := atI_lt (key i h2).1
      rw [List.getElem_map, Function.comp_apply, ← ga, atI_nodup F.nl (by rw [F.lr]; exact b1), Int.toNat_natCast, b2]
    rw [e] at this
    exact this
end Go.Ab.A15
namespace Go.Ab.A15
open Go Go.Ab Go.Ab.A34
def t0 : Tb := ⟨⟨#[]⟩, [], []⟩
abbrev tC (t : Tb) : List SV := [Str t.name, SL t.attrs, RL t.rows]
def tF (l : List Tb) (i : Nat) : List SV := tC (l.getD i t0)
abbrev TL (l : List Tb) : SV := .fl l.length 3 (tF l)
abbrev DB (l : List Tb) : SV := .agg [TL l]
def iF (l : List Int) (i : Nat) : List SV := [I64 (l.getD i 0)]
abbrev IL (l : List Int) : SV := .fl l.length 1 (iF l)
abbrev dC (d : Dp) : List SV := [Str d.f, IL d.l, Str d.t, IL d.r]
abbrev DV (d : Dp) : SV := .agg (dC d)
def tabI (x : ByteArray) : Nat → List Tb → Int
  | _, [] => -1
  | i, y :: l => if y.name = x then (i : Int) else tabI x (i + 1) l
theorem tabI_step {x : ByteArray} {l : List Tb} {i : Nat} (h : i < l.length) : tabI x i (l.drop i) = if (l.getD i t0).name = x then (i : Int) else tabI x (i + 1) (l.drop (i + 1)) := by
  have g : l.getD i t0 = l[i] := by simp [List.getD_eq_getElem?_getD, h]
  rw [List.drop_eq_getElem_cons h, g]
  rfl
theorem tabI_is {x : ByteArray} : ∀ {l : List Tb} {i : Nat}, (tabI x i l = -1 ∧ ∀ t ∈ l, t.name ≠ x) ∨ ∃ j, tabI x i l = ((i + j : Nat) : Int) ∧ j < l.length ∧ (l.getD j t0).name = x ∧ ∀ k, k < j → (l.getD k t0).name ≠ x
  | [], i => .inl ⟨rfl, fun t ht => by cases ht⟩
  | y :: l, i => by
    unfold tabI
    by_cases h : y.name = x
    · rw [if_pos h]
      exact .inr ⟨0, rfl, by simp, by simp [h], fun k hk => absurd hk (Nat.not_lt_zero _)⟩
    · rw [if_neg h]
      rcases tabI_is (x := x) (l := l) (i := i + 1) with ⟨h1, h2⟩ | ⟨j, e1, e2, e3, e4⟩
      · refine .inl ⟨h1, fun t ht => ?_⟩
        rcases List.mem_cons.1 ht with rfl | ht
        · exact h
        · exact h2 t ht
      · refine .inr ⟨j + 1, by rw [e1]; congr 1; omega, by simpa using e2, by simpa using e3, fun k hk => ?_⟩
        cases k with
        | zero => simpa using h
        | succ k => simpa using e4 k (by omega)
theorem iF_take {l : List Int} {i j : Nat} (hj : j < i) : iF l j = [I64 ((l.take i).getD j 0)] := by
  rw [getD_take _ _ _ _ hj]
  rfl
theorem tF_take {l : List Tb} {i j : Nat} (hj : j < i) : tF l j = tC ((l.take i).getD j t0) := by
  rw [getD_take _ _ _ _ hj]
  rfl
def winB (l : List Int) (n : Int) : Bool := l.all fun a => decide (0 ≤ a) && decide (a < n)
theorem winB_iff {l : List Int} {n : Int} : winB l n = true ↔ ∀ a ∈ l, 0 ≤ a ∧ a < n := by
  unfold winB
  simp [List.all_eq_true]
theorem posFi_step {p : Int → Bool} {l : List Int} {i : Nat} (h : i < l.length) : posF p i (l.drop i) = if p (l.getD i 0) = true then (i : Int) else posF p (i + 1) (l.drop (i + 1)) := posF_step 0 h
theorem nodup_take {l : List Int} : l.Nodup ↔ ∀ i, i < l.length → l.getD i 0 ∉ l.take i := by
  constructor
  · intro h i hi hm
    obtain ⟨j, hj, e⟩ := List.getElem_of_mem hm
    rw [List.length_take] at hj
    rw [List.getElem_take] at e
    have hj2 : j < l.length := by omega
    have := nodup_get h (i := j) (j := i) hj2 hi (by rw [← e]; simp [List.getD_eq_getElem?_getD, hj2])
    omega
  · intro h
    refine List.pairwise_iff_getElem.2 fun i j hi hj hij e => h j hj ?_
    have g : l.getD j 0 = l[j] := by simp [List.getD_eq_getElem?_getD, hj]
    rw [g, ← e]
    have hl : i < (l.take j).length := by rw [List.length_take]; omega
    have : (l.take j)[i] = l[i] := List.getElem_take
    rw [← this]
    exact List.getElem_mem hl
def fitsS (db : List Tb) (d : Dp) : Int :=
  if tabI d.f 0 db < 0 ∨ tabI d.t 0 db < 0 then 4
  else if ¬ d.l.length = d.r.length ∨ winB d.l (db.getD (tabI d.f 0 db).toNat t0).attrs.length = false ∨ winB d.r (db.getD (tabI d.t 0 db).toNat t0).attrs.length = false then 6
  else if d.l.Nodup ∧ d.r.Nodup then 0 else 1
end Go.Ab.A15
namespace Go.Proofs.YtpidncgibgiidaaGreat
open Go Go.Ab Go.Ab.A34 Go.Ab.A15
variable [Gl] [Tabs]
theorem find1_p (x : ByteArray) (t : Tb) : PCall Tryz.prog 137 [TB t, .fp [Str x]] (SB (decide (t.name = x))) := by
  obtain ⟨a, b, c⟩ := t
  simp only
  by_cases he : a = x
  · have ee : (a.toList == x.toList) = true := barr_eq.2 he
    rw [decide_eq_true he]
    refine Call.enter' (N := 8) (rs := [.tmp 3]) Tryz.func137 rfl rfl rfl (by decide) rfl ?_; simp only [argT]; have hD : (0 : Nat) = 0 := rfl
    repeat' first | (refine SW.seq_k fun K hK => ?_) | ((first | refine SW.region ?_ | refine SW.ret ?_ | (refine allF_i fun b hb => ?_; replace hD := And.intro hb hD; clear hb; try simp only [fresh_cons, fresh_nil, and_true, ne_eq, neF] at hD)); try simp only [go_sem, hD, ee]) | (apply hK; clear hK K)
    refine ret_pure ?_; simp only [resL_tmp, resL_nil, tupOf, go_sem, hD]
  · have ee : (a.toList == x.toList) = false := by rw [Bool.eq_false_iff]; exact fun h => he (barr_eq.1 h)
    rw [decide_eq_false he]
    refine Call.enter' (N := 8) (rs := [.tmp 3]) Tryz.func137 rfl rfl rfl (by decide) rfl ?_; simp only [argT]; have hD : (0 : Nat) = 0 := rfl
    repeat' first | (refine SW.seq_k fun K hK => ?_) | ((first | refine SW.region ?_ | refine SW.ret ?_ | (refine allF_i fun b hb => ?_; replace hD := And.intro hb hD; clear hb; try simp only [fresh_cons, fresh_nil, and_true, ne_eq, neF] at hD)); try simp only [go_sem, hD, ee]) | (apply hK; clear hK K)
    refine ret_pure ?_; simp only [resL_tmp, resL_nil, tupOf, go_sem, hD]
theorem indexT_p (x : ByteArray) (l : List Tb) (n : Nat) (hl : n ≤ 9223372036854775807) (hn : l.length = n) (f : Nat → List SV) (hf : ∀ i, i < n → f i = tC (l.getD i t0)) : PCall Tryz.prog 54 [.fl n 3 f, .fn (.func 137) [] [.fp [Str x]]] (I64 (tabI x 0 l)) := by
  subst hn
  obtain ⟨R, hR⟩ : ∃ R, R = tabI x 0 l := ⟨_, rfl⟩
  rw [← hR]
  refine Call.enter' (N := 19) (rs := [.tmp 4]) Tryz.func54 rfl rfl rfl (by decide) rfl ?_; simp only [argT]; have hD : (0 : Nat) = 0 := rfl
  repeat' first | (refine SW.seq_k fun K hK => ?_) | (refine SW.block ?_) | (refine SW.region ?_; try simp only [go_sem, hD]) | (apply hK; clear hK K)
  obtain ⟨I, hI⟩ : ∃ I : Nat → St → Prop, ∀ k S, I k S ↔ (∃ (i : Nat) , k = l.length - i ∧ i ≤ l.length ∧ R = tabI x i (l.drop i) ∧ S = ⟨[(0, .fl l.length 3 f), (1, .fn (.func 137) [] [.fp [Str x]]), (7, I64 l.length), (8, I64 i)], []⟩) := ⟨fun k S => _, fun _ _ => Iff.rfl⟩
  refine SW.loop' I (l.length) ((hI _ _).2 ⟨0, rfl, Nat.zero_le _, by rw [List.drop_zero]; exact hR, rfl⟩) (by repeat' (first | exact rfl | exact trivial | constructor)) ?_
  intro k S hIn
  obtain ⟨i, rfl, hi, hC, rfl⟩ := (hI _ _).1 hIn
  clear hIn
  have ie : ((i : Nat) : Int).toNat = i := Int.toNat_natCast _
  have i0 : (0 : Int) ≤ ((i : Nat) : Int) := by omega
  clear hR
  by_cases hlt : i < l.length
  · have hli : ((i : Nat) : Int) < (((l.length) : Nat) : Int) := by omega
    have w1 : IntKind.i64.wrap ((i : Int) + 1) = ((i + 1 : Nat) : Int) := by rw [i64_wrap (by omega) (by omega)]; omega
    rw [tabI_step hlt] at hC
    have fi := hf i hlt
    have c := find1_p x (l.getD i t0)
    generalize l.getD i t0 = t at *
    by_cases he : t.name = x
    · rw [if_pos he] at hC
      rw [decide_eq_true he] at c
      subst hC
      repeat' first | (refine SW.seq_k fun K hK => ?_) | (refine SW.block ?_) | ((first | refine SW.region ?_ | refine SW.cond ?_ | refine SW.skip ?_ | refine SW.ret ?_ | refine Call.of_pure (c) ?_); try simp only [go_sem, hD, hli, ie, i0, w1, fi]) | (apply hK; clear hK K)
      refine ret_pure ?_; simp only [resL_tmp, resL_nil, tupOf, go_sem, hD]
    · rw [if_neg he] at hC
      rw [decide_eq_false he] at c
      repeat' first | (refine SW.seq_k fun K hK => ?_) | (refine SW.block ?_) | ((first | refine SW.region ?_ | refine SW.cond ?_ | refine SW.skip ?_ | refine Call.of_pure (c) ?_); try simp only [go_sem, hD, hli, ie, i0, w1, fi]) | (apply hK; clear hK K)
      refine Rnd.sub (l.length - (i + 1)) (by omega) ((hI _ _).2 ⟨i + 1, rfl, by omega, hC, rfl⟩) (by repeat' (first | exact rfl | exact trivial | constructor))
  · have hli : ¬ ((i : Nat) : Int) < (((l.length) : Nat) : Int) := by omega
    rw [List.drop_of_length_le (by omega)] at hC
    have hC2 : R = -1 := hC
    subst hC2
    repeat' first | (refine SW.seq_k fun K hK => ?_) | ((first | refine SW.region ?_ | refine SW.cond ?_ | refine SW.exit ?_ | refine SW.ret ?_); try simp only [go_sem, hD, hli]) | (apply hK; clear hK K) | (clear hK K; apply hK; clear hK K)
    refine ret_pure ?_; simp only [resL_tmp, resL_nil, tupOf, go_sem, hD]
theorem find_p (x : ByteArray) (l : List Tb) (n : Nat) (hl : n ≤ 9223372036854775807) (hn : l.length = n) (f : Nat → List SV) (hf : ∀ i, i < n → f i = tC (l.getD i t0)) : PCall Tryz.prog 106 [.fl n 3 f, Str x] (I64 (tabI x 0 l)) := by
  have ix := indexT_p x l n hl hn f hf
  generalize tabI x 0 l = R at *
  refine Call.enter' (N := 8) (rs := [.tmp 4]) Tryz.func106 rfl rfl rfl (by decide) rfl ?_; simp only [argT]; have hD : (0 : Nat) = 0 := rfl
  repeat' first | ((refine Ab.SW.le (St.le_freezeP (i := 3) (n := 1) rfl (by rw [find_cons, if_pos rfl]) (by exact Nat.le_refl 1)) ?_); (rw [del_head]); (simp only [getN, Blk.get])) | (refine SW.seq_k fun K hK => ?_) | ((first | refine SW.region ?_ | refine SW.ret ?_ | refine Call.of_pure (ix) ?_ | (refine allF_i fun b hb => ?_; replace hD := And.intro hb hD; clear hb; try simp only [fresh_cons, fresh_nil, and_true, ne_eq, neF] at hD)); try simp only [go_sem, hD]) | (apply hK; clear hK K)
  refine ret_pure ?_; simp only [resL_tmp, resL_nil, tupOf, go_sem, hD]
theorem table_r (x : ByteArray) (l : List Tb) (n : Nat) (hl : n ≤ 9223372036854775807) (hn : l.length = n) (f : Nat → List SV) (hf : ∀ i, i < n → f i = tC (l.getD i t0)) : PCall Tryz.prog 33 [.fl n 3 f, Str x] (I64 (tabI x 0 l)) := by
  subst hn
  obtain ⟨R, hR⟩ : ∃ R, R = tabI x 0 l := ⟨_, rfl⟩
  rw [← hR]
  refine Call.enter' (N := 20) (rs := [.tmp 4]) Tryz.func33 rfl rfl rfl (by decide) rfl ?_; simp only [argT]; have hD : (0 : Nat) = 0 := rfl
  repeat' first | (refine SW.seq_k fun K hK => ?_) | (refine SW.block ?_) | (refine SW.region ?_; try simp only [go_sem, hD]) | (apply hK; clear hK K)
  obtain ⟨I, hI⟩ : ∃ I : Nat → St → Prop, ∀ k S, I k S ↔ (∃ (i : Nat) , k = l.length - i ∧ i ≤ l.length ∧ R = tabI x i (l.drop i) ∧ S = ⟨[(0, .fl l.length 3 f), (1, Str x), (5, I64 i)], []⟩) := ⟨fun k S => _, fun _ _ => Iff.rfl⟩
  refine SW.loop' I (l.length) ((hI _ _).2 ⟨0, rfl, Nat.zero_le _, by rw [List.drop_zero]; exact hR, rfl⟩) (by repeat' (first | exact rfl | exact trivial | constructor)) ?_
  intro k S hIn
  obtain ⟨i, rfl, hi, hC, rfl⟩ := (hI _ _).1 hIn
  clear hIn
  have ie : ((i : Nat) : Int).toNat = i := Int.toNat_natCast _
  have i0 : (0 : Int) ≤ ((i : Nat) : Int) := by omega
  clear hR
  by_cases hlt : i < l.length
  · have hli : ((i : Nat) : Int) < (((l.length) : Nat) : Int) := by omega
    have w1 : IntKind.i64.wrap ((i : Int) + 1) = ((i + 1 : Nat) : Int) := by rw [i64_wrap (by omega) (by omega)]; omega
    rw [tabI_step hlt] at hC
    have fi := hf i hlt
    generalize l.getD i t0 = t at *
    obtain ⟨a, b, c⟩ := t
    simp only at hC
    by_cases he : a = x
    · rw [if_pos he] at hC
      have ee : (a.toList == x.toList) = true := barr_eq.2 he
      subst hC
      repeat' first | (refine SW.seq_k fun K hK => ?_) | (refine SW.block ?_) | ((first | refine SW.region ?_ | refine SW.cond ?_ | refine SW.skip ?_ | refine SW.ret ?_); try simp only [go_sem, hD, hli, ie, i0, w1, fi, ee]) | (apply hK; clear hK K)
      refine ret_pure ?_; simp only [resL_tmp, resL_nil, tupOf, go_sem, hD]
    · rw [if_neg he] at hC
      have ee : (a.toList == x.toList) = false := by rw [Bool.eq_false_iff]; exact fun h => he (barr_eq.1 h)
      repeat' first | (refine SW.seq_k fun K hK => ?_) | (refine SW.block ?_) | ((first | refine SW.region ?_ | refine SW.cond ?_ | refine SW.skip ?_); try simp only [go_sem, hD, hli, ie, i0, w1, fi, ee]) | (apply hK; clear hK K)
      refine Rnd.sub (l.length - (i + 1)) (by omega) ((hI _ _).2 ⟨i + 1, rfl, by omega, hC, rfl⟩) (by repeat' (first | exact rfl | exact trivial | constructor))
  · have hli : ¬ ((i : Nat) : Int) < (((l.length) : Nat) : Int) := by omega
    rw [List.drop_of_length_le (by omega)] at hC
    have hC2 : R = -1 := hC
    subst hC2
    repeat' first | (refine SW.seq_k fun K hK => ?_) | ((first | refine SW.region ?_ | refine SW.cond ?_ | refine SW.exit ?_ | refine SW.ret ?_); try simp only [go_sem, hD, hli]) | (apply hK; clear hK K) | (clear hK K; apply hK; clear hK K)
    refine ret_pure ?_; simp only [resL_tmp, resL_nil, tupOf, go_sem, hD]
/-! numbers -/
theorem index_i (x : Int) (l : List Int) (n : Nat) (hl : n ≤ 9223372036854775807) (hn : l.length = n) (f : Nat → List SV) (hf : ∀ i, i < n → f i = [I64 (l.getD i 0)]) : PCall Tryz.prog 166 [.fl n 1 f, I64 x] (I64 (atI x 0 l)) := by
  subst hn
  obtain ⟨R, hR⟩ : ∃ R, R = atI x 0 l := ⟨_, rfl⟩
  rw [← hR]
  refine Call.enter' (N := 19) (rs := [.tmp 4]) Tryz.func166 rfl rfl rfl (by decide) rfl ?_; simp only [argT]; have hD : (0 : Nat) = 0 := rfl
  repeat' first | (refine SW.seq_k fun K hK => ?_) | (refine SW.block ?_) | (refine SW.region ?_; try simp only [go_sem, hD]) | (apply hK; clear hK K)
  obtain ⟨I, hI⟩ : ∃ I : Nat → St → Prop, ∀ k S, I k S ↔ (∃ (i : Nat) , k = l.length - i ∧ i ≤ l.length ∧ R = atI x i (l.drop i) ∧ S = ⟨[(0, .fl l.length 1 f), (1, I64 x), (7, I64 l.length), (8, I64 i)], []⟩) := ⟨fun k S => _, fun _ _ => Iff.rfl⟩
  refine SW.loop' I (l.length) ((hI _ _).2 ⟨0, rfl, Nat.zero_le _, by rw [List.drop_zero]; exact hR, rfl⟩) (by repeat' (first | exact rfl | exact trivial | constructor)) ?_
  intro k S hIn
  obtain ⟨i, rfl, hi, hC, rfl⟩ := (hI _ _).1 hIn
  clear hIn
  have ie : ((i : Nat) : Int).toNat = i := Int.toNat_natCast _
  have i0 : (0 : Int) ≤ ((i : Nat) : Int) := by omega
  clear hR
  by_cases hlt : i < l.length
  · have hli : ((i : Nat) : Int) < (((l.length) : Nat) : Int) := by omega
    have w1 : IntKind.i64.wrap ((i : Int) + 1) = ((i + 1 : Nat) : Int) := by rw [i64_wrap (by omega) (by omega)]; omega
    rw [atI_step hlt] at hC
    have fi := hf i hlt
    generalize l.getD i 0 = t at *
    by_cases he : t = x
    · rw [if_pos he] at hC
      subst hC
      repeat' first | (refine SW.seq_k fun K hK => ?_) | (refine SW.block ?_) | ((first | refine SW.region ?_ | refine SW.cond ?_ | refine SW.skip ?_ | refine SW.ret ?_); try simp only [go_sem, hD, hli, ie, i0, w1, fi, he]) | (apply hK; clear hK K)
      refine ret_pure ?_; simp only [resL_tmp, resL_nil, tupOf, go_sem, hD]
    · rw [if_neg he] at hC
      have he2 : ¬ x = t := fun e => he e.symm
      repeat' first | (refine SW.seq_k fun K hK => ?_) | (refine SW.block ?_) | ((first | refine SW.region ?_ | refine SW.cond ?_ | refine SW.skip ?_); try simp only [go_sem, hD, hli, ie, i0, w1, fi, he, he2]) | (apply hK; clear hK K)
      refine Rnd.sub (l.length - (i + 1)) (by omega) ((hI _ _).2 ⟨i + 1, rfl, by omega, hC, rfl⟩) (by repeat' (first | exact rfl | exact trivial | constructor))
  · have hli : ¬ ((i : Nat) : Int) < (((l.length) : Nat) : Int) := by omega
    rw [List.drop_of_length_le (by omega)] at hC
    have hC2 : R = -1 := hC
    subst hC2
    repeat' first | (refine SW.seq_k fun K hK => ?_) | ((first | refine SW.region ?_ | refine SW.cond ?_ | refine SW.exit ?_ | refine SW.ret ?_); try simp only [go_sem, hD, hli]) | (apply hK; clear hK K) | (clear hK K; apply hK; clear hK K)
    refine ret_pure ?_; simp only [resL_tmp, resL_nil, tupOf, go_sem, hD]
theorem at_r (x : Int) (l : List Int) (n : Nat) (hl : n ≤ 9223372036854775807) (hn : l.length = n) (f : Nat → List SV) (hf : ∀ i, i < n → f i = [I64 (l.getD i 0)]) : PCall Tryz.prog 104 [.fl n 1 f, I64 x] (I64 (atI x 0 l)) := by
  subst hn
  obtain ⟨R, hR⟩ : ∃ R, R = atI x 0 l := ⟨_, rfl⟩
  rw [← hR]
  refine Call.enter' (N := 19) (rs := [.tmp 4]) Tryz.func104 rfl rfl rfl (by decide) rfl ?_; simp only [argT]; have hD : (0 : Nat) = 0 := rfl
  repeat' first | (refine SW.seq_k fun K hK => ?_) | (refine SW.block ?_) | (refine SW.region ?_; try simp only [go_sem, hD]) | (apply hK; clear hK K)
  obtain ⟨I, hI⟩ : ∃ I : Nat → St → Prop, ∀ k S, I k S ↔ (∃ (i : Nat) , k = l.length - i ∧ i ≤ l.length ∧ R = atI x i (l.drop i) ∧ S = ⟨[(0, .fl l.length 1 f), (1, I64 x), (5, I64 i)], []⟩) := ⟨fun k S => _, fun _ _ => Iff.rfl⟩
  refine SW.loop' I (l.length) ((hI _ _).2 ⟨0, rfl, Nat.zero_le _, by rw [List.drop_zero]; exact hR, rfl⟩) (by repeat' (first | exact rfl | exact trivial | constructor)) ?_
  intro k S hIn
  obtain ⟨i, rfl, hi, hC, rfl⟩ := (hI _ _).1 hIn
  clear hIn
  have ie : ((i : Nat) : Int).toNat = i := Int.toNat_natCast _
  have i0 : (0 : Int) ≤ ((i : Nat) : Int) := by omega
  clear hR
  by_cases hlt : i < l.length
  · have hli : ((i : Nat) : Int) < (((l.length) : Nat) : Int) := by omega
    have w1 : IntKind.i64.wrap ((i : Int) + 1) = ((i + 1 : Nat) : Int) := by rw [i64_wrap (by omega) (by omega)]; omega
    rw [atI_step hlt] at hC
    have fi := hf i hlt
    generalize l.getD i 0 = t at *
    by_cases he : t = x
    · rw [if_pos he] at hC
      subst hC
      repeat' first | (refine SW.seq_k fun K hK => ?_) | (refine SW.block ?_) | ((first | refine SW.region ?_ | refine SW.cond ?_ | refine SW.skip ?_ | refine SW.ret ?_); try simp only [go_sem, hD, hli, ie, i0, w1, fi, he]) | (apply hK; clear hK K)
      refine ret_pure ?_; simp only [resL_tmp, resL_nil, tupOf, go_sem, hD]
    · rw [if_neg he] at hC
      repeat' first | (refine SW.seq_k fun K hK => ?_) | (refine SW.block ?_) | ((first | refine SW.region ?_ | refine SW.cond ?_ | refine SW.skip ?_); try simp only [go_sem, hD, hli, ie, i0, w1, fi, he]) | (apply hK; clear hK K)
      refine Rnd.sub (l.length - (i + 1)) (by omega) ((hI _ _).2 ⟨i + 1, rfl, by omega, hC, rfl⟩) (by repeat' (first | exact rfl | exact trivial | constructor))
  · have hli : ¬ ((i : Nat) : Int) < (((l.length) : Nat) : Int) := by omega
    rw [List.drop_of_length_le (by omega)] at hC
    have hC2 : R = -1 := hC
    subst hC2
    repeat' first | (refine SW.seq_k fun K hK => ?_) | ((first | refine SW.region ?_ | refine SW.cond ?_ | refine SW.exit ?_ | refine SW.ret ?_); try simp only [go_sem, hD, hli]) | (apply hK; clear hK K) | (clear hK K; apply hK; clear hK K)
    refine ret_pure ?_; simp only [resL_tmp, resL_nil, tupOf, go_sem, hD]
theorem contains_i (x : Int) (l : List Int) (n : Nat) (hl : n ≤ 9223372036854775807) (hn : l.length = n) (f : Nat → List SV) (hf : ∀ i, i < n → f i = [I64 (l.getD i 0)]) : PCall Tryz.prog 129 [.fl n 1 f, I64 x] (SB (decide (0 ≤ atI x 0 l))) := by
  have ix := index_i x l n hl hn f hf
  generalize atI x 0 l = R at *
  refine Call.enter' (N := 9) (rs := [.tmp 4]) Tryz.func129 rfl rfl rfl (by decide) rfl ?_; simp only [argT]; have hD : (0 : Nat) = 0 := rfl
  repeat' first | (refine SW.seq_k fun K hK => ?_) | ((first | refine SW.region ?_ | refine SW.ret ?_ | refine Call.of_pure (ix) ?_); try simp only [go_sem, hD]) | (apply hK; clear hK K)
  refine ret_pure ?_; simp only [resL_tmp, resL_nil, tupOf, go_sem, hD]
theorem within1_p (a n : Int) : PCall Tryz.prog 200 [I64 a, .fp [I64 n]] (SB (!(decide (0 ≤ a) && decide (a < n)))) := by
  by_cases h1 : a < 0
  · rw [decide_eq_false (show ¬ 0 ≤ a by omega)]
    refine Call.enter' (N := 11) (rs := [.tmp 3]) Tryz.func200 rfl rfl rfl (by decide) rfl ?_; simp only [argT]; have hD : (0 : Nat) = 0 := rfl
    repeat' first | (refine SW.seq_k fun K hK => ?_) | ((first | refine SW.region ?_ | refine SW.ret ?_); try simp only [go_sem, hD, h1]) | (apply hK; clear hK K)
    refine ret_pure ?_; simp only [resL_tmp, resL_nil, tupOf, go_sem, hD]
  · rw [decide_eq_true (show 0 ≤ a by omega)]
    by_cases h2 : a < n
    · have h3 : ¬ n ≤ a := by omega
      rw [decide_eq_true h2]
      refine Call.enter' (N := 11) (rs := [.tmp 3]) Tryz.func200 rfl rfl rfl (by decide) rfl ?_; simp only [argT]; have hD : (0 : Nat) = 0 := rfl
      repeat' first | (refine SW.seq_k fun K hK => ?_) | ((first | refine SW.region ?_ | refine SW.ret ?_); try simp only [go_sem, hD, h1, h3]) | (apply hK; clear hK K)
      refine ret_pure ?_; simp only [resL_tmp, resL_nil, tupOf, go_sem, hD]
    · have h3 : n ≤ a := by omega
      rw [decide_eq_false h2]
      refine Call.enter' (N := 11) (rs := [.tmp 3]) Tryz.func200 rfl rfl rfl (by decide) rfl ?_; simp only [argT]; have hD : (0 : Nat) = 0 := rfl
      repeat' first | (refine SW.seq_k fun K hK => ?_) | ((first | refine SW.region ?_ | refine SW.ret ?_); try simp only [go_sem, hD, h1, h3]) | (apply hK; clear hK K)
      refine ret_pure ?_; simp only [resL_tmp, resL_nil, tupOf, go_sem, hD]
theorem indexF_i (g : FuncId) (caps : List SV) (p : Int → Bool) (hg : ∀ v, PCall Tryz.prog g (I64 v :: caps) (SB (p v))) (l : List Int) (hl : l.length ≤ 9223372036854775807) : PCall Tryz.prog 207 [IL l, .fn (.func g) [] caps] (I64 (posF p 0 l)) := by
  obtain ⟨R, hR⟩ : ∃ R, R = posF p 0 l := ⟨_, rfl⟩
  rw [← hR]
  refine Call.enter' (N := 19) (rs := [.tmp 4]) Tryz.func207 rfl rfl rfl (by decide) rfl ?_; simp only [argT]; have hD : (0 : Nat) = 0 := rfl
  repeat' first | (refine SW.seq_k fun K hK => ?_) | (refine SW.block ?_) | (refine SW.region ?_; try simp only [go_sem, hD]) | (apply hK; clear hK K)
  obtain ⟨I, hI⟩ : ∃ I : Nat → St → Prop, ∀ k S, I k S ↔ (∃ (i : Nat) , k = l.length - i ∧ i ≤ l.length ∧ R = posF p i (l.drop i) ∧ S = ⟨[(0, IL l), (1, .fn (.func g) [] caps), (7, I64 l.length), (8, I64 i)], []⟩) := ⟨fun k S => _, fun _ _ => Iff.rfl⟩
  refine SW.loop' I (l.length) ((hI _ _).2 ⟨0, rfl, Nat.zero_le _, hR, rfl⟩) (by repeat' (first | exact rfl | exact trivial | constructor)) ?_
  intro k S hIn
  obtain ⟨i, rfl, hi, hC, rfl⟩ := (hI _ _).1 hIn
  clear hIn
  have ie : ((i : Nat) : Int).toNat = i := Int.toNat_natCast _
  have i0 : (0 : Int) ≤ ((i : Nat) : Int) := by omega
  clear hR
  by_cases hlt : i < l.length
  · have hli : ((i : Nat) : Int) < (((l.length) : Nat) : Int) := by omega
    have w1 : IntKind.i64.wrap ((i : Int) + 1) = ((i + 1 : Nat) : Int) := by rw [i64_wrap (by omega) (by omega)]; omega
    rw [posFi_step hlt] at hC
    have fi : iF l i = [I64 (l.getD i 0)] := rfl
    have c := hg (l.getD i 0)
    generalize l.getD i 0 = t at *
    cases he : p t with
    | true =>
      rw [he] at c
      rw [he, if_pos rfl] at hC
      subst hC
      repeat' first | (refine SW.seq_k fun K hK => ?_) | (refine SW.block ?_) | ((first | refine SW.region ?_ | refine SW.cond ?_ | refine SW.skip ?_ | refine SW.ret ?_ | refine Call.of_pure (c) ?_); try simp only [go_sem, hD, hli, ie, i0, w1, fi]) | (apply hK; clear hK K)
      refine ret_pure ?_; simp only [resL_tmp, resL_nil, tupOf, go_sem, hD]
    | false =>
      rw [he] at c
      rw [he, if_neg (by simp)] at hC
      repeat' first | (refine SW.seq_k fun K hK => ?_) | (refine SW.block ?_) | ((first | refine SW.region ?_ | refine SW.cond ?_ | refine SW.skip ?_ | refine Call.of_pure (c) ?_); try simp only [go_sem, hD, hli, ie, i0, w1, fi]) | (apply hK; clear hK K)
      refine Rnd.sub (l.length - (i + 1)) (by omega) ((hI _ _).2 ⟨i + 1, rfl, by omega, hC, rfl⟩) (by repeat' (first | exact rfl | exact trivial | constructor))
  · have hli : ¬ ((i : Nat) : Int) < (((l.length) : Nat) : Int) := by omega
    rw [List.drop_of_length_le (by omega)] at hC
    have hC2 : R = -1 := hC
    subst hC2
    repeat' first | (refine SW.seq_k fun K hK => ?_) | ((first | refine SW.region ?_ | refine SW.cond ?_ | refine SW.exit ?_ | refine SW.ret ?_); try simp only [go_sem, hD, hli]) | (apply hK; clear hK K) | (clear hK K; apply hK; clear hK K)
    refine ret_pure ?_; simp only [resL_tmp, resL_nil, tupOf, go_sem, hD]
theorem within_p (l : List Int) (n : Int) (hl : l.length ≤ 9223372036854775807) : PCall Tryz.prog 178 [IL l, I64 n] (SB (winB l n)) := by
  have ix := indexF_i 200 [.fp [I64 n]] (fun a => !(decide (0 ≤ a) && decide (a < n))) (fun v => within1_p v n) l hl
  have hm := posF_any (fun a => !(decide (0 ≤ a) && decide (a < n))) l 0
  have cf : PCall Tryz.prog 199 [IL l, .fn (.func 200) [] [.fp [I64 n]]] (SB (!(winB l n))) := by
    have e : decide (0 ≤ posF (fun a => !(decide (0 ≤ a) && decide (a < n))) 0 l) = !(winB l n) := by
      rw [Bool.eq_iff_iff, decide_eq_true_eq, hm]
      unfold winB
      simp [List.any_eq_true]
      constructor
      · rintro ⟨x, hx, h⟩
        exact ⟨x, hx, by omega⟩
      · rintro ⟨x, hx, h⟩
        exact ⟨x, hx, by omega⟩
    generalize posF (fun a => !(decide (0 ≤ a) && decide (a < n))) 0 l = Q at *
    generalize winB l n = W at *
    refine Call.enter' (N := 9) (rs := [.tmp 4]) Tryz.func199 rfl rfl rfl (by decide) rfl ?_; simp only [argT]; have hD : (0 : Nat) = 0 := rfl
    repeat' first | (refine SW.seq_k fun K hK => ?_) | ((first | refine SW.region ?_ | refine SW.ret ?_ | refine Call.of_pure (ix) ?_); try simp only [go_sem, hD, e]) | (apply hK; clear hK K)
    refine ret_pure ?_; simp only [resL_tmp, resL_nil, tupOf, go_sem, hD]
  generalize winB l n = W at *
  refine Call.enter' (N := 9) (rs := [.tmp 4]) Tryz.func178 rfl rfl rfl (by decide) rfl ?_; simp only [argT]; have hD : (0 : Nat) = 0 := rfl
  repeat' first | ((refine Ab.SW.le (St.le_freezeP (i := 3) (n := 1) rfl (by rw [find_cons, if_pos rfl]) (by exact Nat.le_refl 1)) ?_); (rw [del_head]); (simp only [getN, Blk.get])) | (refine SW.seq_k fun K hK => ?_) | ((first | refine SW.region ?_ | refine SW.ret ?_ | refine Call.of_pure (cf) ?_ | (refine allF_i fun b hb => ?_; replace hD := And.intro hb hD; clear hb; try simp only [fresh_cons, fresh_nil, and_true, ne_eq, neF] at hD)); try simp only [go_sem, hD]) | (apply hK; clear hK K)
  refine ret_pure ?_; simp only [resL_tmp, resL_nil, tupOf, go_sem, hD]
  rw [Bool.not_not]
theorem repeated_p (l : List Int) (hl : l.length ≤ 9223372036854775807) : PCall Tryz.prog 179 [IL l] (SB (!decide l.Nodup)) := by
  obtain ⟨X, hX⟩ : ∃ X, X = !decide l.Nodup := ⟨_, rfl⟩
  rw [← hX]
  have h1 : (∀ j, j < l.length → atI (l.getD j 0) 0 (l.take j) < 0) → X = false := fun h => by
    rw [hX, decide_eq_true (nodup_take.2 fun i hi => atI_none.1 (h i hi))]
    rfl
  have h2 : ∀ j, j < l.length → ¬ atI (l.getD j 0) 0 (l.take j) < 0 → X = true := fun j hj h => by
    rw [hX, decide_eq_false fun hn => h (atI_none.2 (nodup_take.1 hn j hj))]
    rfl
  clear hX
  refine Call.enter' (N := 18) (rs := [.tmp 2]) Tryz.func179 rfl rfl rfl (by decide) rfl ?_; simp only [argT]; have hD : (0 : Nat) = 0 := rfl
  repeat' first | (refine SW.seq_k fun K hK => ?_) | (refine SW.block ?_) | (refine SW.region ?_; try simp only [go_sem, hD]) | (apply hK; clear hK K)
  obtain ⟨I, hI⟩ : ∃ I : Nat → St → Prop, ∀ k S, I k S ↔ (∃ (i : Nat) , k = l.length - i ∧ i ≤ l.length ∧ (∀ j, j < i → atI (l.getD j 0) 0 (l.take j) < 0) ∧ S = ⟨[(0, IL l), (5, IL l), (6, I64 l.length), (7, I64 i)], []⟩) := ⟨fun k S => _, fun _ _ => Iff.rfl⟩
  refine SW.loop' I (l.length) ((hI _ _).2 ⟨0, rfl, Nat.zero_le _, (fun j hj => absurd hj (by omega)), rfl⟩) (by repeat' (first | exact rfl | exact trivial | constructor)) ?_
  intro k S hIn
  obtain ⟨i, rfl, hi, hL, rfl⟩ := (hI _ _).1 hIn
  clear hIn
  have ie : ((i : Nat) : Int).toNat = i := Int.toNat_natCast _
  have i0 : (0 : Int) ≤ ((i : Nat) : Int) := by omega
  by_cases hlt : i < l.length
  · have hli : ((i : Nat) : Int) < (((l.length) : Nat) : Int) := by omega
    have w1 : IntKind.i64.wrap ((i : Int) + 1) = ((i + 1 : Nat) : Int) := by rw [i64_wrap (by omega) (by omega)]; omega
    have fi : iF l i = [I64 (l.getD i 0)] := rfl
    have hn1 : (atI (l.getD i 0) 0 (l.take i) < 0) → ∀ j, j < i + 1 → atI (l.getD j 0) 0 (l.take j) < 0 := fun h j hj => by
      rcases Nat.lt_or_ge j i with h3 | h3
      · exact hL j h3
      · obtain rfl : j = i := by omega
        exact h
    have h2i := h2 i hlt
    have iz : (((i : Nat) : Int) - 0).toNat = i := by omega
    have il : ((i : Nat) : Int) ≤ ((l.length : Nat) : Int) := by omega
    have c := contains_i (l.getD i 0) (l.take i) i (by omega) (by rw [List.length_take]; omega) (iF l) (fun j hj => iF_take hj)
    generalize l.getD i 0 = t at *
    generalize atI t 0 (l.take i) = q at *
    by_cases a1 : q < 0
    · rw [decide_eq_false (show ¬ 0 ≤ q by omega)] at c
      have hn2 := hn1 a1
      repeat' first | (refine SW.seq_k fun K hK => ?_) | (refine SW.block ?_) | ((first | refine SW.region ?_ | refine SW.cond ?_ | refine SW.skip ?_ | refine Call.of_pure (c) ?_); try simp only [go_sem, hD, hli, ie, i0, w1, fi, iz, il]) | (apply hK; clear hK K)
      refine Rnd.sub (l.length - (i + 1)) (by omega) ((hI _ _).2 ⟨i + 1, rfl, by omega, hn2, rfl⟩) (by repeat' (first | exact rfl | exact trivial | constructor))
    · rw [decide_eq_true (show 0 ≤ q by omega)] at c
      have hx := h2i a1
      subst hx
      repeat' first | (refine SW.seq_k fun K hK => ?_) | (refine SW.block ?_) | ((first | refine SW.region ?_ | refine SW.cond ?_ | refine SW.skip ?_ | refine SW.ret ?_ | refine Call.of_pure (c) ?_); try simp only [go_sem, hD, hli, ie, i0, w1, fi, iz, il]) | (apply hK; clear hK K)
      refine ret_pure ?_; simp only [resL_tmp, resL_nil, tupOf, go_sem, hD]
  · have hli : ¬ ((i : Nat) : Int) < (((l.length) : Nat) : Int) := by omega
    have hx := h1 fun j hj => hL j (by omega)
    subst hx
    repeat' first | (refine SW.seq_k fun K hK => ?_) | ((first | refine SW.region ?_ | refine SW.cond ?_ | refine SW.exit ?_ | refine SW.ret ?_); try simp only [go_sem, hD, hli]) | (apply hK; clear hK K) | (clear hK K; apply hK; clear hK K)
    refine ret_pure ?_; simp only [resL_tmp, resL_nil, tupOf, go_sem, hD]
end Go.Proofs.YtpidncgibgiidaaGreat
