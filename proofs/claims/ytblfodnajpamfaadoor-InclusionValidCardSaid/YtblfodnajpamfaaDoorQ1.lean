/- Several texts in one: R1, G1, G2, G3, A0. -/
import Derived.Test.YtblfodnajpamfaaDoorB1
import Derived.Test.YtblfodnajpamfaaDoorZ8
import Derived.Test.YtblfodnajpamfaaDoorZ13
import Derived.Test.YtblfodnajpamfaaDoorZ11
import Derived.Test.YtblfodnajpamfaaDoorZ9
/- Contracts: Valid, Int, Str, Compare of the program; Valid, sign of the reference. -/
set_option linter.unusedSimpArgs false
set_option linter.unusedVariables false
set_option linter.unusedSectionVars false
namespace Go.Ab
open Go
/-- A value: kind, number, text. -/
abbrev VS (k n : Int) (s : ByteArray) : SV := .agg [I64 k, I64 n, Str s]
def emp (s : ByteArray) : Bool := s.toList == (⟨#[]⟩ : ByteArray).toList
/-- A valid value. -/
def vok (k n : Int) (s : ByteArray) : Bool := if k = 0 then decide (n = 0) && emp s else if k = 1 then emp s else if k = 2 then decide (n = 0) && decide (s.size ≤ 200) else if k = 3 then decide (1 ≤ n) && emp s else false
end Go.Ab
namespace Go.Proofs.YtblfodnajpamfaaDoor
open Go Go.Ab
variable [Gl] [Tabs]

set_option maxRecDepth 20000 in
theorem valid_p (k n : Int) (s : ByteArray) : PCall Tryd.prog 77 [VS k n s] (SB (vok k n s)) := by
  obtain ⟨R, hR⟩ : ∃ R, R = vok k n s := ⟨_, rfl⟩
  rw [← hR]
  unfold vok emp at hR
  have cs : ((s.size : Nat) : Int) ≤ 200 ↔ s.size ≤ 200 := by omega
  refine Call.enter' (N := 41) (rs := [.tmp 2]) Tryd.func77 rfl rfl rfl (by decide) rfl ?_; simp only [argT]; have hD : (0 : Nat) = 0 := rfl
  repeat' first | (with_reducible refine And.intro (by omega) ?_) | (refine SW.seq_k fun K hK => ?_) | (refine SW.block ?_) | ((first | refine SW.region ?_ | refine SW.regionD (Checked.mixed Tryd.checked) (by kernel_rfl) ?_ | refine SW.cond ?_ | refine SW.skip ?_ | refine SW.exit ?_ | refine SW.ret ?_ | (refine allF_i fun b hb => ?_; replace hD := And.intro hb hD; clear hb; try simp only [fresh_cons, fresh_nil, and_true, ne_eq, neF] at hD) | simp only [appK, appOsK]); try simp only [go_sem, hD]) | (refine And.intro (by omega) ?_) | (refine ifI (fun hc => ?_) (fun hc => ?_) <;> first | (exfalso; omega) | skip) | ((first | apply hK | ((iterate 1 (clear hK K)); apply hK) | ((iterate 2 (clear hK K)); apply hK) | ((iterate 3 (clear hK K)); apply hK) | ((iterate 4 (clear hK K)); apply hK) | ((iterate 5 (clear hK K)); apply hK)); clear hK K)
  all_goals
    refine ret_pure ?_; simp only [resL_tmp, resL_nil, tupOf, go_sem, hD]
    rw [hR]
    simp_all
    first | done | (intro h; exfalso; omega)

set_option maxRecDepth 20000 in
theorem valid_r (k n : Int) (s : ByteArray) : PCall Tryd.prog 81 [VS k n s] (SB (vok k n s)) := by
  obtain ⟨R, hR⟩ : ∃ R, R = vok k n s := ⟨_, rfl⟩
  rw [← hR]
  unfold vok emp at hR
  have cs : ((s.size : Nat) : Int) ≤ 200 ↔ s.size ≤ 200 := by omega
  refine Call.enter' (N := 44) (rs := [.tmp 2]) Tryd.func81 rfl rfl rfl (by decide) rfl ?_; simp only [argT]; have hD : (0 : Nat) = 0 := rfl
  repeat' first | (with_reducible refine And.intro (by omega) ?_) | (refine SW.seq_k fun K hK => ?_) | (refine SW.block ?_) | ((first | refine SW.region ?_ | refine SW.regionD (Checked.mixed Tryd.checked) (by kernel_rfl) ?_ | refine SW.cond ?_ | refine SW.skip ?_ | refine SW.exit ?_ | refine SW.ret ?_ | (refine allF_i fun b hb => ?_; replace hD := And.intro hb hD; clear hb; try simp only [fresh_cons, fresh_nil, and_true, ne_eq, neF] at hD) | simp only [appK, appOsK]); try simp only [go_sem, hD]) | (refine And.intro (by omega) ?_) | (refine ifI (fun hc => ?_) (fun hc => ?_) <;> first | (exfalso; omega) | skip) | ((first | apply hK | ((iterate 1 (clear hK K)); apply hK) | ((iterate 2 (clear hK K)); apply hK) | ((iterate 3 (clear hK K)); apply hK) | ((iterate 4 (clear hK K)); apply hK) | ((iterate 5 (clear hK K)); apply hK)); clear hK K)
  all_goals
    refine ret_pure ?_; simp only [resL_tmp, resL_nil, tupOf, go_sem, hD]
    rw [hR]
    simp_all
    first | done | (intro h; exfalso; omega)



end Go.Proofs.YtblfodnajpamfaaDoor
/- Contracts: names. -/
set_option linter.unusedSimpArgs false
set_option linter.unusedVariables false
set_option linter.unusedSectionVars false
namespace Go.Ab.A34
open Go Go.Ab
def isL (c : UInt8) : Bool := (decide (97 ≤ c.toNat) && decide (c.toNat ≤ 122)) || ((decide (65 ≤ c.toNat) && decide (c.toNat ≤ 90)) || decide (c.toNat = 95))
def isD (c : UInt8) : Bool := decide (48 ≤ c.toNat) && decide (c.toNat ≤ 57)
def isW (c : UInt8) : Bool := isL c || isD c
def nullL : List UInt8 := [110, 117, 108, 108]
/-- A name: a letter, then letters and digits, at most 24 bytes, not null. -/
def nameB (l : List UInt8) : Bool := match l with
  | [] => false
  | c :: _ => decide (l.length ≤ 24) && !decide (l = nullL) && isL c && l.all isW
theorem all_step {l : List UInt8} {i : Nat} (h : i < l.length) : (l.drop i).all isW = (isW (l.getD i 0) && (l.drop (i + 1)).all isW) := by
  have g : l.getD i 0 = l[i] := by simp [List.getD_eq_getElem?_getD, h]
  rw [List.drop_eq_getElem_cons h, List.all_cons, g]
theorem all_end {l : List UInt8} {i : Nat} (h : l.length ≤ i) : (l.drop i).all isW = true := by
  rw [List.drop_of_length_le h]
  rfl
theorem ba_ext {a b : ByteArray} (h : a.data.toList = b.data.toList) : a = b := by
  cases a; cases b
  simp only at h
  rw [Array.toList_inj.1 h]
end Go.Ab.A34
namespace Go.Proofs.YtblfodnajpamfaaDoor
open Go Go.Ab Go.Ab.A34
variable [Gl] [Tabs]
abbrev B8 (c : UInt8) : SV := .sc (.int .u8 (c.toNat : Int))

theorem letter_c (c : UInt8) : PCall Tryd.prog 79 [B8 c] (SB (isL c)) := by
  obtain ⟨R, hR⟩ : ∃ R, R = isL c := ⟨_, rfl⟩
  rw [← hR]
  unfold isL at hR
  refine Call.enter' (N := 21) (rs := [.tmp 2]) Tryd.func79 rfl rfl rfl (by decide) rfl ?_; simp only [argT]; have hD : (0 : Nat) = 0 := rfl
  repeat' first | (with_reducible refine And.intro (by omega) ?_) | (refine SW.seq_k fun K hK => ?_) | (refine SW.block ?_) | ((first | refine SW.region ?_ | refine SW.regionD (Checked.mixed Tryd.checked) (by kernel_rfl) ?_ | refine SW.cond ?_ | refine SW.skip ?_ | refine SW.exit ?_ | refine SW.ret ?_ | (refine allF_i fun b hb => ?_; replace hD := And.intro hb hD; clear hb; try simp only [fresh_cons, fresh_nil, and_true, ne_eq, neF] at hD) | simp only [appK, appOsK]); try simp only [go_sem, hD]) | (refine And.intro (by omega) ?_) | (refine ifI (fun hc => ?_) (fun hc => ?_) <;> first | (exfalso; omega) | skip) | ((first | apply hK | ((iterate 1 (clear hK K)); apply hK) | ((iterate 2 (clear hK K)); apply hK) | ((iterate 3 (clear hK K)); apply hK) | ((iterate 4 (clear hK K)); apply hK) | ((iterate 5 (clear hK K)); apply hK)); clear hK K)
  all_goals
    refine ret_pure ?_; simp only [resL_tmp, resL_nil, tupOf, go_sem, hD]
    rw [hR]
    refine congrArg (fun b => SV.sc (.bool b)) ?_
    rw [Bool.eq_iff_iff]
    simp only [Bool.or_eq_true, Bool.and_eq_true, decide_eq_true_eq, Bool.false_eq_true, true_iff, false_iff]
    omega

theorem bempty (s : ByteArray) : (s.toList == (⟨#[]⟩ : ByteArray).toList) = decide (s.data.toList = []) := by
  rw [Bool.eq_iff_iff, decide_eq_true_eq, barr_eq]
  constructor
  · intro h; rw [h]
  · intro h; exact ba_ext h
theorem bnull (s : ByteArray) : (s.toList == (⟨#[110, 117, 108, 108]⟩ : ByteArray).toList) = decide (s.data.toList = nullL) := by
  rw [Bool.eq_iff_iff, decide_eq_true_eq, barr_eq]
  constructor
  · intro h; rw [h]; rfl
  · intro h; exact ba_ext h
/-- What nameB asks, one after the other. -/
theorem name_cases (l : List UInt8) : (l = [] ∧ nameB l = false) ∨ (l ≠ [] ∧ ((24 < l.length ∧ nameB l = false) ∨ (l.length ≤ 24 ∧ ((l = nullL ∧ nameB l = false) ∨ (¬ l = nullL ∧ ((isL (l.getD 0 0) = false ∧ nameB l = false) ∨ (isL (l.getD 0 0) = true ∧ nameB l = l.all isW))))))) := by
  cases l with
  | nil => exact .inl ⟨rfl, rfl⟩
  | cons c r =>
    refine .inr ⟨by simp, ?_⟩
    unfold nameB
    simp only
    by_cases h : (c :: r).length ≤ 24
    · refine .inr ⟨h, ?_⟩
      rw [decide_eq_true h, Bool.true_and]
      by_cases h2 : c :: r = nullL
      · exact .inl ⟨h2, by rw [decide_eq_true h2]; rfl⟩
      · refine .inr ⟨h2, ?_⟩
        rw [decide_eq_false h2, Bool.not_false, Bool.true_and]
        show (isL c = false ∧ _) ∨ (isL c = true ∧ _)
        cases isL c with
        | false => exact .inl ⟨rfl, rfl⟩
        | true => exact .inr ⟨rfl, by rw [Bool.true_and]⟩
    · exact .inl ⟨by omega, by rw [decide_eq_false h]; rfl⟩

set_option maxHeartbeats 1000000 in
set_option maxRecDepth 20000 in
theorem isName_p (s : ByteArray) : PCall Tryd.prog 60 [Str s] (SB (nameB s.data.toList)) := by
  have ls : s.data.toList.length = s.size := Array.length_toList
  have b1 := bempty s
  have b2 := bnull s
  have h0l := letter_c (s.data.toList.getD 0 0)
  rcases name_cases s.data.toList with ⟨h1, h2⟩ | ⟨h1, ⟨h2, h3⟩ | ⟨h2, ⟨h3, h4⟩ | ⟨h3, h4⟩⟩⟩
  · rw [h2]
    rw [decide_eq_true h1] at b1
    refine Call.enter' (N := 58) (rs := [.tmp 2]) Tryd.func60 rfl rfl rfl (by decide) rfl ?_; simp only [argT]; have hD : (0 : Nat) = 0 := rfl
    repeat' first | (with_reducible refine And.intro (by omega) ?_) | (refine SW.seq_k fun K hK => ?_) | (refine SW.block ?_) | ((first | refine SW.region ?_ | refine SW.regionD (Checked.mixed Tryd.checked) (by kernel_rfl) ?_ | refine SW.cond ?_ | refine SW.skip ?_ | refine SW.exit ?_ | refine SW.ret ?_ | (refine allF_i fun b hb => ?_; replace hD := And.intro hb hD; clear hb; try simp only [fresh_cons, fresh_nil, and_true, ne_eq, neF] at hD) | simp only [appK, appOsK]); try simp only [go_sem, hD, b1]) | (refine And.intro (by omega) ?_) | (refine ifI (fun hc => ?_) (fun hc => ?_) <;> first | (exfalso; omega) | skip) | ((first | apply hK | ((iterate 1 (clear hK K)); apply hK) | ((iterate 2 (clear hK K)); apply hK) | ((iterate 3 (clear hK K)); apply hK) | ((iterate 4 (clear hK K)); apply hK) | ((iterate 5 (clear hK K)); apply hK)); clear hK K)
    refine ret_pure ?_; simp only [resL_tmp, resL_nil, tupOf, go_sem, hD]
  · rw [h3]
    rw [decide_eq_false h1] at b1
    have h24i : (24 : Int) < ((s.size : Nat) : Int) := by omega
    refine Call.enter' (N := 58) (rs := [.tmp 2]) Tryd.func60 rfl rfl rfl (by decide) rfl ?_; simp only [argT]; have hD : (0 : Nat) = 0 := rfl
    repeat' first | (with_reducible refine And.intro (by omega) ?_) | (refine SW.seq_k fun K hK => ?_) | (refine SW.block ?_) | ((first | refine SW.region ?_ | refine SW.regionD (Checked.mixed Tryd.checked) (by kernel_rfl) ?_ | refine SW.cond ?_ | refine SW.skip ?_ | refine SW.exit ?_ | refine SW.ret ?_ | (refine allF_i fun b hb => ?_; replace hD := And.intro hb hD; clear hb; try simp only [fresh_cons, fresh_nil, and_true, ne_eq, neF] at hD) | simp only [appK, appOsK]); try simp only [go_sem, hD, b1, h24i]) | (refine And.intro (by omega) ?_) | (refine ifI (fun hc => ?_) (fun hc => ?_) <;> first | (exfalso; omega) | skip) | ((first | apply hK | ((iterate 1 (clear hK K)); apply hK) | ((iterate 2 (clear hK K)); apply hK) | ((iterate 3 (clear hK K)); apply hK) | ((iterate 4 (clear hK K)); apply hK) | ((iterate 5 (clear hK K)); apply hK)); clear hK K)
    refine ret_pure ?_; simp only [resL_tmp, resL_nil, tupOf, go_sem, hD]
  · rw [h4]
    rw [decide_eq_false h1] at b1
    rw [decide_eq_true h3] at b2
    have h24i : ¬ (24 : Int) < ((s.size : Nat) : Int) := by omega
    refine Call.enter' (N := 58) (rs := [.tmp 2]) Tryd.func60 rfl rfl rfl (by decide) rfl ?_; simp only [argT]; have hD : (0 : Nat) = 0 := rfl
    repeat' first | (with_reducible refine And.intro (by omega) ?_) | (refine SW.seq_k fun K hK => ?_) | (refine SW.block ?_) | ((first | refine SW.region ?_ | refine SW.regionD (Checked.mixed Tryd.checked) (by kernel_rfl) ?_ | refine SW.cond ?_ | refine SW.skip ?_ | refine SW.exit ?_ | refine SW.ret ?_ | (refine allF_i fun b hb => ?_; replace hD := And.intro hb hD; clear hb; try simp only [fresh_cons, fresh_nil, and_true, ne_eq, neF] at hD) | simp only [appK, appOsK]); try simp only [go_sem, hD, b1, h24i, b2]) | (refine And.intro (by omega) ?_) | (refine ifI (fun hc => ?_) (fun hc => ?_) <;> first | (exfalso; omega) | skip) | ((first | apply hK | ((iterate 1 (clear hK K)); apply hK) | ((iterate 2 (clear hK K)); apply hK) | ((iterate 3 (clear hK K)); apply hK) | ((iterate 4 (clear hK K)); apply hK) | ((iterate 5 (clear hK K)); apply hK)); clear hK K)
    refine ret_pure ?_; simp only [resL_tmp, resL_nil, tupOf, go_sem, hD]
  · rw [decide_eq_false h1] at b1
    rw [decide_eq_false h3] at b2
    have h24i : ¬ (24 : Int) < ((s.size : Nat) : Int) := by omega
    obtain ⟨R, hR⟩ : ∃ R, R = nameB s.data.toList := ⟨_, rfl⟩
    rw [← hR] at h4 ⊢
    have h5 : (isL (s.data.toList.getD 0 0) = true ∧ R = (s.data.toList.drop 0).all isW) ∨ (0 = 0 ∧ R = false ∧ isL (s.data.toList.getD 0 0) = false) := by
      rcases h4 with ⟨a, b⟩ | ⟨a, b⟩
      · exact .inr ⟨rfl, b, a⟩
      · exact .inl ⟨a, b⟩
    have h0 : 0 < s.size := by
      rcases Nat.eq_zero_or_pos s.size with h | h
      · exact absurd (List.eq_nil_of_length_eq_zero (by rw [ls]; exact h)) h1
      · exact h
    clear h4 hR
    refine Call.enter' (N := 58) (rs := [.tmp 2]) Tryd.func60 rfl rfl rfl (by decide) rfl ?_; simp only [argT]; have hD : (0 : Nat) = 0 := rfl
    repeat' first | (with_reducible refine And.intro (by omega) ?_) | (refine SW.seq_k fun K hK => ?_) | (refine SW.block ?_) | ((first | refine SW.region ?_ | refine SW.regionD (Checked.mixed Tryd.checked) (by kernel_rfl) ?_ | refine SW.cond ?_ | refine SW.skip ?_ | refine SW.exit ?_ | refine SW.ret ?_ | (refine allF_i fun b hb => ?_; replace hD := And.intro hb hD; clear hb; try simp only [fresh_cons, fresh_nil, and_true, ne_eq, neF] at hD) | simp only [appK, appOsK]); try simp only [go_sem, hD, b1, h24i, b2]) | (refine And.intro (by omega) ?_) | (refine ifI (fun hc => ?_) (fun hc => ?_) <;> first | (exfalso; omega) | skip) | ((first | apply hK | ((iterate 1 (clear hK K)); apply hK) | ((iterate 2 (clear hK K)); apply hK) | ((iterate 3 (clear hK K)); apply hK) | ((iterate 4 (clear hK K)); apply hK) | ((iterate 5 (clear hK K)); apply hK)); clear hK K)
    obtain ⟨I, hI⟩ : ∃ I : Nat → St → Prop, ∀ k S, I k S ↔ (∃ (i : Nat) , k = s.size - i ∧ i ≤ s.size ∧ ((isL (s.data.toList.getD 0 0) = true ∧ R = (s.data.toList.drop i).all isW) ∨ (i = 0 ∧ R = false ∧ isL (s.data.toList.getD 0 0) = false)) ∧ S = ⟨[(0, Str s), (18, I64 s.size), (19, I64 i)], []⟩) := ⟨fun k S => _, fun _ _ => Iff.rfl⟩
    refine SW.loop' I (s.size) ((hI _ _).2 ⟨0, rfl, Nat.zero_le _, h5, rfl⟩) (by repeat' (first | exact rfl | exact trivial | exact int_eq (by omega) | exact int_eq (by (rw [i64_wrap] <;> omega)) | constructor)) ?_
    intro k S hIn
    obtain ⟨i, rfl, hi, hC, rfl⟩ := (hI _ _).1 hIn
    clear hIn
    have ie : ((i : Nat) : Int).toNat = i := Int.toNat_natCast _
    have i0 : (0 : Int) ≤ ((i : Nat) : Int) := by omega
    clear h5
    by_cases hlt : i < s.size
    · have hli : ((i : Nat) : Int) < (((s.size) : Nat) : Int) := by omega
      have w1 : IntKind.i64.wrap ((i : Int) + 1) = ((i + 1 : Nat) : Int) := by rw [i64_wrap (by omega) (by omega)]; omega
      obtain ⟨c, gc⟩ : ∃ c, s.data.toList.getD i 0 = c := ⟨_, rfl⟩
      have st := all_step (l := s.data.toList) (i := i) (by omega)
      rw [gc] at st
      cases q1 : isL c with
      | true =>
        have hC2 : (isL (s.data.toList.getD 0 0) = true ∧ R = (s.data.toList.drop (i + 1)).all isW) ∨ (i + 1 = 0 ∧ R = false ∧ isL (s.data.toList.getD 0 0) = false) := by
          rcases hC with ⟨a, b⟩ | ⟨rfl, b, d⟩
          · exact .inl ⟨a, by rw [b, st]; unfold isW; rw [q1]; rfl⟩
          · rw [gc, q1] at d
            cases d
        clear hC
        have q2 := q1
        unfold isL at q2
        simp only [Bool.or_eq_true, Bool.and_eq_true, decide_eq_true_eq] at q2
        repeat' first | (with_reducible refine And.intro (by omega) ?_) | (refine SW.seq_k fun K hK => ?_) | (refine SW.block ?_) | ((first | refine SW.region ?_ | refine SW.regionD (Checked.mixed Tryd.checked) (by kernel_rfl) ?_ | refine SW.cond ?_ | refine SW.skip ?_ | refine SW.exit ?_ | refine SW.ret ?_ | (refine allF_i fun b hb => ?_; replace hD := And.intro hb hD; clear hb; try simp only [fresh_cons, fresh_nil, and_true, ne_eq, neF] at hD) | simp only [appK, appOsK]); try simp only [go_sem, hD, hli, ie, i0, w1, gc]) | (refine And.intro (by omega) ?_) | (refine ifI (fun hc => ?_) (fun hc => ?_) <;> first | (exfalso; omega) | skip) | ((first | apply hK | ((iterate 1 (clear hK K)); apply hK) | ((iterate 2 (clear hK K)); apply hK) | ((iterate 3 (clear hK K)); apply hK) | ((iterate 4 (clear hK K)); apply hK) | ((iterate 5 (clear hK K)); apply hK)); clear hK K)
        all_goals
          refine Rnd.sub (s.size - (i + 1)) (by omega) ((hI _ _).2 ⟨i + 1, rfl, by omega, hC2, rfl⟩) (by repeat' (first | exact rfl | exact trivial | exact int_eq (by omega) | exact int_eq (by (rw [i64_wrap] <;> omega)) | constructor))
      | false =>
        have q2 := q1
        unfold isL at q2
        simp only [Bool.or_eq_false_iff, Bool.and_eq_false_iff, decide_eq_false_iff_not] at q2
        by_cases hz : 0 < i ∧ isD c = true
        · obtain ⟨z1, z2⟩ := hz
          have hC2 : (isL (s.data.toList.getD 0 0) = true ∧ R = (s.data.toList.drop (i + 1)).all isW) ∨ (i + 1 = 0 ∧ R = false ∧ isL (s.data.toList.getD 0 0) = false) := by
            rcases hC with ⟨a, b⟩ | ⟨rfl, b, d⟩
            · exact .inl ⟨a, by rw [b, st]; unfold isW; rw [q1, z2]; rfl⟩
            · exact absurd z1 (Nat.lt_irrefl 0)
          clear hC
          unfold isD at z2
          simp only [Bool.and_eq_true, decide_eq_true_eq] at z2
          have z3 : ¬ ((i : Nat) : Int) = 0 := by omega
          repeat' first | (with_reducible refine And.intro (by omega) ?_) | (refine SW.seq_k fun K hK => ?_) | (refine SW.block ?_) | ((first | refine SW.region ?_ | refine SW.regionD (Checked.mixed Tryd.checked) (by kernel_rfl) ?_ | refine SW.cond ?_ | refine SW.skip ?_ | refine SW.exit ?_ | refine SW.ret ?_ | (refine allF_i fun b hb => ?_; replace hD := And.intro hb hD; clear hb; try simp only [fresh_cons, fresh_nil, and_true, ne_eq, neF] at hD) | simp only [appK, appOsK]); try simp only [go_sem, hD, hli, ie, i0, w1, gc, z3]) | (refine And.intro (by omega) ?_) | (refine ifI (fun hc => ?_) (fun hc => ?_) <;> first | (exfalso; omega) | skip) | ((first | apply hK | ((iterate 1 (clear hK K)); apply hK) | ((iterate 2 (clear hK K)); apply hK) | ((iterate 3 (clear hK K)); apply hK) | ((iterate 4 (clear hK K)); apply hK) | ((iterate 5 (clear hK K)); apply hK)); clear hK K)
          all_goals
            refine Rnd.sub (s.size - (i + 1)) (by omega) ((hI _ _).2 ⟨i + 1, rfl, by omega, hC2, rfl⟩) (by repeat' (first | exact rfl | exact trivial | exact int_eq (by omega) | exact int_eq (by (rw [i64_wrap] <;> omega)) | constructor))
        · have hC2 : R = false := by
            rcases hC with ⟨a, b⟩ | ⟨rfl, b, d⟩
            · rcases Nat.eq_zero_or_pos i with rfl | h
              · rw [gc, q1] at a
                cases a
              · have : isD c = false := by
                  rw [Bool.eq_false_iff]
                  exact fun x => hz ⟨h, x⟩
                rw [b, st]
                unfold isW
                rw [q1, this]
                rfl
            · exact b
          clear hC
          subst hC2
          rcases Nat.eq_zero_or_pos i with rfl | h
          · repeat' first | (with_reducible refine And.intro (by omega) ?_) | (refine SW.seq_k fun K hK => ?_) | (refine SW.block ?_) | ((first | refine SW.region ?_ | refine SW.regionD (Checked.mixed Tryd.checked) (by kernel_rfl) ?_ | refine SW.cond ?_ | refine SW.skip ?_ | refine SW.exit ?_ | refine SW.ret ?_ | (refine allF_i fun b hb => ?_; replace hD := And.intro hb hD; clear hb; try simp only [fresh_cons, fresh_nil, and_true, ne_eq, neF] at hD) | simp only [appK, appOsK]); try simp only [go_sem, hD, hli, ie, i0, w1, gc]) | (refine And.intro (by omega) ?_) | (refine ifI (fun hc => ?_) (fun hc => ?_) <;> first | (exfalso; omega) | skip) | ((first | apply hK | ((iterate 1 (clear hK K)); apply hK) | ((iterate 2 (clear hK K)); apply hK) | ((iterate 3 (clear hK K)); apply hK) | ((iterate 4 (clear hK K)); apply hK) | ((iterate 5 (clear hK K)); apply hK)); clear hK K)
            all_goals
              refine ret_pure ?_; simp only [resL_tmp, resL_nil, tupOf, go_sem, hD]
          · have z2 : isD c = false := by
              rw [Bool.eq_false_iff]
              exact fun x => hz ⟨h, x⟩
            unfold isD at z2
            simp only [Bool.and_eq_false_iff, decide_eq_false_iff_not] at z2
            have z3 : ¬ ((i : Nat) : Int) = 0 := by omega
            repeat' first | (with_reducible refine And.intro (by omega) ?_) | (refine SW.seq_k fun K hK => ?_) | (refine SW.block ?_) | ((first | refine SW.region ?_ | refine SW.regionD (Checked.mixed Tryd.checked) (by kernel_rfl) ?_ | refine SW.cond ?_ | refine SW.skip ?_ | refine SW.exit ?_ | refine SW.ret ?_ | (refine allF_i fun b hb => ?_; replace hD := And.intro hb hD; clear hb; try simp only [fresh_cons, fresh_nil, and_true, ne_eq, neF] at hD) | simp only [appK, appOsK]); try simp only [go_sem, hD, hli, ie, i0, w1, gc, z3]) | (refine And.intro (by omega) ?_) | (refine ifI (fun hc => ?_) (fun hc => ?_) <;> first | (exfalso; omega) | skip) | ((first | apply hK | ((iterate 1 (clear hK K)); apply hK) | ((iterate 2 (clear hK K)); apply hK) | ((iterate 3 (clear hK K)); apply hK) | ((iterate 4 (clear hK K)); apply hK) | ((iterate 5 (clear hK K)); apply hK)); clear hK K)
            all_goals
              refine ret_pure ?_; simp only [resL_tmp, resL_nil, tupOf, go_sem, hD]
    · have hli : ¬ ((i : Nat) : Int) < (((s.size) : Nat) : Int) := by omega
      have hC2 : R = true := by
        rcases hC with ⟨a, b⟩ | ⟨rfl, b, d⟩
        · rw [b, all_end (l := s.data.toList) (i := i) (by omega)]
        · exfalso; omega
      subst hC2
      repeat' first | (with_reducible refine And.intro (by omega) ?_) | (refine SW.seq_k fun K hK => ?_) | (refine SW.block ?_) | ((first | refine SW.region ?_ | refine SW.regionD (Checked.mixed Tryd.checked) (by kernel_rfl) ?_ | refine SW.cond ?_ | refine SW.skip ?_ | refine SW.exit ?_ | refine SW.ret ?_ | (refine allF_i fun b hb => ?_; replace hD := And.intro hb hD; clear hb; try simp only [fresh_cons, fresh_nil, and_true, ne_eq, neF] at hD) | simp only [appK, appOsK]); try simp only [go_sem, hD, hli]) | (refine And.intro (by omega) ?_) | (refine ifI (fun hc => ?_) (fun hc => ?_) <;> first | (exfalso; omega) | skip) | ((first | apply hK | ((iterate 1 (clear hK K)); apply hK) | ((iterate 2 (clear hK K)); apply hK) | ((iterate 3 (clear hK K)); apply hK) | ((iterate 4 (clear hK K)); apply hK) | ((iterate 5 (clear hK K)); apply hK)); clear hK K)
      refine ret_pure ?_; simp only [resL_tmp, resL_nil, tupOf, go_sem, hD]

set_option maxHeartbeats 1000000 in
set_option maxRecDepth 20000 in
theorem name_r (s : ByteArray) : PCall Tryd.prog 66 [Str s] (SB (nameB s.data.toList)) := by
  have ls : s.data.toList.length = s.size := Array.length_toList
  have b2 := bnull s
  have h0l := letter_c (s.data.toList.getD 0 0)
  rcases name_cases s.data.toList with ⟨h1, h2⟩ | ⟨h1, h2⟩
  · rw [h2]
    have hz : ((s.size : Nat) : Int) = 0 := by rw [← ls, h1]; rfl
    refine Call.enter' (N := 45) (rs := [.tmp 2]) Tryd.func66 rfl rfl rfl (by decide) rfl ?_; simp only [argT]; have hD : (0 : Nat) = 0 := rfl
    repeat' first | (with_reducible refine And.intro (by omega) ?_) | (refine SW.seq_k fun K hK => ?_) | (refine SW.block ?_) | ((first | refine SW.region ?_ | refine SW.regionD (Checked.mixed Tryd.checked) (by kernel_rfl) ?_ | refine SW.cond ?_ | refine SW.skip ?_ | refine SW.exit ?_ | refine SW.ret ?_ | (refine allF_i fun b hb => ?_; replace hD := And.intro hb hD; clear hb; try simp only [fresh_cons, fresh_nil, and_true, ne_eq, neF] at hD) | simp only [appK, appOsK]); try simp only [go_sem, hD, hz]) | (refine And.intro (by omega) ?_) | (refine ifI (fun hc => ?_) (fun hc => ?_) <;> first | (exfalso; omega) | skip) | ((first | apply hK | ((iterate 1 (clear hK K)); apply hK) | ((iterate 2 (clear hK K)); apply hK) | ((iterate 3 (clear hK K)); apply hK) | ((iterate 4 (clear hK K)); apply hK) | ((iterate 5 (clear hK K)); apply hK)); clear hK K)
    refine ret_pure ?_; simp only [resL_tmp, resL_nil, tupOf, go_sem, hD]
  · have h0 : 0 < s.size := by
      rcases Nat.eq_zero_or_pos s.size with h | h
      · exact absurd (List.eq_nil_of_length_eq_zero (by rw [ls]; exact h)) h1
      · exact h
    have hz : ¬ ((s.size : Nat) : Int) = 0 := by omega
    have hz1 : (0 : Int) < ((s.size : Nat) : Int) := by omega
    rcases h2 with ⟨h2, h3⟩ | ⟨h2, h3⟩
    · rw [h3]
      have h24i : (24 : Int) < ((s.size : Nat) : Int) := by omega
      refine Call.enter' (N := 45) (rs := [.tmp 2]) Tryd.func66 rfl rfl rfl (by decide) rfl ?_; simp only [argT]; have hD : (0 : Nat) = 0 := rfl
      repeat' first | (with_reducible refine And.intro (by omega) ?_) | (refine SW.seq_k fun K hK => ?_) | (refine SW.block ?_) | ((first | refine SW.region ?_ | refine SW.regionD (Checked.mixed Tryd.checked) (by kernel_rfl) ?_ | refine SW.cond ?_ | refine SW.skip ?_ | refine SW.exit ?_ | refine SW.ret ?_ | (refine allF_i fun b hb => ?_; replace hD := And.intro hb hD; clear hb; try simp only [fresh_cons, fresh_nil, and_true, ne_eq, neF] at hD) | simp only [appK, appOsK]); try simp only [go_sem, hD, hz, h24i]) | (refine And.intro (by omega) ?_) | (refine ifI (fun hc => ?_) (fun hc => ?_) <;> first | (exfalso; omega) | skip) | ((first | apply hK | ((iterate 1 (clear hK K)); apply hK) | ((iterate 2 (clear hK K)); apply hK) | ((iterate 3 (clear hK K)); apply hK) | ((iterate 4 (clear hK K)); apply hK) | ((iterate 5 (clear hK K)); apply hK)); clear hK K)
      refine ret_pure ?_; simp only [resL_tmp, resL_nil, tupOf, go_sem, hD]
    · have h24i : ¬ (24 : Int) < ((s.size : Nat) : Int) := by omega
      rcases h3 with ⟨h3, h4⟩ | ⟨h3, ⟨h4, h5⟩ | ⟨h4, h5⟩⟩
      · rw [h4]
        rw [decide_eq_true h3] at b2
        cases q : isL (s.data.toList.getD 0 0) with
        | true =>
          rw [q] at h0l
          refine Call.enter' (N := 45) (rs := [.tmp 2]) Tryd.func66 rfl rfl rfl (by decide) rfl ?_; simp only [argT]; have hD : (0 : Nat) = 0 := rfl
          repeat' first | (with_reducible refine And.intro (by omega) ?_) | (refine SW.seq_k fun K hK => ?_) | (refine SW.block ?_) | ((first | refine SW.region ?_ | refine SW.regionD (Checked.mixed Tryd.checked) (by kernel_rfl) ?_ | refine SW.cond ?_ | refine SW.skip ?_ | refine SW.exit ?_ | refine SW.ret ?_ | refine Call.of_pure (h0l) ?_ | refine ⟨_, h0l, ?_⟩ | (refine allF_i fun b hb => ?_; replace hD := And.intro hb hD; clear hb; try simp only [fresh_cons, fresh_nil, and_true, ne_eq, neF] at hD) | simp only [appK, appOsK]); try simp only [go_sem, hD, hz, hz1, h24i, b2]) | (refine And.intro (by omega) ?_) | (refine ifI (fun hc => ?_) (fun hc => ?_) <;> first | (exfalso; omega) | skip) | ((first | apply hK | ((iterate 1 (clear hK K)); apply hK) | ((iterate 2 (clear hK K)); apply hK) | ((iterate 3 (clear hK K)); apply hK) | ((iterate 4 (clear hK K)); apply hK) | ((iterate 5 (clear hK K)); apply hK)); clear hK K)
          refine ret_pure ?_; simp only [resL_tmp, resL_nil, tupOf, go_sem, hD]
        | false =>
          rw [q] at h0l
          refine Call.enter' (N := 45) (rs := [.tmp 2]) Tryd.func66 rfl rfl rfl (by decide) rfl ?_; simp only [argT]; have hD : (0 : Nat) = 0 := rfl
          repeat' first | (with_reducible refine And.intro (by omega) ?_) | (refine SW.seq_k fun K hK => ?_) | (refine SW.block ?_) | ((first | refine SW.region ?_ | refine SW.regionD (Checked.mixed Tryd.checked) (by kernel_rfl) ?_ | refine SW.cond ?_ | refine SW.skip ?_ | refine SW.exit ?_ | refine SW.ret ?_ | refine Call.of_pure (h0l) ?_ | refine ⟨_, h0l, ?_⟩ | (refine allF_i fun b hb => ?_; replace hD := And.intro hb hD; clear hb; try simp only [fresh_cons, fresh_nil, and_true, ne_eq, neF] at hD) | simp only [appK, appOsK]); try simp only [go_sem, hD, hz, hz1, h24i, b2]) | (refine And.intro (by omega) ?_) | (refine ifI (fun hc => ?_) (fun hc => ?_) <;> first | (exfalso; omega) | skip) | ((first | apply hK | ((iterate 1 (clear hK K)); apply hK) | ((iterate 2 (clear hK K)); apply hK) | ((iterate 3 (clear hK K)); apply hK) | ((iterate 4 (clear hK K)); apply hK) | ((iterate 5 (clear hK K)); apply hK)); clear hK K)
          refine ret_pure ?_; simp only [resL_tmp, resL_nil, tupOf, go_sem, hD]
      · rw [h5]
        rw [h4] at h0l
        refine Call.enter' (N := 45) (rs := [.tmp 2]) Tryd.func66 rfl rfl rfl (by decide) rfl ?_; simp only [argT]; have hD : (0 : Nat) = 0 := rfl
        repeat' first | (with_reducible refine And.intro (by omega) ?_) | (refine SW.seq_k fun K hK => ?_) | (refine SW.block ?_) | ((first | refine SW.region ?_ | refine SW.regionD (Checked.mixed Tryd.checked) (by kernel_rfl) ?_ | refine SW.cond ?_ | refine SW.skip ?_ | refine SW.exit ?_ | refine SW.ret ?_ | refine Call.of_pure (h0l) ?_ | refine ⟨_, h0l, ?_⟩ | (refine allF_i fun b hb => ?_; replace hD := And.intro hb hD; clear hb; try simp only [fresh_cons, fresh_nil, and_true, ne_eq, neF] at hD) | simp only [appK, appOsK]); try simp only [go_sem, hD, hz, hz1, h24i, b2]) | (refine And.intro (by omega) ?_) | (refine ifI (fun hc => ?_) (fun hc => ?_) <;> first | (exfalso; omega) | skip) | ((first | apply hK | ((iterate 1 (clear hK K)); apply hK) | ((iterate 2 (clear hK K)); apply hK) | ((iterate 3 (clear hK K)); apply hK) | ((iterate 4 (clear hK K)); apply hK) | ((iterate 5 (clear hK K)); apply hK)); clear hK K)
        refine ret_pure ?_; simp only [resL_tmp, resL_nil, tupOf, go_sem, hD]
      · obtain ⟨R, hR⟩ : ∃ R, R = nameB s.data.toList := ⟨_, rfl⟩
        rw [← hR] at h5 ⊢
        rw [h4] at h0l
        rw [decide_eq_false h3] at b2
        refine Call.enter' (N := 45) (rs := [.tmp 2]) Tryd.func66 rfl rfl rfl (by decide) rfl ?_; simp only [argT]; have hD : (0 : Nat) = 0 := rfl
        repeat' first | (with_reducible refine And.intro (by omega) ?_) | (refine SW.seq_k fun K hK => ?_) | (refine SW.block ?_) | ((first | refine SW.region ?_ | refine SW.regionD (Checked.mixed Tryd.checked) (by kernel_rfl) ?_ | refine SW.cond ?_ | refine SW.skip ?_ | refine SW.exit ?_ | refine SW.ret ?_ | refine Call.of_pure (h0l) ?_ | refine ⟨_, h0l, ?_⟩ | (refine allF_i fun b hb => ?_; replace hD := And.intro hb hD; clear hb; try simp only [fresh_cons, fresh_nil, and_true, ne_eq, neF] at hD) | simp only [appK, appOsK]); try simp only [go_sem, hD, hz, hz1, h24i, b2]) | (refine And.intro (by omega) ?_) | (refine ifI (fun hc => ?_) (fun hc => ?_) <;> first | (exfalso; omega) | skip) | ((first | apply hK | ((iterate 1 (clear hK K)); apply hK) | ((iterate 2 (clear hK K)); apply hK) | ((iterate 3 (clear hK K)); apply hK) | ((iterate 4 (clear hK K)); apply hK) | ((iterate 5 (clear hK K)); apply hK)); clear hK K)
        obtain ⟨I, hI⟩ : ∃ I : Nat → St → Prop, ∀ k S, I k S ↔ (∃ (i : Nat) , k = s.size - i ∧ i ≤ s.size ∧ R = (s.data.toList.drop i).all isW ∧ S = ⟨[(0, Str s), (3, I64 i)], []⟩) := ⟨fun k S => _, fun _ _ => Iff.rfl⟩
        refine SW.loop' I (s.size) ((hI _ _).2 ⟨0, rfl, Nat.zero_le _, h5, rfl⟩) (by repeat' (first | exact rfl | exact trivial | exact int_eq (by omega) | exact int_eq (by (rw [i64_wrap] <;> omega)) | constructor)) ?_
        intro k S hIn
        obtain ⟨i, rfl, hi, hC, rfl⟩ := (hI _ _).1 hIn
        clear hIn
        have ie : ((i : Nat) : Int).toNat = i := Int.toNat_natCast _
        have i0 : (0 : Int) ≤ ((i : Nat) : Int) := by omega
        clear h5 hR
        by_cases hlt : i < s.size
        · have hli : ((i : Nat) : Int) < (((s.size) : Nat) : Int) := by omega
          have w1 : IntKind.i64.wrap ((i : Int) + 1) = ((i + 1 : Nat) : Int) := by rw [i64_wrap (by omega) (by omega)]; omega
          rw [all_step (by omega)] at hC
          obtain ⟨c, gc⟩ : ∃ c, s.data.toList.getD i 0 = c := ⟨_, rfl⟩
          rw [gc] at hC
          have lc := letter_c c
          cases q1 : isL c with
          | true =>
            rw [q1] at lc
            have hC2 : R = (s.data.toList.drop (i + 1)).all isW := by rw [hC]; unfold isW; rw [q1]; rfl
            repeat' first | (with_reducible refine And.intro (by omega) ?_) | (refine SW.seq_k fun K hK => ?_) | (refine SW.block ?_) | ((first | refine SW.region ?_ | refine SW.regionD (Checked.mixed Tryd.checked) (by kernel_rfl) ?_ | refine SW.cond ?_ | refine SW.skip ?_ | refine SW.exit ?_ | refine SW.ret ?_ | refine Call.of_pure (lc) ?_ | refine ⟨_, lc, ?_⟩ | (refine allF_i fun b hb => ?_; replace hD := And.intro hb hD; clear hb; try simp only [fresh_cons, fresh_nil, and_true, ne_eq, neF] at hD) | simp only [appK, appOsK]); try simp only [go_sem, hD, hli, ie, i0, w1, gc]) | (refine And.intro (by omega) ?_) | (refine ifI (fun hc => ?_) (fun hc => ?_) <;> first | (exfalso; omega) | skip) | ((first | apply hK | ((iterate 1 (clear hK K)); apply hK) | ((iterate 2 (clear hK K)); apply hK) | ((iterate 3 (clear hK K)); apply hK) | ((iterate 4 (clear hK K)); apply hK) | ((iterate 5 (clear hK K)); apply hK)); clear hK K)
            refine Rnd.sub (s.size - (i + 1)) (by omega) ((hI _ _).2 ⟨i + 1, rfl, by omega, hC2, rfl⟩) (by repeat' (first | exact rfl | exact trivial | exact int_eq (by omega) | exact int_eq (by (rw [i64_wrap] <;> omega)) | constructor))
          | false =>
            rw [q1] at lc
            cases q2 : isD c with
            | true =>
              have hC2 : R = (s.data.toList.drop (i + 1)).all isW := by rw [hC]; unfold isW; rw [q1, q2]; rfl
              unfold isD at q2
              simp only [Bool.and_eq_true, decide_eq_true_eq] at q2
              repeat' first | (with_reducible refine And.intro (by omega) ?_) | (refine SW.seq_k fun K hK => ?_) | (refine SW.block ?_) | ((first | refine SW.region ?_ | refine SW.regionD (Checked.mixed Tryd.checked) (by kernel_rfl) ?_ | refine SW.cond ?_ | refine SW.skip ?_ | refine SW.exit ?_ | refine SW.ret ?_ | refine Call.of_pure (lc) ?_ | refine ⟨_, lc, ?_⟩ | (refine allF_i fun b hb => ?_; replace hD := And.intro hb hD; clear hb; try simp only [fresh_cons, fresh_nil, and_true, ne_eq, neF] at hD) | simp only [appK, appOsK]); try simp only [go_sem, hD, hli, ie, i0, w1, gc]) | (refine And.intro (by omega) ?_) | (refine ifI (fun hc => ?_) (fun hc => ?_) <;> first | (exfalso; omega) | skip) | ((first | apply hK | ((iterate 1 (clear hK K)); apply hK) | ((iterate 2 (clear hK K)); apply hK) | ((iterate 3 (clear hK K)); apply hK) | ((iterate 4 (clear hK K)); apply hK) | ((iterate 5 (clear hK K)); apply hK)); clear hK K)
              refine Rnd.sub (s.size - (i + 1)) (by omega) ((hI _ _).2 ⟨i + 1, rfl, by omega, hC2, rfl⟩) (by repeat' (first | exact rfl | exact trivial | exact int_eq (by omega) | exact int_eq (by (rw [i64_wrap] <;> omega)) | constructor))
            | false =>
              have hC2 : R = false := by rw [hC]; unfold isW; rw [q1, q2]; rfl
              subst hC2
              unfold isD at q2
              simp only [Bool.and_eq_false_iff, decide_eq_false_iff_not] at q2
              repeat' first | (with_reducible refine And.intro (by omega) ?_) | (refine SW.seq_k fun K hK => ?_) | (refine SW.block ?_) | ((first | refine SW.region ?_ | refine SW.regionD (Checked.mixed Tryd.checked) (by kernel_rfl) ?_ | refine SW.cond ?_ | refine SW.skip ?_ | refine SW.exit ?_ | refine SW.ret ?_ | refine Call.of_pure (lc) ?_ | refine ⟨_, lc, ?_⟩ | (refine allF_i fun b hb => ?_; replace hD := And.intro hb hD; clear hb; try simp only [fresh_cons, fresh_nil, and_true, ne_eq, neF] at hD) | simp only [appK, appOsK]); try simp only [go_sem, hD, hli, ie, i0, w1, gc]) | (refine And.intro (by omega) ?_) | (refine ifI (fun hc => ?_) (fun hc => ?_) <;> first | (exfalso; omega) | skip) | ((first | apply hK | ((iterate 1 (clear hK K)); apply hK) | ((iterate 2 (clear hK K)); apply hK) | ((iterate 3 (clear hK K)); apply hK) | ((iterate 4 (clear hK K)); apply hK) | ((iterate 5 (clear hK K)); apply hK)); clear hK K)
              all_goals
                refine ret_pure ?_; simp only [resL_tmp, resL_nil, tupOf, go_sem, hD]
        · have hli : ¬ ((i : Nat) : Int) < (((s.size) : Nat) : Int) := by omega
          rw [all_end (l := s.data.toList) (i := i) (by omega)] at hC
          subst hC
          repeat' first | (with_reducible refine And.intro (by omega) ?_) | (refine SW.seq_k fun K hK => ?_) | (refine SW.block ?_) | ((first | refine SW.region ?_ | refine SW.regionD (Checked.mixed Tryd.checked) (by kernel_rfl) ?_ | refine SW.cond ?_ | refine SW.skip ?_ | refine SW.exit ?_ | refine SW.ret ?_ | (refine allF_i fun b hb => ?_; replace hD := And.intro hb hD; clear hb; try simp only [fresh_cons, fresh_nil, and_true, ne_eq, neF] at hD) | simp only [appK, appOsK]); try simp only [go_sem, hD, hli]) | (refine And.intro (by omega) ?_) | (refine ifI (fun hc => ?_) (fun hc => ?_) <;> first | (exfalso; omega) | skip) | ((first | apply hK | ((iterate 1 (clear hK K)); apply hK) | ((iterate 2 (clear hK K)); apply hK) | ((iterate 3 (clear hK K)); apply hK) | ((iterate 4 (clear hK K)); apply hK) | ((iterate 5 (clear hK K)); apply hK)); clear hK K)
          refine ret_pure ?_; simp only [resL_tmp, resL_nil, tupOf, go_sem, hD]
end Go.Proofs.YtblfodnajpamfaaDoor
/- Contracts: lists of names. -/
set_option linter.unusedSimpArgs false
set_option linter.unusedVariables false
set_option linter.unusedSectionVars false
namespace Go.Ab.A34
open Go Go.Ab
/-- Where a text stands in a list. -/
def posS (x : ByteArray) : Nat → List ByteArray → Int
  | _, [] => -1
  | i, y :: l => if x = y then (i : Int) else posS x (i + 1) l
theorem posS_step {x : ByteArray} {l : List ByteArray} {i : Nat} (h : i < l.length) : posS x i (l.drop i) = if x = l.getD i ⟨#[]⟩ then (i : Int) else posS x (i + 1) (l.drop (i + 1)) := by
  have g : l.getD i ⟨#[]⟩ = l[i] := by simp [List.getD_eq_getElem?_getD, h]
  rw [List.drop_eq_getElem_cons h, g]
  rfl
/-- Names, all different. -/
def namesF (l : List ByteArray) : Nat → Nat → Bool
  | 0, _ => true
  | g + 1, i => nameB (l.getD i ⟨#[]⟩).data.toList && (!decide (0 ≤ posS (l.getD i ⟨#[]⟩) 0 (l.take i))) && namesF l g (i + 1)
def namesB (l : List ByteArray) : Bool := namesF l l.length 0
def sF (l : List ByteArray) (i : Nat) : List SV := [.sc (.string (l.getD i ⟨#[]⟩))]
abbrev SL (l : List ByteArray) : SV := .fl l.length 1 (sF l)
theorem getD_take {α : Type} (l : List α) (n i : Nat) (d : α) (h : i < n) : (l.take n).getD i d = l.getD i d := by
  rw [List.getD_eq_getElem?_getD, List.getD_eq_getElem?_getD, List.getElem?_take, if_pos h]
end Go.Ab.A34
namespace Go.Proofs.YtblfodnajpamfaaDoor
open Go Go.Ab Go.Ab.A34
variable [Gl] [Tabs]

theorem index_c (x : ByteArray) (l : List ByteArray) (n : Nat) (hl : n ≤ 1000000) (hn : l.length = n) (f : Nat → List SV) (hf : ∀ i, i < n → f i = [Str (l.getD i ⟨#[]⟩)]) : PCall Tryd.prog 74 [.fl n 1 f, Str x] (I64 (posS x 0 l)) := by
  subst hn
  obtain ⟨R, hR⟩ : ∃ R, R = posS x 0 l := ⟨_, rfl⟩
  rw [← hR]
  refine Call.enter' (N := 19) (rs := [.tmp 4]) Tryd.func74 rfl rfl rfl (by decide) rfl ?_; simp only [argT]; have hD : (0 : Nat) = 0 := rfl
  repeat' first | (with_reducible refine And.intro (by omega) ?_) | (refine SW.seq_k fun K hK => ?_) | (refine SW.block ?_) | ((first | refine SW.region ?_ | refine SW.regionD (Checked.mixed Tryd.checked) (by kernel_rfl) ?_ | refine SW.cond ?_ | refine SW.skip ?_ | refine SW.exit ?_ | refine SW.ret ?_ | (refine allF_i fun b hb => ?_; replace hD := And.intro hb hD; clear hb; try simp only [fresh_cons, fresh_nil, and_true, ne_eq, neF] at hD) | simp only [appK, appOsK]); try simp only [go_sem, hD]) | (refine And.intro (by omega) ?_) | (refine ifI (fun hc => ?_) (fun hc => ?_) <;> first | (exfalso; omega) | skip) | ((first | apply hK | ((iterate 1 (clear hK K)); apply hK) | ((iterate 2 (clear hK K)); apply hK) | ((iterate 3 (clear hK K)); apply hK) | ((iterate 4 (clear hK K)); apply hK) | ((iterate 5 (clear hK K)); apply hK)); clear hK K)
  obtain ⟨I, hI⟩ : ∃ I : Nat → St → Prop, ∀ k S, I k S ↔ (∃ (i : Nat) , k = l.length - i ∧ i ≤ l.length ∧ R = posS x i (l.drop i) ∧ S = ⟨[(0, .fl l.length 1 f), (1, Str x), (7, I64 l.length), (8, I64 i)], []⟩) := ⟨fun k S => _, fun _ _ => Iff.rfl⟩
  refine SW.loop' I (l.length) ((hI _ _).2 ⟨0, rfl, Nat.zero_le _, by rw [List.drop_zero]; exact hR, rfl⟩) (by repeat' (first | exact rfl | exact trivial | exact int_eq (by omega) | exact int_eq (by (rw [i64_wrap] <;> omega)) | constructor)) ?_
  intro k S hIn
  obtain ⟨i, rfl, hi, hC, rfl⟩ := (hI _ _).1 hIn
  clear hIn
  have ie : ((i : Nat) : Int).toNat = i := Int.toNat_natCast _
  have i0 : (0 : Int) ≤ ((i : Nat) : Int) := by omega
  clear hR
  by_cases hlt : i < l.length
  · have hli : ((i : Nat) : Int) < (((l.length) : Nat) : Int) := by omega
    have w1 : IntKind.i64.wrap ((i : Int) + 1) = ((i + 1 : Nat) : Int) := by rw [i64_wrap (by omega) (by omega)]; omega
    rw [posS_step hlt] at hC
    have fi := hf i hlt
    by_cases he : x = l.getD i ⟨#[]⟩
    · rw [if_pos he] at hC
      have ee : (x.toList == (l.getD i ⟨#[]⟩).toList) = true := barr_eq.2 he
      subst hC
      repeat' first | (with_reducible refine And.intro (by omega) ?_) | (refine SW.seq_k fun K hK => ?_) | (refine SW.block ?_) | ((first | refine SW.region ?_ | refine SW.regionD (Checked.mixed Tryd.checked) (by kernel_rfl) ?_ | refine SW.cond ?_ | refine SW.skip ?_ | refine SW.exit ?_ | refine SW.ret ?_ | (refine allF_i fun b hb => ?_; replace hD := And.intro hb hD; clear hb; try simp only [fresh_cons, fresh_nil, and_true, ne_eq, neF] at hD) | simp only [appK, appOsK]); try simp only [go_sem, hD, hli, ie, i0, w1, fi, ee]) | (refine And.intro (by omega) ?_) | (refine ifI (fun hc => ?_) (fun hc => ?_) <;> first | (exfalso; omega) | skip) | ((first | apply hK | ((iterate 1 (clear hK K)); apply hK) | ((iterate 2 (clear hK K)); apply hK) | ((iterate 3 (clear hK K)); apply hK) | ((iterate 4 (clear hK K)); apply hK) | ((iterate 5 (clear hK K)); apply hK)); clear hK K)
      refine ret_pure ?_; simp only [resL_tmp, resL_nil, tupOf, go_sem, hD]
    · rw [if_neg he] at hC
      have ee : (x.toList == (l.getD i ⟨#[]⟩).toList) = false := by rw [Bool.eq_false_iff]; exact fun h => he (barr_eq.1 h)
      repeat' first | (with_reducible refine And.intro (by omega) ?_) | (refine SW.seq_k fun K hK => ?_) | (refine SW.block ?_) | ((first | refine SW.region ?_ | refine SW.regionD (Checked.mixed Tryd.checked) (by kernel_rfl) ?_ | refine SW.cond ?_ | refine SW.skip ?_ | refine SW.exit ?_ | refine SW.ret ?_ | (refine allF_i fun b hb => ?_; replace hD := And.intro hb hD; clear hb; try simp only [fresh_cons, fresh_nil, and_true, ne_eq, neF] at hD) | simp only [appK, appOsK]); try simp only [go_sem, hD, hli, ie, i0, w1, fi, ee]) | (refine And.intro (by omega) ?_) | (refine ifI (fun hc => ?_) (fun hc => ?_) <;> first | (exfalso; omega) | skip) | ((first | apply hK | ((iterate 1 (clear hK K)); apply hK) | ((iterate 2 (clear hK K)); apply hK) | ((iterate 3 (clear hK K)); apply hK) | ((iterate 4 (clear hK K)); apply hK) | ((iterate 5 (clear hK K)); apply hK)); clear hK K)
      refine Rnd.sub (l.length - (i + 1)) (by omega) ((hI _ _).2 ⟨i + 1, rfl, by omega, hC, rfl⟩) (by repeat' (first | exact rfl | exact trivial | exact int_eq (by omega) | exact int_eq (by (rw [i64_wrap] <;> omega)) | constructor))
  · have hli : ¬ ((i : Nat) : Int) < (((l.length) : Nat) : Int) := by omega
    rw [List.drop_of_length_le (by omega)] at hC
    have hC2 : R = -1 := hC
    subst hC2
    repeat' first | (with_reducible refine And.intro (by omega) ?_) | (refine SW.seq_k fun K hK => ?_) | (refine SW.block ?_) | ((first | refine SW.region ?_ | refine SW.regionD (Checked.mixed Tryd.checked) (by kernel_rfl) ?_ | refine SW.cond ?_ | refine SW.skip ?_ | refine SW.exit ?_ | refine SW.ret ?_ | (refine allF_i fun b hb => ?_; replace hD := And.intro hb hD; clear hb; try simp only [fresh_cons, fresh_nil, and_true, ne_eq, neF] at hD) | simp only [appK, appOsK]); try simp only [go_sem, hD, hli]) | (refine And.intro (by omega) ?_) | (refine ifI (fun hc => ?_) (fun hc => ?_) <;> first | (exfalso; omega) | skip) | ((first | apply hK | ((iterate 1 (clear hK K)); apply hK) | ((iterate 2 (clear hK K)); apply hK) | ((iterate 3 (clear hK K)); apply hK) | ((iterate 4 (clear hK K)); apply hK) | ((iterate 5 (clear hK K)); apply hK)); clear hK K)
    refine ret_pure ?_; simp only [resL_tmp, resL_nil, tupOf, go_sem, hD]

theorem contains_c (x : ByteArray) (l : List ByteArray) (n : Nat) (hl : n ≤ 1000000) (hn : l.length = n) (f : Nat → List SV) (hf : ∀ i, i < n → f i = [Str (l.getD i ⟨#[]⟩)]) : PCall Tryd.prog 61 [.fl n 1 f, Str x] (SB (decide (0 ≤ posS x 0 l))) := by
  have ix := index_c x l n hl hn f hf
  refine Call.enter' (N := 9) (rs := [.tmp 4]) Tryd.func61 rfl rfl rfl (by decide) rfl ?_; simp only [argT]; have hD : (0 : Nat) = 0 := rfl
  repeat' first | (with_reducible refine And.intro (by omega) ?_) | (refine SW.seq_k fun K hK => ?_) | (refine SW.block ?_) | ((first | refine SW.region ?_ | refine SW.regionD (Checked.mixed Tryd.checked) (by kernel_rfl) ?_ | refine SW.cond ?_ | refine SW.skip ?_ | refine SW.exit ?_ | refine SW.ret ?_ | refine Call.of_pure (ix) ?_ | refine ⟨_, ix, ?_⟩ | (refine allF_i fun b hb => ?_; replace hD := And.intro hb hD; clear hb; try simp only [fresh_cons, fresh_nil, and_true, ne_eq, neF] at hD) | simp only [appK, appOsK]); try simp only [go_sem, hD]) | (refine And.intro (by omega) ?_) | (refine ifI (fun hc => ?_) (fun hc => ?_) <;> first | (exfalso; omega) | skip) | ((first | apply hK | ((iterate 1 (clear hK K)); apply hK) | ((iterate 2 (clear hK K)); apply hK) | ((iterate 3 (clear hK K)); apply hK) | ((iterate 4 (clear hK K)); apply hK) | ((iterate 5 (clear hK K)); apply hK)); clear hK K)
  refine ret_pure ?_; simp only [resL_tmp, resL_nil, tupOf, go_sem, hD]

theorem attr_r (x : ByteArray) (l : List ByteArray) (n : Nat) (hl : n ≤ 1000000) (hn : l.length = n) (f : Nat → List SV) (hf : ∀ i, i < n → f i = [Str (l.getD i ⟨#[]⟩)]) : PCall Tryd.prog 80 [.fl n 1 f, Str x] (I64 (posS x 0 l)) := by
  subst hn
  obtain ⟨R, hR⟩ : ∃ R, R = posS x 0 l := ⟨_, rfl⟩
  rw [← hR]
  refine Call.enter' (N := 19) (rs := [.tmp 4]) Tryd.func80 rfl rfl rfl (by decide) rfl ?_; simp only [argT]; have hD : (0 : Nat) = 0 := rfl
  repeat' first | (with_reducible refine And.intro (by omega) ?_) | (refine SW.seq_k fun K hK => ?_) | (refine SW.block ?_) | ((first | refine SW.region ?_ | refine SW.regionD (Checked.mixed Tryd.checked) (by kernel_rfl) ?_ | refine SW.cond ?_ | refine SW.skip ?_ | refine SW.exit ?_ | refine SW.ret ?_ | (refine allF_i fun b hb => ?_; replace hD := And.intro hb hD; clear hb; try simp only [fresh_cons, fresh_nil, and_true, ne_eq, neF] at hD) | simp only [appK, appOsK]); try simp only [go_sem, hD]) | (refine And.intro (by omega) ?_) | (refine ifI (fun hc => ?_) (fun hc => ?_) <;> first | (exfalso; omega) | skip) | ((first | apply hK | ((iterate 1 (clear hK K)); apply hK) | ((iterate 2 (clear hK K)); apply hK) | ((iterate 3 (clear hK K)); apply hK) | ((iterate 4 (clear hK K)); apply hK) | ((iterate 5 (clear hK K)); apply hK)); clear hK K)
  obtain ⟨I, hI⟩ : ∃ I : Nat → St → Prop, ∀ k S, I k S ↔ (∃ (i : Nat) , k = l.length - i ∧ i ≤ l.length ∧ R = posS x i (l.drop i) ∧ S = ⟨[(0, .fl l.length 1 f), (1, Str x), (5, I64 i)], []⟩) := ⟨fun k S => _, fun _ _ => Iff.rfl⟩
  refine SW.loop' I (l.length) ((hI _ _).2 ⟨0, rfl, Nat.zero_le _, by rw [List.drop_zero]; exact hR, rfl⟩) (by repeat' (first | exact rfl | exact trivial | exact int_eq (by omega) | exact int_eq (by (rw [i64_wrap] <;> omega)) | constructor)) ?_
  intro k S hIn
  obtain ⟨i, rfl, hi, hC, rfl⟩ := (hI _ _).1 hIn
  clear hIn
  have ie : ((i : Nat) : Int).toNat = i := Int.toNat_natCast _
  have i0 : (0 : Int) ≤ ((i : Nat) : Int) := by omega
  clear hR
  by_cases hlt : i < l.length
  · have hli : ((i : Nat) : Int) < (((l.length) : Nat) : Int) := by omega
    have w1 : IntKind.i64.wrap ((i : Int) + 1) = ((i + 1 : Nat) : Int) := by rw [i64_wrap (by omega) (by omega)]; omega
    rw [posS_step hlt] at hC
    have fi := hf i hlt
    by_cases he : x = l.getD i ⟨#[]⟩
    · rw [if_pos he] at hC
      have ee : ((l.getD i ⟨#[]⟩).toList == x.toList) = true := barr_eq.2 he.symm
      subst hC
      repeat' first | (with_reducible refine And.intro (by omega) ?_) | (refine SW.seq_k fun K hK => ?_) | (refine SW.block ?_) | ((first | refine SW.region ?_ | refine SW.regionD (Checked.mixed Tryd.checked) (by kernel_rfl) ?_ | refine SW.cond ?_ | refine SW.skip ?_ | refine SW.exit ?_ | refine SW.ret ?_ | (refine allF_i fun b hb => ?_; replace hD := And.intro hb hD; clear hb; try simp only [fresh_cons, fresh_nil, and_true, ne_eq, neF] at hD) | simp only [appK, appOsK]); try simp only [go_sem, hD, hli, ie, i0, w1, fi, ee]) | (refine And.intro (by omega) ?_) | (refine ifI (fun hc => ?_) (fun hc => ?_) <;> first | (exfalso; omega) | skip) | ((first | apply hK | ((iterate 1 (clear hK K)); apply hK) | ((iterate 2 (clear hK K)); apply hK) | ((iterate 3 (clear hK K)); apply hK) | ((iterate 4 (clear hK K)); apply hK) | ((iterate 5 (clear hK K)); apply hK)); clear hK K)
      refine ret_pure ?_; simp only [resL_tmp, resL_nil, tupOf, go_sem, hD]
    · rw [if_neg he] at hC
      have ee : ((l.getD i ⟨#[]⟩).toList == x.toList) = false := by rw [Bool.eq_false_iff]; exact fun h => he (barr_eq.1 h).symm
      repeat' first | (with_reducible refine And.intro (by omega) ?_) | (refine SW.seq_k fun K hK => ?_) | (refine SW.block ?_) | ((first | refine SW.region ?_ | refine SW.regionD (Checked.mixed Tryd.checked) (by kernel_rfl) ?_ | refine SW.cond ?_ | refine SW.skip ?_ | refine SW.exit ?_ | refine SW.ret ?_ | (refine allF_i fun b hb => ?_; replace hD := And.intro hb hD; clear hb; try simp only [fresh_cons, fresh_nil, and_true, ne_eq, neF] at hD) | simp only [appK, appOsK]); try simp only [go_sem, hD, hli, ie, i0, w1, fi, ee]) | (refine And.intro (by omega) ?_) | (refine ifI (fun hc => ?_) (fun hc => ?_) <;> first | (exfalso; omega) | skip) | ((first | apply hK | ((iterate 1 (clear hK K)); apply hK) | ((iterate 2 (clear hK K)); apply hK) | ((iterate 3 (clear hK K)); apply hK) | ((iterate 4 (clear hK K)); apply hK) | ((iterate 5 (clear hK K)); apply hK)); clear hK K)
      refine Rnd.sub (l.length - (i + 1)) (by omega) ((hI _ _).2 ⟨i + 1, rfl, by omega, hC, rfl⟩) (by repeat' (first | exact rfl | exact trivial | exact int_eq (by omega) | exact int_eq (by (rw [i64_wrap] <;> omega)) | constructor))
  · have hli : ¬ ((i : Nat) : Int) < (((l.length) : Nat) : Int) := by omega
    rw [List.drop_of_length_le (by omega)] at hC
    have hC2 : R = -1 := hC
    subst hC2
    repeat' first | (with_reducible refine And.intro (by omega) ?_) | (refine SW.seq_k fun K hK => ?_) | (refine SW.block ?_) | ((first | refine SW.region ?_ | refine SW.regionD (Checked.mixed Tryd.checked) (by kernel_rfl) ?_ | refine SW.cond ?_ | refine SW.skip ?_ | refine SW.exit ?_ | refine SW.ret ?_ | (refine allF_i fun b hb => ?_; replace hD := And.intro hb hD; clear hb; try simp only [fresh_cons, fresh_nil, and_true, ne_eq, neF] at hD) | simp only [appK, appOsK]); try simp only [go_sem, hD, hli]) | (refine And.intro (by omega) ?_) | (refine ifI (fun hc => ?_) (fun hc => ?_) <;> first | (exfalso; omega) | skip) | ((first | apply hK | ((iterate 1 (clear hK K)); apply hK) | ((iterate 2 (clear hK K)); apply hK) | ((iterate 3 (clear hK K)); apply hK) | ((iterate 4 (clear hK K)); apply hK) | ((iterate 5 (clear hK K)); apply hK)); clear hK K)
    refine ret_pure ?_; simp only [resL_tmp, resL_nil, tupOf, go_sem, hD]

theorem sF_take {l : List ByteArray} {i j : Nat} (hj : j < i) : sF l j = [Str ((l.take i).getD j ⟨#[]⟩)] := by
  rw [getD_take _ _ _ _ hj]
  rfl

set_option maxHeartbeats 1000000 in
set_option maxRecDepth 20000 in
theorem names_r (l : List ByteArray) (hl : l.length ≤ 1000000) : PCall Tryd.prog 67 [SL l] (SB (namesB l)) := by
  obtain ⟨R, hR⟩ : ∃ R, R = namesB l := ⟨_, rfl⟩
  rw [← hR]
  unfold namesB at hR
  refine Call.enter' (N := 27) (rs := [.tmp 2]) Tryd.func67 rfl rfl rfl (by decide) rfl ?_; simp only [argT]; have hD : (0 : Nat) = 0 := rfl
  repeat' first | (with_reducible refine And.intro (by omega) ?_) | (refine SW.seq_k fun K hK => ?_) | (refine SW.block ?_) | ((first | refine SW.region ?_ | refine SW.regionD (Checked.mixed Tryd.checked) (by kernel_rfl) ?_ | refine SW.cond ?_ | refine SW.skip ?_ | refine SW.exit ?_ | refine SW.ret ?_ | (refine allF_i fun b hb => ?_; replace hD := And.intro hb hD; clear hb; try simp only [fresh_cons, fresh_nil, and_true, ne_eq, neF] at hD) | simp only [appK, appOsK]); try simp only [go_sem, hD]) | (refine And.intro (by omega) ?_) | (refine ifI (fun hc => ?_) (fun hc => ?_) <;> first | (exfalso; omega) | skip) | ((first | apply hK | ((iterate 1 (clear hK K)); apply hK) | ((iterate 2 (clear hK K)); apply hK) | ((iterate 3 (clear hK K)); apply hK) | ((iterate 4 (clear hK K)); apply hK) | ((iterate 5 (clear hK K)); apply hK)); clear hK K)
  obtain ⟨I, hI⟩ : ∃ I : Nat → St → Prop, ∀ k S, I k S ↔ (∃ (i : Nat) , k = l.length - i ∧ i ≤ l.length ∧ R = namesF l (l.length - i) i ∧ S = ⟨[(0, SL l), (3, I64 i)], []⟩) := ⟨fun k S => _, fun _ _ => Iff.rfl⟩
  refine SW.loop' I (l.length) ((hI _ _).2 ⟨0, rfl, Nat.zero_le _, hR, rfl⟩) (by repeat' (first | exact rfl | exact trivial | exact int_eq (by omega) | exact int_eq (by (rw [i64_wrap] <;> omega)) | constructor)) ?_
  intro k S hIn
  obtain ⟨i, rfl, hi, hC, rfl⟩ := (hI _ _).1 hIn
  clear hIn
  have ie : ((i : Nat) : Int).toNat = i := Int.toNat_natCast _
  have i0 : (0 : Int) ≤ ((i : Nat) : Int) := by omega
  clear hR
  by_cases hlt : i < l.length
  · have hli : ((i : Nat) : Int) < (((l.length) : Nat) : Int) := by omega
    have w1 : IntKind.i64.wrap ((i : Int) + 1) = ((i + 1 : Nat) : Int) := by rw [i64_wrap (by omega) (by omega)]; omega
    have e : l.length - i = (l.length - (i + 1)) + 1 := by omega
    rw [e, namesF] at hC
    have iz : (((i : Nat) : Int) - 0).toNat = i := by omega
    have il : ((i : Nat) : Int) ≤ ((l.length : Nat) : Int) := by omega
    have fi : sF l i = [Str (l.getD i ⟨#[]⟩)] := rfl
    have nm := name_r (l.getD i ⟨#[]⟩)
    have at' := attr_r (l.getD i ⟨#[]⟩) (l.take i) i (by omega) (by rw [List.length_take]; omega) (sF l) (fun j hj => sF_take (l := l) hj)
    generalize posS (l.getD i ⟨#[]⟩) 0 (l.take i) = q at *
    cases q1 : nameB (l.getD i ⟨#[]⟩).data.toList with
    | false =>
      rw [q1] at nm hC
      have hC2 : R = false := hC
      subst hC2
      repeat' first | (with_reducible refine And.intro (by omega) ?_) | (refine SW.seq_k fun K hK => ?_) | (refine SW.block ?_) | ((first | refine SW.region ?_ | refine SW.regionD (Checked.mixed Tryd.checked) (by kernel_rfl) ?_ | refine SW.cond ?_ | refine SW.skip ?_ | refine SW.exit ?_ | refine SW.ret ?_ | refine Call.of_pure (nm) ?_ | refine ⟨_, nm, ?_⟩ | refine Call.of_pure (at') ?_ | refine ⟨_, at', ?_⟩ | (refine allF_i fun b hb => ?_; replace hD := And.intro hb hD; clear hb; try simp only [fresh_cons, fresh_nil, and_true, ne_eq, neF] at hD) | simp only [appK, appOsK]); try simp only [go_sem, hD, hli, ie, i0, w1, fi, iz, il]) | (refine And.intro (by omega) ?_) | (refine ifI (fun hc => ?_) (fun hc => ?_) <;> first | (exfalso; omega) | skip) | ((first | apply hK | ((iterate 1 (clear hK K)); apply hK) | ((iterate 2 (clear hK K)); apply hK) | ((iterate 3 (clear hK K)); apply hK) | ((iterate 4 (clear hK K)); apply hK) | ((iterate 5 (clear hK K)); apply hK)); clear hK K)
      refine ret_pure ?_; simp only [resL_tmp, resL_nil, tupOf, go_sem, hD]
    | true =>
      rw [q1] at nm hC
      rw [Bool.true_and] at hC
      by_cases hq : 0 ≤ q
      · rw [decide_eq_true hq] at hC
        have hC2 : R = false := hC
        subst hC2
        repeat' first | (with_reducible refine And.intro (by omega) ?_) | (refine SW.seq_k fun K hK => ?_) | (refine SW.block ?_) | ((first | refine SW.region ?_ | refine SW.regionD (Checked.mixed Tryd.checked) (by kernel_rfl) ?_ | refine SW.cond ?_ | refine SW.skip ?_ | refine SW.exit ?_ | refine SW.ret ?_ | refine Call.of_pure (nm) ?_ | refine ⟨_, nm, ?_⟩ | refine Call.of_pure (at') ?_ | refine ⟨_, at', ?_⟩ | (refine allF_i fun b hb => ?_; replace hD := And.intro hb hD; clear hb; try simp only [fresh_cons, fresh_nil, and_true, ne_eq, neF] at hD) | simp only [appK, appOsK]); try simp only [go_sem, hD, hli, ie, i0, w1, fi, iz, il, hq]) | (refine And.intro (by omega) ?_) | (refine ifI (fun hc => ?_) (fun hc => ?_) <;> first | (exfalso; omega) | skip) | ((first | apply hK | ((iterate 1 (clear hK K)); apply hK) | ((iterate 2 (clear hK K)); apply hK) | ((iterate 3 (clear hK K)); apply hK) | ((iterate 4 (clear hK K)); apply hK) | ((iterate 5 (clear hK K)); apply hK)); clear hK K)
        refine ret_pure ?_; simp only [resL_tmp, resL_nil, tupOf, go_sem, hD]
      · rw [decide_eq_false hq, Bool.not_false, Bool.true_and] at hC
        repeat' first | (with_reducible refine And.intro (by omega) ?_) | (refine SW.seq_k fun K hK => ?_) | (refine SW.block ?_) | ((first | refine SW.region ?_ | refine SW.regionD (Checked.mixed Tryd.checked) (by kernel_rfl) ?_ | refine SW.cond ?_ | refine SW.skip ?_ | refine SW.exit ?_ | refine SW.ret ?_ | refine Call.of_pure (nm) ?_ | refine ⟨_, nm, ?_⟩ | refine Call.of_pure (at') ?_ | refine ⟨_, at', ?_⟩ | (refine allF_i fun b hb => ?_; replace hD := And.intro hb hD; clear hb; try simp only [fresh_cons, fresh_nil, and_true, ne_eq, neF] at hD) | simp only [appK, appOsK]); try simp only [go_sem, hD, hli, ie, i0, w1, fi, iz, il, hq]) | (refine And.intro (by omega) ?_) | (refine ifI (fun hc => ?_) (fun hc => ?_) <;> first | (exfalso; omega) | skip) | ((first | apply hK | ((iterate 1 (clear hK K)); apply hK) | ((iterate 2 (clear hK K)); apply hK) | ((iterate 3 (clear hK K)); apply hK) | ((iterate 4 (clear hK K)); apply hK) | ((iterate 5 (clear hK K)); apply hK)); clear hK K)
        refine Rnd.sub (l.length - (i + 1)) (by omega) ((hI _ _).2 ⟨i + 1, rfl, by omega, hC, rfl⟩) (by repeat' (first | exact rfl | exact trivial | exact int_eq (by omega) | exact int_eq (by (rw [i64_wrap] <;> omega)) | constructor))
  · have hli : ¬ ((i : Nat) : Int) < (((l.length) : Nat) : Int) := by omega
    have e : l.length - i = 0 := by omega
    rw [e] at hC
    have hC2 : R = true := hC
    subst hC2
    repeat' first | (with_reducible refine And.intro (by omega) ?_) | (refine SW.seq_k fun K hK => ?_) | (refine SW.block ?_) | ((first | refine SW.region ?_ | refine SW.regionD (Checked.mixed Tryd.checked) (by kernel_rfl) ?_ | refine SW.cond ?_ | refine SW.skip ?_ | refine SW.exit ?_ | refine SW.ret ?_ | (refine allF_i fun b hb => ?_; replace hD := And.intro hb hD; clear hb; try simp only [fresh_cons, fresh_nil, and_true, ne_eq, neF] at hD) | simp only [appK, appOsK]); try simp only [go_sem, hD, hli]) | (refine And.intro (by omega) ?_) | (refine ifI (fun hc => ?_) (fun hc => ?_) <;> first | (exfalso; omega) | skip) | ((first | apply hK | ((iterate 1 (clear hK K)); apply hK) | ((iterate 2 (clear hK K)); apply hK) | ((iterate 3 (clear hK K)); apply hK) | ((iterate 4 (clear hK K)); apply hK) | ((iterate 5 (clear hK K)); apply hK)); clear hK K)
    refine ret_pure ?_; simp only [resL_tmp, resL_nil, tupOf, go_sem, hD]
end Go.Proofs.YtblfodnajpamfaaDoor
/- Contracts: valid tables. -/
set_option linter.unusedSimpArgs false
set_option linter.unusedVariables false
set_option linter.unusedSectionVars false
namespace Go.Ab
theorem St.le_only [Gl] {t : List (Nat × SV)} {h : Heap} {b : Nat} {k : Blk} (hm : (b, k) ∈ h) : (St.mk t h).le ⟨t, [(b, k)]⟩ := St.le_sublist (fun x hx => by
  rw [List.mem_singleton] at hx
  rw [hx]
  exact hm) (fun _ => by simp)
end Go.Ab
namespace Go.Ab.A34
open Go Go.Ab Go.Proofs
abbrev V3 := Int × Int × ByteArray
def v0 : V3 := (0, 0, ⟨#[]⟩)
def encV (v : V3) : List Value := [.int .i64 v.1, .int .i64 v.2.1, .string v.2.2]
abbrev vC (v : V3) : List SV := [I64 v.1, I64 v.2.1, Str v.2.2]
abbrev VV (v : V3) : SV := .agg (vC v)
def vF (l : List V3) (i : Nat) : List SV := vC (l.getD i v0)
abbrev VL (l : List V3) : SV := .fl l.length 3 (vF l)
abbrev R3 := Int × List V3
def r0 : R3 := (0, [])
def rC (r : R3) : List SV := [I64 r.1, VL r.2]
def rF (l : List R3) (i : Nat) : List SV := rC (l.getD i r0)
abbrev RL (l : List R3) : SV := .fl l.length 2 (rF l)
/-- A table. -/
structure Tb where
  name : ByteArray
  attrs : List ByteArray
  rows : List R3
abbrev TB (t : Tb) : SV := .agg [Str t.name, SL t.attrs, RL t.rows]
def okV (v : V3) : Bool := vok v.1 v.2.1 v.2.2
def rowsV (n : Nat) : Int → List R3 → Int
  | _, [] => 0
  | last, r :: l => if r.1 ≤ last then 1 else if ¬ r.2.length = n then 6 else if r.2.all okV = true then rowsV n r.1 l else 1
/-- The error of a table. -/
def validS (t : Tb) : Int :=
  if nameB t.name.data.toList = true then
    if 16 < t.attrs.length ∨ 1000 < t.rows.length then 3
    else if namesB t.attrs = true then rowsV t.attrs.length 0 t.rows else 1
  else 1
theorem okV_step {l : List V3} {i : Nat} (h : i < l.length) : (l.drop i).all okV = (okV (l.getD i v0) && (l.drop (i + 1)).all okV) := by
  have g : l.getD i v0 = l[i] := by simp [List.getD_eq_getElem?_getD, h]
  rw [List.drop_eq_getElem_cons h, List.all_cons, g]
theorem rowsV_step {n : Nat} {p : Int} {l : List R3} {i : Nat} (h : i < l.length) : rowsV n p (l.drop i) = if (l.getD i r0).1 ≤ p then 1 else if ¬ (l.getD i r0).2.length = n then 6 else if (l.getD i r0).2.all okV = true then rowsV n (l.getD i r0).1 (l.drop (i + 1)) else 1 := by
  have g : l.getD i r0 = l[i] := by simp [List.getD_eq_getElem?_getD, h]
  rw [List.drop_eq_getElem_cons h, g]
  rfl
theorem getD_mem {α : Type} (d : α) {l : List α} {i : Nat} (h : i < l.length) : l.getD i d ∈ l := by
  have g : l.getD i d = l[i] := by simp [List.getD_eq_getElem?_getD, h]
  rw [g]
  exact List.getElem_mem h
/-- Where the first element stands that answers true. -/
def posF {α : Type} (p : α → Bool) : Nat → List α → Int
  | _, [] => -1
  | i, y :: l => if p y = true then (i : Int) else posF p (i + 1) l
theorem posF_any {α : Type} (p : α → Bool) : ∀ (l : List α) (i : Nat), (0 ≤ posF p i l ↔ l.any p = true)
  | [], i => by
    unfold posF
    simp
  | y :: l, i => by
    unfold posF
    by_cases h : p y = true
    · rw [if_pos h]
      simp [h]
    · rw [if_neg h, posF_any p l (i + 1), List.any_cons, Bool.eq_false_iff.2 h, Bool.false_or]
theorem posF_step {α : Type} {p : α → Bool} (d : α) {l : List α} {i : Nat} (h : i < l.length) : posF p i (l.drop i) = if p (l.getD i d) = true then (i : Int) else posF p (i + 1) (l.drop (i + 1)) := by
  have g : l.getD i d = l[i] := by simp [List.getD_eq_getElem?_getD, h]
  rw [List.drop_eq_getElem_cons h, g]
  rfl
end Go.Ab.A34
namespace Go.Proofs.YtblfodnajpamfaaDoor
open Go Go.Ab Go.Ab.A34
variable [Gl] [Tabs]

theorem valids_r (l : List V3) (hl : l.length ≤ 9223372036854775807) : PCall Tryd.prog 68 [VL l] (SB (l.all okV)) := by
  obtain ⟨R, hR⟩ : ∃ R, R = l.all okV := ⟨_, rfl⟩
  rw [← hR]
  refine Call.enter' (N := 16) (rs := [.tmp 2]) Tryd.func68 rfl rfl rfl (by decide) rfl ?_; simp only [argT]; have hD : (0 : Nat) = 0 := rfl
  repeat' first | (with_reducible refine And.intro (by omega) ?_) | (refine SW.seq_k fun K hK => ?_) | (refine SW.block ?_) | ((first | refine SW.region ?_ | refine SW.regionD (Checked.mixed Tryd.checked) (by kernel_rfl) ?_ | refine SW.cond ?_ | refine SW.skip ?_ | refine SW.exit ?_ | refine SW.ret ?_ | (refine allF_i fun b hb => ?_; replace hD := And.intro hb hD; clear hb; try simp only [fresh_cons, fresh_nil, and_true, ne_eq, neF] at hD) | simp only [appK, appOsK]); try simp only [go_sem, hD]) | (refine And.intro (by omega) ?_) | (refine ifI (fun hc => ?_) (fun hc => ?_) <;> first | (exfalso; omega) | skip) | ((first | apply hK | ((iterate 1 (clear hK K)); apply hK) | ((iterate 2 (clear hK K)); apply hK) | ((iterate 3 (clear hK K)); apply hK) | ((iterate 4 (clear hK K)); apply hK) | ((iterate 5 (clear hK K)); apply hK)); clear hK K)
  obtain ⟨I, hI⟩ : ∃ I : Nat → St → Prop, ∀ k S, I k S ↔ (∃ (i : Nat) , k = l.length - i ∧ i ≤ l.length ∧ R = (l.drop i).all okV ∧ S = ⟨[(0, VL l), (3, I64 i)], []⟩) := ⟨fun k S => _, fun _ _ => Iff.rfl⟩
  refine SW.loop' I (l.length) ((hI _ _).2 ⟨0, rfl, Nat.zero_le _, hR, rfl⟩) (by repeat' (first | exact rfl | exact trivial | exact int_eq (by omega) | exact int_eq (by (rw [i64_wrap] <;> omega)) | constructor)) ?_
  intro k S hIn
  obtain ⟨i, rfl, hi, hC, rfl⟩ := (hI _ _).1 hIn
  clear hIn
  have ie : ((i : Nat) : Int).toNat = i := Int.toNat_natCast _
  have i0 : (0 : Int) ≤ ((i : Nat) : Int) := by omega
  clear hR
  by_cases hlt : i < l.length
  · have hli : ((i : Nat) : Int) < (((l.length) : Nat) : Int) := by omega
    have w1 : IntKind.i64.wrap ((i : Int) + 1) = ((i + 1 : Nat) : Int) := by rw [i64_wrap (by omega) (by omega)]; omega
    rw [okV_step hlt] at hC
    obtain ⟨k, n, s, hv⟩ : ∃ k n s, l.getD i v0 = (k, n, s) := ⟨_, _, _, rfl⟩
    rw [hv] at hC
    have fi : vF l i = [I64 k, I64 n, Str s] := by unfold vF; rw [hv]
    have va := valid_r k n s
    cases q : vok k n s with
    | true =>
      rw [q] at va
      have hC2 : R = (l.drop (i + 1)).all okV := by rw [hC]; unfold okV; simp only; rw [q]; rfl
      repeat' first | (with_reducible refine And.intro (by omega) ?_) | (refine SW.seq_k fun K hK => ?_) | (refine SW.block ?_) | ((first | refine SW.region ?_ | refine SW.regionD (Checked.mixed Tryd.checked) (by kernel_rfl) ?_ | refine SW.cond ?_ | refine SW.skip ?_ | refine SW.exit ?_ | refine SW.ret ?_ | refine Call.of_pure (va) ?_ | refine ⟨_, va, ?_⟩ | (refine allF_i fun b hb => ?_; replace hD := And.intro hb hD; clear hb; try simp only [fresh_cons, fresh_nil, and_true, ne_eq, neF] at hD) | simp only [appK, appOsK]); try simp only [go_sem, hD, hli, ie, i0, w1, fi]) | (refine And.intro (by omega) ?_) | (refine ifI (fun hc => ?_) (fun hc => ?_) <;> first | (exfalso; omega) | skip) | ((first | apply hK | ((iterate 1 (clear hK K)); apply hK) | ((iterate 2 (clear hK K)); apply hK) | ((iterate 3 (clear hK K)); apply hK) | ((iterate 4 (clear hK K)); apply hK) | ((iterate 5 (clear hK K)); apply hK)); clear hK K)
      refine Rnd.sub (l.length - (i + 1)) (by omega) ((hI _ _).2 ⟨i + 1, rfl, by omega, hC2, rfl⟩) (by repeat' (first | exact rfl | exact trivial | exact int_eq (by omega) | exact int_eq (by (rw [i64_wrap] <;> omega)) | constructor))
    | false =>
      rw [q] at va
      have hC2 : R = false := by rw [hC]; unfold okV; simp only; rw [q]; rfl
      subst hC2
      repeat' first | (with_reducible refine And.intro (by omega) ?_) | (refine SW.seq_k fun K hK => ?_) | (refine SW.block ?_) | ((first | refine SW.region ?_ | refine SW.regionD (Checked.mixed Tryd.checked) (by kernel_rfl) ?_ | refine SW.cond ?_ | refine SW.skip ?_ | refine SW.exit ?_ | refine SW.ret ?_ | refine Call.of_pure (va) ?_ | refine ⟨_, va, ?_⟩ | (refine allF_i fun b hb => ?_; replace hD := And.intro hb hD; clear hb; try simp only [fresh_cons, fresh_nil, and_true, ne_eq, neF] at hD) | simp only [appK, appOsK]); try simp only [go_sem, hD, hli, ie, i0, w1, fi]) | (refine And.intro (by omega) ?_) | (refine ifI (fun hc => ?_) (fun hc => ?_) <;> first | (exfalso; omega) | skip) | ((first | apply hK | ((iterate 1 (clear hK K)); apply hK) | ((iterate 2 (clear hK K)); apply hK) | ((iterate 3 (clear hK K)); apply hK) | ((iterate 4 (clear hK K)); apply hK) | ((iterate 5 (clear hK K)); apply hK)); clear hK K)
      refine ret_pure ?_; simp only [resL_tmp, resL_nil, tupOf, go_sem, hD]
  · have hli : ¬ ((i : Nat) : Int) < (((l.length) : Nat) : Int) := by omega
    rw [List.drop_of_length_le (by omega)] at hC
    have hC2 : R = true := hC
    subst hC2
    repeat' first | (with_reducible refine And.intro (by omega) ?_) | (refine SW.seq_k fun K hK => ?_) | (refine SW.block ?_) | ((first | refine SW.region ?_ | refine SW.regionD (Checked.mixed Tryd.checked) (by kernel_rfl) ?_ | refine SW.cond ?_ | refine SW.skip ?_ | refine SW.exit ?_ | refine SW.ret ?_ | (refine allF_i fun b hb => ?_; replace hD := And.intro hb hD; clear hb; try simp only [fresh_cons, fresh_nil, and_true, ne_eq, neF] at hD) | simp only [appK, appOsK]); try simp only [go_sem, hD, hli]) | (refine And.intro (by omega) ?_) | (refine ifI (fun hc => ?_) (fun hc => ?_) <;> first | (exfalso; omega) | skip) | ((first | apply hK | ((iterate 1 (clear hK K)); apply hK) | ((iterate 2 (clear hK K)); apply hK) | ((iterate 3 (clear hK K)); apply hK) | ((iterate 4 (clear hK K)); apply hK) | ((iterate 5 (clear hK K)); apply hK)); clear hK K)
    refine ret_pure ?_; simp only [resL_tmp, resL_nil, tupOf, go_sem, hD]

theorem notValid_p (k n : Int) (s : ByteArray) : PCall Tryd.prog 76 [.agg [I64 k, I64 n, Str s]] (SB (!(vok k n s))) := by
  have va := valid_p k n s
  refine Call.enter' (N := 6) (rs := [.tmp 2]) Tryd.func76 rfl rfl rfl (by decide) rfl ?_; simp only [argT]; have hD : (0 : Nat) = 0 := rfl
  repeat' first | (with_reducible refine And.intro (by omega) ?_) | (refine SW.seq_k fun K hK => ?_) | (refine SW.block ?_) | ((first | refine SW.region ?_ | refine SW.regionD (Checked.mixed Tryd.checked) (by kernel_rfl) ?_ | refine SW.cond ?_ | refine SW.skip ?_ | refine SW.exit ?_ | refine SW.ret ?_ | refine Call.of_pure (va) ?_ | refine ⟨_, va, ?_⟩ | (refine allF_i fun b hb => ?_; replace hD := And.intro hb hD; clear hb; try simp only [fresh_cons, fresh_nil, and_true, ne_eq, neF] at hD) | simp only [appK, appOsK]); try simp only [go_sem, hD]) | (refine And.intro (by omega) ?_) | (refine ifI (fun hc => ?_) (fun hc => ?_) <;> first | (exfalso; omega) | skip) | ((first | apply hK | ((iterate 1 (clear hK K)); apply hK) | ((iterate 2 (clear hK K)); apply hK) | ((iterate 3 (clear hK K)); apply hK) | ((iterate 4 (clear hK K)); apply hK) | ((iterate 5 (clear hK K)); apply hK)); clear hK K)
  refine ret_pure ?_; simp only [resL_tmp, resL_nil, tupOf, go_sem, hD]

theorem indexF_v (p : V3 → Bool) (g : Nat) (hg : ∀ v, PCall Tryd.prog g [VV v] (SB (p v))) (l : List V3) (hl : l.length ≤ 9223372036854775807) : PCall Tryd.prog 94 [VL l, .fn (.func g) [] []] (I64 (posF p 0 l)) := by
  obtain ⟨R, hR⟩ : ∃ R, R = posF p 0 l := ⟨_, rfl⟩
  rw [← hR]
  refine Call.enter' (N := 19) (rs := [.tmp 4]) Tryd.func94 rfl rfl rfl (by decide) rfl ?_; simp only [argT]; have hD : (0 : Nat) = 0 := rfl
  repeat' first | (with_reducible refine And.intro (by omega) ?_) | (refine SW.seq_k fun K hK => ?_) | (refine SW.block ?_) | ((first | refine SW.region ?_ | refine SW.regionD (Checked.mixed Tryd.checked) (by kernel_rfl) ?_ | refine SW.cond ?_ | refine SW.skip ?_ | refine SW.exit ?_ | refine SW.ret ?_ | (refine allF_i fun b hb => ?_; replace hD := And.intro hb hD; clear hb; try simp only [fresh_cons, fresh_nil, and_true, ne_eq, neF] at hD) | simp only [appK, appOsK]); try simp only [go_sem, hD]) | (refine And.intro (by omega) ?_) | (refine ifI (fun hc => ?_) (fun hc => ?_) <;> first | (exfalso; omega) | skip) | ((first | apply hK | ((iterate 1 (clear hK K)); apply hK) | ((iterate 2 (clear hK K)); apply hK) | ((iterate 3 (clear hK K)); apply hK) | ((iterate 4 (clear hK K)); apply hK) | ((iterate 5 (clear hK K)); apply hK)); clear hK K)
  obtain ⟨I, hI⟩ : ∃ I : Nat → St → Prop, ∀ k S, I k S ↔ (∃ (i : Nat) , k = l.length - i ∧ i ≤ l.length ∧ R = posF p i (l.drop i) ∧ S = ⟨[(0, VL l), (1, .fn (.func g) [] []), (7, I64 l.length), (8, I64 i)], []⟩) := ⟨fun k S => _, fun _ _ => Iff.rfl⟩
  refine SW.loop' I (l.length) ((hI _ _).2 ⟨0, rfl, Nat.zero_le _, hR, rfl⟩) (by repeat' (first | exact rfl | exact trivial | exact int_eq (by omega) | exact int_eq (by (rw [i64_wrap] <;> omega)) | constructor)) ?_
  intro k S hIn
  obtain ⟨i, rfl, hi, hC, rfl⟩ := (hI _ _).1 hIn
  clear hIn
  have ie : ((i : Nat) : Int).toNat = i := Int.toNat_natCast _
  have i0 : (0 : Int) ≤ ((i : Nat) : Int) := by omega
  clear hR
  by_cases hlt : i < l.length
  · have hli : ((i : Nat) : Int) < (((l.length) : Nat) : Int) := by omega
    have w1 : IntKind.i64.wrap ((i : Int) + 1) = ((i + 1 : Nat) : Int) := by rw [i64_wrap (by omega) (by omega)]; omega
    rw [posF_step v0 hlt] at hC
    obtain ⟨k, n, s, hv⟩ : ∃ k n s, l.getD i v0 = (k, n, s) := ⟨_, _, _, rfl⟩
    rw [hv] at hC
    have fi : vF l i = [I64 k, I64 n, Str s] := by unfold vF; rw [hv]
    have hp := hg (k, n, s)
    cases q : p (k, n, s) with
    | true =>
      rw [q] at hp
      rw [q, if_pos rfl] at hC
      subst hC
      repeat' first | (with_reducible refine And.intro (by omega) ?_) | (refine SW.seq_k fun K hK => ?_) | (refine SW.block ?_) | ((first | refine SW.region ?_ | refine SW.regionD (Checked.mixed Tryd.checked) (by kernel_rfl) ?_ | refine SW.cond ?_ | refine SW.skip ?_ | refine SW.exit ?_ | refine SW.ret ?_ | refine Call.of_pure (hp) ?_ | refine ⟨_, hp, ?_⟩ | (refine allF_i fun b hb => ?_; replace hD := And.intro hb hD; clear hb; try simp only [fresh_cons, fresh_nil, and_true, ne_eq, neF] at hD) | simp only [appK, appOsK]); try simp only [go_sem, hD, hli, ie, i0, w1, fi]) | (refine And.intro (by omega) ?_) | (refine ifI (fun hc => ?_) (fun hc => ?_) <;> first | (exfalso; omega) | skip) | ((first | apply hK | ((iterate 1 (clear hK K)); apply hK) | ((iterate 2 (clear hK K)); apply hK) | ((iterate 3 (clear hK K)); apply hK) | ((iterate 4 (clear hK K)); apply hK) | ((iterate 5 (clear hK K)); apply hK)); clear hK K)
      refine ret_pure ?_; simp only [resL_tmp, resL_nil, tupOf, go_sem, hD]
    | false =>
      rw [q] at hp
      rw [q, if_neg (by simp)] at hC
      repeat' first | (with_reducible refine And.intro (by omega) ?_) | (refine SW.seq_k fun K hK => ?_) | (refine SW.block ?_) | ((first | refine SW.region ?_ | refine SW.regionD (Checked.mixed Tryd.checked) (by kernel_rfl) ?_ | refine SW.cond ?_ | refine SW.skip ?_ | refine SW.exit ?_ | refine SW.ret ?_ | refine Call.of_pure (hp) ?_ | refine ⟨_, hp, ?_⟩ | (refine allF_i fun b hb => ?_; replace hD := And.intro hb hD; clear hb; try simp only [fresh_cons, fresh_nil, and_true, ne_eq, neF] at hD) | simp only [appK, appOsK]); try simp only [go_sem, hD, hli, ie, i0, w1, fi]) | (refine And.intro (by omega) ?_) | (refine ifI (fun hc => ?_) (fun hc => ?_) <;> first | (exfalso; omega) | skip) | ((first | apply hK | ((iterate 1 (clear hK K)); apply hK) | ((iterate 2 (clear hK K)); apply hK) | ((iterate 3 (clear hK K)); apply hK) | ((iterate 4 (clear hK K)); apply hK) | ((iterate 5 (clear hK K)); apply hK)); clear hK K)
      refine Rnd.sub (l.length - (i + 1)) (by omega) ((hI _ _).2 ⟨i + 1, rfl, by omega, hC, rfl⟩) (by repeat' (first | exact rfl | exact trivial | exact int_eq (by omega) | exact int_eq (by (rw [i64_wrap] <;> omega)) | constructor))
  · have hli : ¬ ((i : Nat) : Int) < (((l.length) : Nat) : Int) := by omega
    rw [List.drop_of_length_le (by omega)] at hC
    have hC2 : R = -1 := hC
    subst hC2
    repeat' first | (with_reducible refine And.intro (by omega) ?_) | (refine SW.seq_k fun K hK => ?_) | (refine SW.block ?_) | ((first | refine SW.region ?_ | refine SW.regionD (Checked.mixed Tryd.checked) (by kernel_rfl) ?_ | refine SW.cond ?_ | refine SW.skip ?_ | refine SW.exit ?_ | refine SW.ret ?_ | (refine allF_i fun b hb => ?_; replace hD := And.intro hb hD; clear hb; try simp only [fresh_cons, fresh_nil, and_true, ne_eq, neF] at hD) | simp only [appK, appOsK]); try simp only [go_sem, hD, hli]) | (refine And.intro (by omega) ?_) | (refine ifI (fun hc => ?_) (fun hc => ?_) <;> first | (exfalso; omega) | skip) | ((first | apply hK | ((iterate 1 (clear hK K)); apply hK) | ((iterate 2 (clear hK K)); apply hK) | ((iterate 3 (clear hK K)); apply hK) | ((iterate 4 (clear hK K)); apply hK) | ((iterate 5 (clear hK K)); apply hK)); clear hK K)
    refine ret_pure ?_; simp only [resL_tmp, resL_nil, tupOf, go_sem, hD]

theorem validValues_p (l : List V3) (hl : l.length ≤ 9223372036854775807) : PCall Tryd.prog 62 [VL l] (SB (l.all okV)) := by
  have ix := indexF_v (fun v => !(okV v)) 76 (fun v => notValid_p v.1 v.2.1 v.2.2) l hl
  have hm := posF_any (fun v => !(okV v)) l 0
  have cf : PCall Tryd.prog 75 [VL l, .fn (.func 76) [] []] (SB (!(l.all okV))) := by
    refine Call.enter' (N := 9) (rs := [.tmp 4]) Tryd.func75 rfl rfl rfl (by decide) rfl ?_; simp only [argT]; have hD : (0 : Nat) = 0 := rfl
    repeat' first | (with_reducible refine And.intro (by omega) ?_) | (refine SW.seq_k fun K hK => ?_) | (refine SW.block ?_) | ((first | refine SW.region ?_ | refine SW.regionD (Checked.mixed Tryd.checked) (by kernel_rfl) ?_ | refine SW.cond ?_ | refine SW.skip ?_ | refine SW.exit ?_ | refine SW.ret ?_ | refine Call.of_pure (ix) ?_ | refine ⟨_, ix, ?_⟩ | (refine allF_i fun b hb => ?_; replace hD := And.intro hb hD; clear hb; try simp only [fresh_cons, fresh_nil, and_true, ne_eq, neF] at hD) | simp only [appK, appOsK]); try simp only [go_sem, hD]) | (refine And.intro (by omega) ?_) | (refine ifI (fun hc => ?_) (fun hc => ?_) <;> first | (exfalso; omega) | skip) | ((first | apply hK | ((iterate 1 (clear hK K)); apply hK) | ((iterate 2 (clear hK K)); apply hK) | ((iterate 3 (clear hK K)); apply hK) | ((iterate 4 (clear hK K)); apply hK) | ((iterate 5 (clear hK K)); apply hK)); clear hK K)
    refine ret_pure ?_; simp only [resL_tmp, resL_nil, tupOf, go_sem, hD]
    refine congrArg (fun b => SV.sc (.bool b)) ?_
    rw [Bool.eq_iff_iff, decide_eq_true_eq, hm, List.any_eq_true]
    simp
  refine Call.enter' (N := 6) (rs := [.tmp 2]) Tryd.func62 rfl rfl rfl (by decide) rfl ?_; simp only [argT]; have hD : (0 : Nat) = 0 := rfl
  repeat' first | (with_reducible refine And.intro (by omega) ?_) | (refine SW.seq_k fun K hK => ?_) | (refine SW.block ?_) | ((first | refine SW.region ?_ | refine SW.regionD (Checked.mixed Tryd.checked) (by kernel_rfl) ?_ | refine SW.cond ?_ | refine SW.skip ?_ | refine SW.exit ?_ | refine SW.ret ?_ | refine Call.of_pure (cf) ?_ | refine ⟨_, cf, ?_⟩ | (refine allF_i fun b hb => ?_; replace hD := And.intro hb hD; clear hb; try simp only [fresh_cons, fresh_nil, and_true, ne_eq, neF] at hD) | simp only [appK, appOsK]); try simp only [go_sem, hD]) | (refine And.intro (by omega) ?_) | (refine ifI (fun hc => ?_) (fun hc => ?_) <;> first | (exfalso; omega) | skip) | ((first | apply hK | ((iterate 1 (clear hK K)); apply hK) | ((iterate 2 (clear hK K)); apply hK) | ((iterate 3 (clear hK K)); apply hK) | ((iterate 4 (clear hK K)); apply hK) | ((iterate 5 (clear hK K)); apply hK)); clear hK K)
  refine ret_pure ?_; simp only [resL_tmp, resL_nil, tupOf, go_sem, hD]
  rw [Bool.not_not]

set_option maxHeartbeats 2000000 in
set_option maxRecDepth 20000 in
theorem valid_tp (t : Tb) : PCall Tryd.prog 42 [TB t] (I64 (validS t)) := by
  obtain ⟨nm, al, l⟩ := t
  have hn := isName_p nm
  obtain ⟨R, hR⟩ : ∃ R, R = validS ⟨nm, al, l⟩ := ⟨_, rfl⟩
  rw [← hR]
  unfold validS at hR
  simp only at hR ⊢
  cases q1 : nameB nm.data.toList with
  | false =>
    rw [q1] at hR hn
    rw [if_neg (by simp)] at hR
    subst hR
    refine Call.enter' (N := 70) (rs := [.tmp 2]) Tryd.func42 rfl rfl rfl (by decide) rfl ?_; simp only [argT]; have hD : (0 : Nat) = 0 := rfl
    repeat' first | (with_reducible refine And.intro (by omega) ?_) | (refine SW.seq_k fun K hK => ?_) | (refine SW.block ?_) | ((first | refine SW.region ?_ | refine SW.regionD (Checked.mixed Tryd.checked) (by kernel_rfl) ?_ | refine SW.cond ?_ | refine SW.skip ?_ | refine SW.exit ?_ | refine SW.ret ?_ | refine Call.of_pure (hn) ?_ | refine ⟨_, hn, ?_⟩ | (refine allF_i fun b hb => ?_; replace hD := And.intro hb hD; clear hb; try simp only [fresh_cons, fresh_nil, and_true, ne_eq, neF] at hD) | simp only [appK, appOsK]); try simp only [go_sem, hD]) | (refine And.intro (by omega) ?_) | (refine ifI (fun hc => ?_) (fun hc => ?_) <;> first | (exfalso; omega) | skip) | ((first | apply hK | ((iterate 1 (clear hK K)); apply hK) | ((iterate 2 (clear hK K)); apply hK) | ((iterate 3 (clear hK K)); apply hK) | ((iterate 4 (clear hK K)); apply hK) | ((iterate 5 (clear hK K)); apply hK)); clear hK K)
    refine ret_pure ?_; simp only [resL_tmp, resL_nil, tupOf, go_sem, hD]
  | true =>
    rw [q1] at hR hn
    rw [if_pos rfl] at hR
    by_cases h16 : 16 < al.length
    · rw [if_pos (.inl h16)] at hR
      subst hR
      have h16i : (16 : Int) < ((al.length : Nat) : Int) := by omega
      refine Call.enter' (N := 70) (rs := [.tmp 2]) Tryd.func42 rfl rfl rfl (by decide) rfl ?_; simp only [argT]; have hD : (0 : Nat) = 0 := rfl
      repeat' first | (with_reducible refine And.intro (by omega) ?_) | (refine SW.seq_k fun K hK => ?_) | (refine SW.block ?_) | ((first | refine SW.region ?_ | refine SW.regionD (Checked.mixed Tryd.checked) (by kernel_rfl) ?_ | refine SW.cond ?_ | refine SW.skip ?_ | refine SW.exit ?_ | refine SW.ret ?_ | refine Call.of_pure (hn) ?_ | refine ⟨_, hn, ?_⟩ | (refine allF_i fun b hb => ?_; replace hD := And.intro hb hD; clear hb; try simp only [fresh_cons, fresh_nil, and_true, ne_eq, neF] at hD) | simp only [appK, appOsK]); try simp only [go_sem, hD, h16i]) | (refine And.intro (by omega) ?_) | (refine ifI (fun hc => ?_) (fun hc => ?_) <;> first | (exfalso; omega) | skip) | ((first | apply hK | ((iterate 1 (clear hK K)); apply hK) | ((iterate 2 (clear hK K)); apply hK) | ((iterate 3 (clear hK K)); apply hK) | ((iterate 4 (clear hK K)); apply hK) | ((iterate 5 (clear hK K)); apply hK)); clear hK K)
      refine ret_pure ?_; simp only [resL_tmp, resL_nil, tupOf, go_sem, hD]
    · have h16i : ¬ (16 : Int) < ((al.length : Nat) : Int) := by omega
      by_cases h1k : 1000 < l.length
      · rw [if_pos (.inr h1k)] at hR
        subst hR
        have h1ki : (1000 : Int) < ((l.length : Nat) : Int) := by omega
        refine Call.enter' (N := 70) (rs := [.tmp 2]) Tryd.func42 rfl rfl rfl (by decide) rfl ?_; simp only [argT]; have hD : (0 : Nat) = 0 := rfl
        repeat' first | (with_reducible refine And.intro (by omega) ?_) | (refine SW.seq_k fun K hK => ?_) | (refine SW.block ?_) | ((first | refine SW.region ?_ | refine SW.regionD (Checked.mixed Tryd.checked) (by kernel_rfl) ?_ | refine SW.cond ?_ | refine SW.skip ?_ | refine SW.exit ?_ | refine SW.ret ?_ | refine Call.of_pure (hn) ?_ | refine ⟨_, hn, ?_⟩ | (refine allF_i fun b hb => ?_; replace hD := And.intro hb hD; clear hb; try simp only [fresh_cons, fresh_nil, and_true, ne_eq, neF] at hD) | simp only [appK, appOsK]); try simp only [go_sem, hD, h16i, h1ki]) | (refine And.intro (by omega) ?_) | (refine ifI (fun hc => ?_) (fun hc => ?_) <;> first | (exfalso; omega) | skip) | ((first | apply hK | ((iterate 1 (clear hK K)); apply hK) | ((iterate 2 (clear hK K)); apply hK) | ((iterate 3 (clear hK K)); apply hK) | ((iterate 4 (clear hK K)); apply hK) | ((iterate 5 (clear hK K)); apply hK)); clear hK K)
        refine ret_pure ?_; simp only [resL_tmp, resL_nil, tupOf, go_sem, hD]
      · rw [if_neg (by omega)] at hR
        have h1ki : ¬ (1000 : Int) < ((l.length : Nat) : Int) := by omega
        refine Call.enter' (N := 70) (rs := [.tmp 2]) Tryd.func42 rfl rfl rfl (by decide) rfl ?_; simp only [argT]; have hD : (0 : Nat) = 0 := rfl
        repeat' first | (with_reducible refine And.intro (by omega) ?_) | (refine SW.seq_k fun K hK => ?_) | (refine SW.block ?_) | ((first | refine SW.region ?_ | refine SW.regionD (Checked.mixed Tryd.checked) (by kernel_rfl) ?_ | refine SW.cond ?_ | refine SW.skip ?_ | refine SW.exit ?_ | refine SW.ret ?_ | refine Call.of_pure (hn) ?_ | refine ⟨_, hn, ?_⟩ | (refine allF_i fun b hb => ?_; replace hD := And.intro hb hD; clear hb; try simp only [fresh_cons, fresh_nil, and_true, ne_eq, neF] at hD) | simp only [appK, appOsK]); try simp only [go_sem, hD, h16i, h1ki]) | (refine And.intro (by omega) ?_) | (refine ifI (fun hc => ?_) (fun hc => ?_) <;> first | (exfalso; omega) | skip) | ((first | apply hK | ((iterate 1 (clear hK K)); apply hK) | ((iterate 2 (clear hK K)); apply hK) | ((iterate 3 (clear hK K)); apply hK) | ((iterate 4 (clear hK K)); apply hK) | ((iterate 5 (clear hK K)); apply hK)); clear hK K)
        obtain ⟨I, hI⟩ : ∃ I : Nat → St → Prop, ∀ k S, I k S ↔ (∃ (i : Nat) , k = al.length - i ∧ i ≤ al.length ∧ R = (if namesF al (al.length - i) i = true then rowsV al.length 0 l else 1) ∧ S = ⟨[(1, .op b 0), (23, SL al), (24, I64 al.length), (25, I64 i)], [(b, .svs [Str nm, SL al, RL l])]⟩) := ⟨fun k S => _, fun _ _ => Iff.rfl⟩
        refine SW.loop' I (al.length) ((hI _ _).2 ⟨0, rfl, Nat.zero_le _, hR, rfl⟩) (by repeat' (first | exact rfl | exact trivial | exact int_eq (by omega) | exact int_eq (by (rw [i64_wrap] <;> omega)) | constructor)) ?_
        intro k S hIn
        obtain ⟨i, rfl, hi, hC, rfl⟩ := (hI _ _).1 hIn
        clear hIn
        have ie : ((i : Nat) : Int).toNat = i := Int.toNat_natCast _
        have i0 : (0 : Int) ≤ ((i : Nat) : Int) := by omega
        clear hR
        by_cases hlt : i < al.length
        · have hli : ((i : Nat) : Int) < (((al.length) : Nat) : Int) := by omega
          have w1 : IntKind.i64.wrap ((i : Int) + 1) = ((i + 1 : Nat) : Int) := by rw [i64_wrap (by omega) (by omega)]; omega
          have e : al.length - i = (al.length - (i + 1)) + 1 := by omega
          rw [e, namesF] at hC
          have iz : (((i : Nat) : Int) - 0).toNat = i := by omega
          have il : ((i : Nat) : Int) ≤ ((al.length : Nat) : Int) := by omega
          have fi : sF al i = [Str (al.getD i ⟨#[]⟩)] := rfl
          have nm' := isName_p (al.getD i ⟨#[]⟩)
          have ct := contains_c (al.getD i ⟨#[]⟩) (al.take i) i (by omega) (by rw [List.length_take]; omega) (sF al) (fun j hj => sF_take (l := al) hj)
          generalize posS (al.getD i ⟨#[]⟩) 0 (al.take i) = q at *
          cases q1 : nameB (al.getD i ⟨#[]⟩).data.toList with
          | false =>
            rw [q1] at nm' hC
            have hC2 : R = 1 := hC
            subst hC2
            repeat' first | (with_reducible refine And.intro (by omega) ?_) | (refine SW.seq_k fun K hK => ?_) | (refine SW.block ?_) | ((first | refine SW.region ?_ | refine SW.regionD (Checked.mixed Tryd.checked) (by kernel_rfl) ?_ | refine SW.cond ?_ | refine SW.skip ?_ | refine SW.exit ?_ | refine SW.ret ?_ | refine Call.of_pure (nm') ?_ | refine ⟨_, nm', ?_⟩ | refine Call.of_pure (ct) ?_ | refine ⟨_, ct, ?_⟩ | (refine allF_i fun b hb => ?_; replace hD := And.intro hb hD; clear hb; try simp only [fresh_cons, fresh_nil, and_true, ne_eq, neF] at hD) | simp only [appK, appOsK]); try simp only [go_sem, hD, hli, ie, i0, w1, fi, iz, il]) | (refine And.intro (by omega) ?_) | (refine ifI (fun hc => ?_) (fun hc => ?_) <;> first | (exfalso; omega) | skip) | ((first | apply hK | ((iterate 1 (clear hK K)); apply hK) | ((iterate 2 (clear hK K)); apply hK) | ((iterate 3 (clear hK K)); apply hK) | ((iterate 4 (clear hK K)); apply hK) | ((iterate 5 (clear hK K)); apply hK)); clear hK K)
            refine ret_pure ?_; simp only [resL_tmp, resL_nil, tupOf, go_sem, hD]
          | true =>
            rw [q1] at nm' hC
            rw [Bool.true_and] at hC
            by_cases hq : 0 ≤ q
            · rw [decide_eq_true hq] at hC ct
              have hC2 : R = 1 := hC
              subst hC2
              repeat' first | (with_reducible refine And.intro (by omega) ?_) | (refine SW.seq_k fun K hK => ?_) | (refine SW.block ?_) | ((first | refine SW.region ?_ | refine SW.regionD (Checked.mixed Tryd.checked) (by kernel_rfl) ?_ | refine SW.cond ?_ | refine SW.skip ?_ | refine SW.exit ?_ | refine SW.ret ?_ | refine Call.of_pure (nm') ?_ | refine ⟨_, nm', ?_⟩ | refine Call.of_pure (ct) ?_ | refine ⟨_, ct, ?_⟩ | (refine allF_i fun b hb => ?_; replace hD := And.intro hb hD; clear hb; try simp only [fresh_cons, fresh_nil, and_true, ne_eq, neF] at hD) | simp only [appK, appOsK]); try simp only [go_sem, hD, hli, ie, i0, w1, fi, iz, il]) | (refine And.intro (by omega) ?_) | (refine ifI (fun hc => ?_) (fun hc => ?_) <;> first | (exfalso; omega) | skip) | ((first | apply hK | ((iterate 1 (clear hK K)); apply hK) | ((iterate 2 (clear hK K)); apply hK) | ((iterate 3 (clear hK K)); apply hK) | ((iterate 4 (clear hK K)); apply hK) | ((iterate 5 (clear hK K)); apply hK)); clear hK K)
              refine ret_pure ?_; simp only [resL_tmp, resL_nil, tupOf, go_sem, hD]
            · rw [decide_eq_false hq] at ct
              rw [decide_eq_false hq, Bool.not_false, Bool.true_and] at hC
              repeat' first | (with_reducible refine And.intro (by omega) ?_) | (refine SW.seq_k fun K hK => ?_) | (refine SW.block ?_) | ((first | refine SW.region ?_ | refine SW.regionD (Checked.mixed Tryd.checked) (by kernel_rfl) ?_ | refine SW.cond ?_ | refine SW.skip ?_ | refine SW.exit ?_ | refine SW.ret ?_ | refine Call.of_pure (nm') ?_ | refine ⟨_, nm', ?_⟩ | refine Call.of_pure (ct) ?_ | refine ⟨_, ct, ?_⟩ | (refine allF_i fun b hb => ?_; replace hD := And.intro hb hD; clear hb; try simp only [fresh_cons, fresh_nil, and_true, ne_eq, neF] at hD) | simp only [appK, appOsK]); try simp only [go_sem, hD, hli, ie, i0, w1, fi, iz, il]) | (refine And.intro (by omega) ?_) | (refine ifI (fun hc => ?_) (fun hc => ?_) <;> first | (exfalso; omega) | skip) | ((first | apply hK | ((iterate 1 (clear hK K)); apply hK) | ((iterate 2 (clear hK K)); apply hK) | ((iterate 3 (clear hK K)); apply hK) | ((iterate 4 (clear hK K)); apply hK) | ((iterate 5 (clear hK K)); apply hK)); clear hK K)
              refine Rnd.sub (al.length - (i + 1)) (by omega) ((hI _ _).2 ⟨i + 1, rfl, by omega, hC, rfl⟩) (by repeat' (first | exact rfl | exact trivial | exact int_eq (by omega) | exact int_eq (by (rw [i64_wrap] <;> omega)) | constructor))
        · have hli : ¬ ((i : Nat) : Int) < (((al.length) : Nat) : Int) := by omega
          have e : al.length - i = 0 := by omega
          rw [e] at hC
          have hC2 : R = rowsV al.length 0 l := hC
          clear hC
          repeat' first | (with_reducible refine And.intro (by omega) ?_) | (refine SW.seq_k fun K hK => ?_) | (refine SW.block ?_) | ((first | refine SW.region ?_ | refine SW.regionD (Checked.mixed Tryd.checked) (by kernel_rfl) ?_ | refine SW.cond ?_ | refine SW.skip ?_ | refine SW.exit ?_ | refine SW.ret ?_ | (refine allF_i fun b hb => ?_; replace hD := And.intro hb hD; clear hb; try simp only [fresh_cons, fresh_nil, and_true, ne_eq, neF] at hD) | simp only [appK, appOsK]); try simp only [go_sem, hD, hli]) | (refine And.intro (by omega) ?_) | (refine ifI (fun hc => ?_) (fun hc => ?_) <;> first | (exfalso; omega) | skip) | ((first | apply hK | ((iterate 1 (clear hK K)); apply hK) | ((iterate 2 (clear hK K)); apply hK) | ((iterate 3 (clear hK K)); apply hK) | ((iterate 4 (clear hK K)); apply hK) | ((iterate 5 (clear hK K)); apply hK)); clear hK K)
          obtain ⟨I, hI⟩ : ∃ I : Nat → St → Prop, ∀ k S, I k S ↔ (∃ (j : Nat) (p : Int), k = l.length - j ∧ j ≤ l.length ∧ R = rowsV al.length p (l.drop j) ∧ S = ⟨[(1, .op b 0), (5, I64 p), (43, RL l), (44, I64 l.length), (45, I64 j)], [(b, .svs [Str nm, SL al, RL l])]⟩) := ⟨fun k S => _, fun _ _ => Iff.rfl⟩
          refine SW.loop' I (l.length) ((hI _ _).2 ⟨0, 0, rfl, Nat.zero_le _, hC2, rfl⟩) (by repeat' (first | exact rfl | exact trivial | exact int_eq (by omega) | exact int_eq (by (rw [i64_wrap] <;> omega)) | constructor)) ?_
          intro k S hIn
          obtain ⟨j, p, rfl, hi, hC, rfl⟩ := (hI _ _).1 hIn
          clear hIn
          have ie : ((j : Nat) : Int).toNat = j := Int.toNat_natCast _
          have i0 : (0 : Int) ≤ ((j : Nat) : Int) := by omega
          clear hC2
          by_cases hlt : j < l.length
          · have hli : ((j : Nat) : Int) < (((l.length) : Nat) : Int) := by omega
            have w1 : IntKind.i64.wrap ((j : Int) + 1) = ((j + 1 : Nat) : Int) := by rw [i64_wrap (by omega) (by omega)]; omega
            rw [rowsV_step hlt] at hC
            obtain ⟨id, vs, hr⟩ : ∃ id vs, l.getD j r0 = (id, vs) := ⟨_, _, rfl⟩
            have tf : rF l j = [I64 id, VL vs] := by unfold rF; rw [hr]; rfl
            rw [hr] at hC
            simp only at hC
            by_cases c1 : id ≤ p
            · rw [if_pos c1] at hC
              subst hC
              repeat' first | (with_reducible refine And.intro (by omega) ?_) | (refine SW.seq_k fun K hK => ?_) | (refine SW.block ?_) | ((first | refine SW.region ?_ | refine SW.regionD (Checked.mixed Tryd.checked) (by kernel_rfl) ?_ | refine SW.cond ?_ | refine SW.skip ?_ | refine SW.exit ?_ | refine SW.ret ?_ | (refine allF_i fun b hb => ?_; replace hD := And.intro hb hD; clear hb; try simp only [fresh_cons, fresh_nil, and_true, ne_eq, neF] at hD) | simp only [appK, appOsK]); try simp only [go_sem, hD, hli, ie, i0, w1, tf, c1]) | (refine And.intro (by omega) ?_) | (refine ifI (fun hc => ?_) (fun hc => ?_) <;> first | (exfalso; omega) | skip) | ((first | apply hK | ((iterate 1 (clear hK K)); apply hK) | ((iterate 2 (clear hK K)); apply hK) | ((iterate 3 (clear hK K)); apply hK) | ((iterate 4 (clear hK K)); apply hK) | ((iterate 5 (clear hK K)); apply hK)); clear hK K)
              refine ret_pure ?_; simp only [resL_tmp, resL_nil, tupOf, go_sem, hD]
            · rw [if_neg c1] at hC
              by_cases c2 : vs.length = al.length
              · rw [if_neg (fun x => x c2)] at hC
                have c2i : ((vs.length : Nat) : Int) = ((al.length : Nat) : Int) := by rw [c2]
                have vv := validValues_p vs (by omega)
                cases c3 : vs.all okV with
                | true =>
                  rw [c3] at vv
                  rw [c3, if_pos rfl] at hC
                  repeat' first | (with_reducible refine And.intro (by omega) ?_) | (refine SW.seq_k fun K hK => ?_) | (refine SW.block ?_) | ((first | refine SW.region ?_ | refine SW.regionD (Checked.mixed Tryd.checked) (by kernel_rfl) ?_ | refine SW.cond ?_ | refine SW.skip ?_ | refine SW.exit ?_ | refine SW.ret ?_ | refine Call.of_pure (vv) ?_ | refine ⟨_, vv, ?_⟩ | (refine allF_i fun b hb => ?_; replace hD := And.intro hb hD; clear hb; try simp only [fresh_cons, fresh_nil, and_true, ne_eq, neF] at hD) | simp only [appK, appOsK]); try simp only [go_sem, hD, hli, ie, i0, w1, tf, c1, c2i]) | (refine And.intro (by omega) ?_) | (refine ifI (fun hc => ?_) (fun hc => ?_) <;> first | (exfalso; omega) | skip) | ((first | apply hK | ((iterate 1 (clear hK K)); apply hK) | ((iterate 2 (clear hK K)); apply hK) | ((iterate 3 (clear hK K)); apply hK) | ((iterate 4 (clear hK K)); apply hK) | ((iterate 5 (clear hK K)); apply hK)); clear hK K)
                  refine Rnd.le (St.le_only ?_) (Rnd.sub (l.length - (j + 1)) (by omega) ((hI _ _).2 ⟨j + 1, _, rfl, by omega, hC, rfl⟩) (by repeat' (first | exact rfl | exact trivial | exact int_eq (by omega) | exact int_eq (by (rw [i64_wrap] <;> omega)) | constructor)))
                  repeat (first | exact List.mem_cons_self | apply List.mem_cons_of_mem)
                | false =>
                  rw [c3] at vv
                  rw [c3, if_neg (by simp)] at hC
                  subst hC
                  repeat' first | (with_reducible refine And.intro (by omega) ?_) | (refine SW.seq_k fun K hK => ?_) | (refine SW.block ?_) | ((first | refine SW.region ?_ | refine SW.regionD (Checked.mixed Tryd.checked) (by kernel_rfl) ?_ | refine SW.cond ?_ | refine SW.skip ?_ | refine SW.exit ?_ | refine SW.ret ?_ | refine Call.of_pure (vv) ?_ | refine ⟨_, vv, ?_⟩ | (refine allF_i fun b hb => ?_; replace hD := And.intro hb hD; clear hb; try simp only [fresh_cons, fresh_nil, and_true, ne_eq, neF] at hD) | simp only [appK, appOsK]); try simp only [go_sem, hD, hli, ie, i0, w1, tf, c1, c2i]) | (refine And.intro (by omega) ?_) | (refine ifI (fun hc => ?_) (fun hc => ?_) <;> first | (exfalso; omega) | skip) | ((first | apply hK | ((iterate 1 (clear hK K)); apply hK) | ((iterate 2 (clear hK K)); apply hK) | ((iterate 3 (clear hK K)); apply hK) | ((iterate 4 (clear hK K)); apply hK) | ((iterate 5 (clear hK K)); apply hK)); clear hK K)
                  refine ret_pure ?_; simp only [resL_tmp, resL_nil, tupOf, go_sem, hD]
              · rw [if_pos c2] at hC
                subst hC
                have c2i : ¬ ((vs.length : Nat) : Int) = ((al.length : Nat) : Int) := by omega
                repeat' first | (with_reducible refine And.intro (by omega) ?_) | (refine SW.seq_k fun K hK => ?_) | (refine SW.block ?_) | ((first | refine SW.region ?_ | refine SW.regionD (Checked.mixed Tryd.checked) (by kernel_rfl) ?_ | refine SW.cond ?_ | refine SW.skip ?_ | refine SW.exit ?_ | refine SW.ret ?_ | (refine allF_i fun b hb => ?_; replace hD := And.intro hb hD; clear hb; try simp only [fresh_cons, fresh_nil, and_true, ne_eq, neF] at hD) | simp only [appK, appOsK]); try simp only [go_sem, hD, hli, ie, i0, w1, tf, c1, c2i]) | (refine And.intro (by omega) ?_) | (refine ifI (fun hc => ?_) (fun hc => ?_) <;> first | (exfalso; omega) | skip) | ((first | apply hK | ((iterate 1 (clear hK K)); apply hK) | ((iterate 2 (clear hK K)); apply hK) | ((iterate 3 (clear hK K)); apply hK) | ((iterate 4 (clear hK K)); apply hK) | ((iterate 5 (clear hK K)); apply hK)); clear hK K)
                refine ret_pure ?_; simp only [resL_tmp, resL_nil, tupOf, go_sem, hD]
          · have hli : ¬ ((j : Nat) : Int) < (((l.length) : Nat) : Int) := by omega
            rw [List.drop_of_length_le (by omega)] at hC
            have hC2 : R = 0 := hC
            subst hC2
            repeat' first | (with_reducible refine And.intro (by omega) ?_) | (refine SW.seq_k fun K hK => ?_) | (refine SW.block ?_) | ((first | refine SW.region ?_ | refine SW.regionD (Checked.mixed Tryd.checked) (by kernel_rfl) ?_ | refine SW.cond ?_ | refine SW.skip ?_ | refine SW.exit ?_ | refine SW.ret ?_ | (refine allF_i fun b hb => ?_; replace hD := And.intro hb hD; clear hb; try simp only [fresh_cons, fresh_nil, and_true, ne_eq, neF] at hD) | simp only [appK, appOsK]); try simp only [go_sem, hD, hli]) | (refine And.intro (by omega) ?_) | (refine ifI (fun hc => ?_) (fun hc => ?_) <;> first | (exfalso; omega) | skip) | ((first | apply hK | ((iterate 1 (clear hK K)); apply hK) | ((iterate 2 (clear hK K)); apply hK) | ((iterate 3 (clear hK K)); apply hK) | ((iterate 4 (clear hK K)); apply hK) | ((iterate 5 (clear hK K)); apply hK)); clear hK K)
            refine ret_pure ?_; simp only [resL_tmp, resL_nil, tupOf, go_sem, hD]

set_option maxHeartbeats 2000000 in
set_option maxRecDepth 20000 in
theorem valid_tr (t : Tb) (hv : ∀ r ∈ t.rows, r.2.length ≤ 9223372036854775807) : PCall Tryd.prog 45 [TB t] (I64 (validS t)) := by
  obtain ⟨nm, al, l⟩ := t
  have hn := name_r nm
  obtain ⟨R, hR⟩ : ∃ R, R = validS ⟨nm, al, l⟩ := ⟨_, rfl⟩
  rw [← hR]
  unfold validS at hR
  simp only at hR ⊢
  cases q1 : nameB nm.data.toList with
  | false =>
    rw [q1] at hR hn
    rw [if_neg (by simp)] at hR
    subst hR
    refine Call.enter' (N := 53) (rs := [.tmp 2]) Tryd.func45 rfl rfl rfl (by decide) rfl ?_; simp only [argT]; have hD : (0 : Nat) = 0 := rfl
    repeat' first | (with_reducible refine And.intro (by omega) ?_) | (refine SW.seq_k fun K hK => ?_) | (refine SW.block ?_) | ((first | refine SW.region ?_ | refine SW.regionD (Checked.mixed Tryd.checked) (by kernel_rfl) ?_ | refine SW.cond ?_ | refine SW.skip ?_ | refine SW.exit ?_ | refine SW.ret ?_ | refine Call.of_pure (hn) ?_ | refine ⟨_, hn, ?_⟩ | (refine allF_i fun b hb => ?_; replace hD := And.intro hb hD; clear hb; try simp only [fresh_cons, fresh_nil, and_true, ne_eq, neF] at hD) | simp only [appK, appOsK]); try simp only [go_sem, hD]) | (refine And.intro (by omega) ?_) | (refine ifI (fun hc => ?_) (fun hc => ?_) <;> first | (exfalso; omega) | skip) | ((first | apply hK | ((iterate 1 (clear hK K)); apply hK) | ((iterate 2 (clear hK K)); apply hK) | ((iterate 3 (clear hK K)); apply hK) | ((iterate 4 (clear hK K)); apply hK) | ((iterate 5 (clear hK K)); apply hK)); clear hK K)
    refine ret_pure ?_; simp only [resL_tmp, resL_nil, tupOf, go_sem, hD]
  | true =>
    rw [q1] at hR hn
    rw [if_pos rfl] at hR
    by_cases h16 : 16 < al.length
    · rw [if_pos (.inl h16)] at hR
      subst hR
      have h16i : (16 : Int) < ((al.length : Nat) : Int) := by omega
      refine Call.enter' (N := 53) (rs := [.tmp 2]) Tryd.func45 rfl rfl rfl (by decide) rfl ?_; simp only [argT]; have hD : (0 : Nat) = 0 := rfl
      repeat' first | (with_reducible refine And.intro (by omega) ?_) | (refine SW.seq_k fun K hK => ?_) | (refine SW.block ?_) | ((first | refine SW.region ?_ | refine SW.regionD (Checked.mixed Tryd.checked) (by kernel_rfl) ?_ | refine SW.cond ?_ | refine SW.skip ?_ | refine SW.exit ?_ | refine SW.ret ?_ | refine Call.of_pure (hn) ?_ | refine ⟨_, hn, ?_⟩ | (refine allF_i fun b hb => ?_; replace hD := And.intro hb hD; clear hb; try simp only [fresh_cons, fresh_nil, and_true, ne_eq, neF] at hD) | simp only [appK, appOsK]); try simp only [go_sem, hD, h16i]) | (refine And.intro (by omega) ?_) | (refine ifI (fun hc => ?_) (fun hc => ?_) <;> first | (exfalso; omega) | skip) | ((first | apply hK | ((iterate 1 (clear hK K)); apply hK) | ((iterate 2 (clear hK K)); apply hK) | ((iterate 3 (clear hK K)); apply hK) | ((iterate 4 (clear hK K)); apply hK) | ((iterate 5 (clear hK K)); apply hK)); clear hK K)
      refine ret_pure ?_; simp only [resL_tmp, resL_nil, tupOf, go_sem, hD]
    · have h16i : ¬ (16 : Int) < ((al.length : Nat) : Int) := by omega
      by_cases h1k : 1000 < l.length
      · rw [if_pos (.inr h1k)] at hR
        subst hR
        have h1ki : (1000 : Int) < ((l.length : Nat) : Int) := by omega
        refine Call.enter' (N := 53) (rs := [.tmp 2]) Tryd.func45 rfl rfl rfl (by decide) rfl ?_; simp only [argT]; have hD : (0 : Nat) = 0 := rfl
        repeat' first | (with_reducible refine And.intro (by omega) ?_) | (refine SW.seq_k fun K hK => ?_) | (refine SW.block ?_) | ((first | refine SW.region ?_ | refine SW.regionD (Checked.mixed Tryd.checked) (by kernel_rfl) ?_ | refine SW.cond ?_ | refine SW.skip ?_ | refine SW.exit ?_ | refine SW.ret ?_ | refine Call.of_pure (hn) ?_ | refine ⟨_, hn, ?_⟩ | (refine allF_i fun b hb => ?_; replace hD := And.intro hb hD; clear hb; try simp only [fresh_cons, fresh_nil, and_true, ne_eq, neF] at hD) | simp only [appK, appOsK]); try simp only [go_sem, hD, h16i, h1ki]) | (refine And.intro (by omega) ?_) | (refine ifI (fun hc => ?_) (fun hc => ?_) <;> first | (exfalso; omega) | skip) | ((first | apply hK | ((iterate 1 (clear hK K)); apply hK) | ((iterate 2 (clear hK K)); apply hK) | ((iterate 3 (clear hK K)); apply hK) | ((iterate 4 (clear hK K)); apply hK) | ((iterate 5 (clear hK K)); apply hK)); clear hK K)
        refine ret_pure ?_; simp only [resL_tmp, resL_nil, tupOf, go_sem, hD]
      · rw [if_neg (by omega)] at hR
        have h1ki : ¬ (1000 : Int) < ((l.length : Nat) : Int) := by omega
        have nr := names_r al (by omega)
        cases q2 : namesB al with
        | false =>
          rw [q2] at nr
          rw [q2, if_neg (by simp)] at hR
          subst hR
          refine Call.enter' (N := 53) (rs := [.tmp 2]) Tryd.func45 rfl rfl rfl (by decide) rfl ?_; simp only [argT]; have hD : (0 : Nat) = 0 := rfl
          repeat' first | (with_reducible refine And.intro (by omega) ?_) | (refine SW.seq_k fun K hK => ?_) | (refine SW.block ?_) | ((first | refine SW.region ?_ | refine SW.regionD (Checked.mixed Tryd.checked) (by kernel_rfl) ?_ | refine SW.cond ?_ | refine SW.skip ?_ | refine SW.exit ?_ | refine SW.ret ?_ | refine Call.of_pure (hn) ?_ | refine ⟨_, hn, ?_⟩ | refine Call.of_pure (nr) ?_ | refine ⟨_, nr, ?_⟩ | (refine allF_i fun b hb => ?_; replace hD := And.intro hb hD; clear hb; try simp only [fresh_cons, fresh_nil, and_true, ne_eq, neF] at hD) | simp only [appK, appOsK]); try simp only [go_sem, hD, h16i, h1ki]) | (refine And.intro (by omega) ?_) | (refine ifI (fun hc => ?_) (fun hc => ?_) <;> first | (exfalso; omega) | skip) | ((first | apply hK | ((iterate 1 (clear hK K)); apply hK) | ((iterate 2 (clear hK K)); apply hK) | ((iterate 3 (clear hK K)); apply hK) | ((iterate 4 (clear hK K)); apply hK) | ((iterate 5 (clear hK K)); apply hK)); clear hK K)
          refine ret_pure ?_; simp only [resL_tmp, resL_nil, tupOf, go_sem, hD]
        | true =>
          rw [q2] at nr
          rw [q2, if_pos rfl] at hR
          refine Call.enter' (N := 53) (rs := [.tmp 2]) Tryd.func45 rfl rfl rfl (by decide) rfl ?_; simp only [argT]; have hD : (0 : Nat) = 0 := rfl
          repeat' first | (with_reducible refine And.intro (by omega) ?_) | (refine SW.seq_k fun K hK => ?_) | (refine SW.block ?_) | ((first | refine SW.region ?_ | refine SW.regionD (Checked.mixed Tryd.checked) (by kernel_rfl) ?_ | refine SW.cond ?_ | refine SW.skip ?_ | refine SW.exit ?_ | refine SW.ret ?_ | refine Call.of_pure (hn) ?_ | refine ⟨_, hn, ?_⟩ | refine Call.of_pure (nr) ?_ | refine ⟨_, nr, ?_⟩ | (refine allF_i fun b hb => ?_; replace hD := And.intro hb hD; clear hb; try simp only [fresh_cons, fresh_nil, and_true, ne_eq, neF] at hD) | simp only [appK, appOsK]); try simp only [go_sem, hD, h16i, h1ki]) | (refine And.intro (by omega) ?_) | (refine ifI (fun hc => ?_) (fun hc => ?_) <;> first | (exfalso; omega) | skip) | ((first | apply hK | ((iterate 1 (clear hK K)); apply hK) | ((iterate 2 (clear hK K)); apply hK) | ((iterate 3 (clear hK K)); apply hK) | ((iterate 4 (clear hK K)); apply hK) | ((iterate 5 (clear hK K)); apply hK)); clear hK K)
          obtain ⟨I, hI⟩ : ∃ I : Nat → St → Prop, ∀ k S, I k S ↔ (∃ (j : Nat) (p : Int), k = l.length - j ∧ j ≤ l.length ∧ R = rowsV al.length p (l.drop j) ∧ S = ⟨[(1, .op b 0), (3, I64 p), (4, I64 j)], [(b, .svs [Str nm, SL al, RL l])]⟩) := ⟨fun k S => _, fun _ _ => Iff.rfl⟩
          refine SW.loop' I (l.length) ((hI _ _).2 ⟨0, 0, rfl, Nat.zero_le _, hR, rfl⟩) (by repeat' (first | exact rfl | exact trivial | exact int_eq (by omega) | exact int_eq (by (rw [i64_wrap] <;> omega)) | constructor)) ?_
          intro k S hIn
          obtain ⟨j, p, rfl, hi, hC, rfl⟩ := (hI _ _).1 hIn
          clear hIn
          have ie : ((j : Nat) : Int).toNat = j := Int.toNat_natCast _
          have i0 : (0 : Int) ≤ ((j : Nat) : Int) := by omega
          clear hR
          by_cases hlt : j < l.length
          · have hli : ((j : Nat) : Int) < (((l.length) : Nat) : Int) := by omega
            have w1 : IntKind.i64.wrap ((j : Int) + 1) = ((j + 1 : Nat) : Int) := by rw [i64_wrap (by omega) (by omega)]; omega
            rw [rowsV_step hlt] at hC
            have hvj := hv _ (getD_mem r0 hlt)
            obtain ⟨id, vs, hr⟩ : ∃ id vs, l.getD j r0 = (id, vs) := ⟨_, _, rfl⟩
            have tf : rF l j = [I64 id, VL vs] := by unfold rF; rw [hr]; rfl
            rw [hr] at hC hvj
            simp only at hC hvj
            by_cases c1 : id ≤ p
            · rw [if_pos c1] at hC
              subst hC
              repeat' first | (with_reducible refine And.intro (by omega) ?_) | (refine SW.seq_k fun K hK => ?_) | (refine SW.block ?_) | ((first | refine SW.region ?_ | refine SW.regionD (Checked.mixed Tryd.checked) (by kernel_rfl) ?_ | refine SW.cond ?_ | refine SW.skip ?_ | refine SW.exit ?_ | refine SW.ret ?_ | (refine allF_i fun b hb => ?_; replace hD := And.intro hb hD; clear hb; try simp only [fresh_cons, fresh_nil, and_true, ne_eq, neF] at hD) | simp only [appK, appOsK]); try simp only [go_sem, hD, hli, ie, i0, w1, tf, c1]) | (refine And.intro (by omega) ?_) | (refine ifI (fun hc => ?_) (fun hc => ?_) <;> first | (exfalso; omega) | skip) | ((first | apply hK | ((iterate 1 (clear hK K)); apply hK) | ((iterate 2 (clear hK K)); apply hK) | ((iterate 3 (clear hK K)); apply hK) | ((iterate 4 (clear hK K)); apply hK) | ((iterate 5 (clear hK K)); apply hK)); clear hK K)
              refine ret_pure ?_; simp only [resL_tmp, resL_nil, tupOf, go_sem, hD]
            · rw [if_neg c1] at hC
              by_cases c2 : vs.length = al.length
              · rw [if_neg (fun x => x c2)] at hC
                have c2i : ((vs.length : Nat) : Int) = ((al.length : Nat) : Int) := by rw [c2]
                have vv := valids_r vs hvj
                cases c3 : vs.all okV with
                | true =>
                  rw [c3] at vv
                  rw [c3, if_pos rfl] at hC
                  repeat' first | (with_reducible refine And.intro (by omega) ?_) | (refine SW.seq_k fun K hK => ?_) | (refine SW.block ?_) | ((first | refine SW.region ?_ | refine SW.regionD (Checked.mixed Tryd.checked) (by kernel_rfl) ?_ | refine SW.cond ?_ | refine SW.skip ?_ | refine SW.exit ?_ | refine SW.ret ?_ | refine Call.of_pure (vv) ?_ | refine ⟨_, vv, ?_⟩ | (refine allF_i fun b hb => ?_; replace hD := And.intro hb hD; clear hb; try simp only [fresh_cons, fresh_nil, and_true, ne_eq, neF] at hD) | simp only [appK, appOsK]); try simp only [go_sem, hD, hli, ie, i0, w1, tf, c1, c2i]) | (refine And.intro (by omega) ?_) | (refine ifI (fun hc => ?_) (fun hc => ?_) <;> first | (exfalso; omega) | skip) | ((first | apply hK | ((iterate 1 (clear hK K)); apply hK) | ((iterate 2 (clear hK K)); apply hK) | ((iterate 3 (clear hK K)); apply hK) | ((iterate 4 (clear hK K)); apply hK) | ((iterate 5 (clear hK K)); apply hK)); clear hK K)
                  refine Rnd.le (St.le_only ?_) (Rnd.sub (l.length - (j + 1)) (by omega) ((hI _ _).2 ⟨j + 1, _, rfl, by omega, hC, rfl⟩) (by repeat' (first | exact rfl | exact trivial | exact int_eq (by omega) | exact int_eq (by (rw [i64_wrap] <;> omega)) | constructor)))
                  repeat (first | exact List.mem_cons_self | apply List.mem_cons_of_mem)
                | false =>
                  rw [c3] at vv
                  rw [c3, if_neg (by simp)] at hC
                  subst hC
                  repeat' first | (with_reducible refine And.intro (by omega) ?_) | (refine SW.seq_k fun K hK => ?_) | (refine SW.block ?_) | ((first | refine SW.region ?_ | refine SW.regionD (Checked.mixed Tryd.checked) (by kernel_rfl) ?_ | refine SW.cond ?_ | refine SW.skip ?_ | refine SW.exit ?_ | refine SW.ret ?_ | refine Call.of_pure (vv) ?_ | refine ⟨_, vv, ?_⟩ | (refine allF_i fun b hb => ?_; replace hD := And.intro hb hD; clear hb; try simp only [fresh_cons, fresh_nil, and_true, ne_eq, neF] at hD) | simp only [appK, appOsK]); try simp only [go_sem, hD, hli, ie, i0, w1, tf, c1, c2i]) | (refine And.intro (by omega) ?_) | (refine ifI (fun hc => ?_) (fun hc => ?_) <;> first | (exfalso; omega) | skip) | ((first | apply hK | ((iterate 1 (clear hK K)); apply hK) | ((iterate 2 (clear hK K)); apply hK) | ((iterate 3 (clear hK K)); apply hK) | ((iterate 4 (clear hK K)); apply hK) | ((iterate 5 (clear hK K)); apply hK)); clear hK K)
                  refine ret_pure ?_; simp only [resL_tmp, resL_nil, tupOf, go_sem, hD]
              · rw [if_pos c2] at hC
                subst hC
                have c2i : ¬ ((vs.length : Nat) : Int) = ((al.length : Nat) : Int) := by omega
                repeat' first | (with_reducible refine And.intro (by omega) ?_) | (refine SW.seq_k fun K hK => ?_) | (refine SW.block ?_) | ((first | refine SW.region ?_ | refine SW.regionD (Checked.mixed Tryd.checked) (by kernel_rfl) ?_ | refine SW.cond ?_ | refine SW.skip ?_ | refine SW.exit ?_ | refine SW.ret ?_ | (refine allF_i fun b hb => ?_; replace hD := And.intro hb hD; clear hb; try simp only [fresh_cons, fresh_nil, and_true, ne_eq, neF] at hD) | simp only [appK, appOsK]); try simp only [go_sem, hD, hli, ie, i0, w1, tf, c1, c2i]) | (refine And.intro (by omega) ?_) | (refine ifI (fun hc => ?_) (fun hc => ?_) <;> first | (exfalso; omega) | skip) | ((first | apply hK | ((iterate 1 (clear hK K)); apply hK) | ((iterate 2 (clear hK K)); apply hK) | ((iterate 3 (clear hK K)); apply hK) | ((iterate 4 (clear hK K)); apply hK) | ((iterate 5 (clear hK K)); apply hK)); clear hK K)
                refine ret_pure ?_; simp only [resL_tmp, resL_nil, tupOf, go_sem, hD]
          · have hli : ¬ ((j : Nat) : Int) < (((l.length) : Nat) : Int) := by omega
            rw [List.drop_of_length_le (by omega)] at hC
            have hC2 : R = 0 := hC
            subst hC2
            repeat' first | (with_reducible refine And.intro (by omega) ?_) | (refine SW.seq_k fun K hK => ?_) | (refine SW.block ?_) | ((first | refine SW.region ?_ | refine SW.regionD (Checked.mixed Tryd.checked) (by kernel_rfl) ?_ | refine SW.cond ?_ | refine SW.skip ?_ | refine SW.exit ?_ | refine SW.ret ?_ | (refine allF_i fun b hb => ?_; replace hD := And.intro hb hD; clear hb; try simp only [fresh_cons, fresh_nil, and_true, ne_eq, neF] at hD) | simp only [appK, appOsK]); try simp only [go_sem, hD, hli]) | (refine And.intro (by omega) ?_) | (refine ifI (fun hc => ?_) (fun hc => ?_) <;> first | (exfalso; omega) | skip) | ((first | apply hK | ((iterate 1 (clear hK K)); apply hK) | ((iterate 2 (clear hK K)); apply hK) | ((iterate 3 (clear hK K)); apply hK) | ((iterate 4 (clear hK K)); apply hK) | ((iterate 5 (clear hK K)); apply hK)); clear hK K)
            refine ret_pure ?_; simp only [resL_tmp, resL_nil, tupOf, go_sem, hD]
end Go.Proofs.YtblfodnajpamfaaDoor
/- Cells of lists; what a valid table is. -/
set_option linter.unusedSimpArgs false
set_option linter.unusedVariables false
set_option linter.unusedSectionVars false
namespace Go.Ab.A34
open Go Go.Ab Go.Proofs
def fC {α : Type} (enc : α → List SV) (l : List α) : List SV := l.flatMap enc
theorem fC_snoc {α : Type} {enc : α → List SV} (l : List α) (x : α) : fC enc l ++ enc x = fC enc (l ++ [x]) := by unfold fC; rw [List.flatMap_append]; simp
theorem fC_len {α : Type} {enc : α → List SV} {k : Nat} (hk : ∀ x, (enc x).length = k) (l : List α) : l.length * k = (fC enc l).length := by
  unfold fC
  induction l with
  | nil => simp
  | cons a r ih => rw [List.flatMap_cons, List.length_append, ← ih, hk, List.length_cons, Nat.add_mul, Nat.one_mul, Nat.add_comm]
theorem fC_at {α : Type} {enc : α → List SV} {k : Nat} (hk : ∀ x, (enc x).length = k) (d : α) : ∀ (l : List α) (j : Nat), j < l.length → enc (l.getD j d) = ((fC enc l).drop (j * k)).take k
  | [], j, h => absurd h (by simp)
  | a :: l, 0, _ => by
    unfold fC
    rw [Nat.zero_mul, List.drop_zero, List.flatMap_cons, List.take_append_of_le_length (by rw [hk]; exact Nat.le_refl _), List.take_of_length_le (by rw [hk]; exact Nat.le_refl _)]
    rfl
  | a :: l, j + 1, h => by
    have := fC_at hk d l j (by rw [List.length_cons] at h; omega)
    unfold fC at *
    rw [List.flatMap_cons, show (j + 1) * k = (enc a).length + j * k by rw [hk, Nat.add_mul, Nat.one_mul, Nat.add_comm], ← List.drop_drop, List.drop_left]
    exact this
def vCs (l : List V3) : List SV := l.flatMap fun v => (encV v).map SV.sc
theorem vCs_snoc (l : List V3) (v : V3) : vCs l ++ vC v = vCs (l ++ [v]) := by
  unfold vCs
  rw [List.flatMap_append]
  rfl
theorem vCs_len (l : List V3) : l.length * 3 = (vCs l).length := fC_len (enc := fun v => (encV v).map SV.sc) (k := 3) (fun _ => rfl) l
theorem vCs_at : ∀ (l : List V3) (j : Nat), j < l.length → vF l j = ((vCs l).drop (j * 3)).take 3
  | [], j, h => absurd h (by simp)
  | a :: l, 0, _ => rfl
  | a :: l, j + 1, h => by
    have := vCs_at l j (by rw [List.length_cons] at h; omega)
    have e : (vCs (a :: l)).drop ((j + 1) * 3) = (vCs l).drop (j * 3) := by
      rw [show (j + 1) * 3 = j * 3 + 3 by omega, Nat.add_comm (j * 3) 3, ← List.drop_drop]
      rfl
    rw [e, ← this]
    rfl
theorem rowsV_ok {n : Nat} : ∀ {l : List R3} {p : Int}, rowsV n p l = 0 → ∀ r ∈ l, r.2.length = n ∧ r.2.all okV = true
  | [], p, _, r, hr => by cases hr
  | x :: l, p, h, r, hr => by
    unfold rowsV at h
    split at h
    · cases h
    · split at h
      · cases h
      · rename_i h2
        split at h
        · rename_i h3
          rcases List.mem_cons.1 hr with rfl | hr
          · exact ⟨by omega, h3⟩
          · exact rowsV_ok h r hr
        · cases h
/-- What a valid table is. -/
theorem valid_rows {t : Tb} (h : validS t = 0) : t.rows.length ≤ 1000 ∧ t.attrs.length ≤ 16 ∧ ∀ r ∈ t.rows, r.2.length = t.attrs.length ∧ ∀ v ∈ r.2, okV v = true := by
  unfold validS at h
  split at h
  · split at h
    · cases h
    · split at h
      · exact ⟨by omega, by omega, fun r hr => ⟨(rowsV_ok h r hr).1, fun v hv => List.all_eq_true.1 (rowsV_ok h r hr).2 v hv⟩⟩
      · cases h
  · cases h
end Go.Ab.A34
