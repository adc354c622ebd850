/- Contracts: hex, Unquote, integer of the reference. -/
import Derived.Test.YtpkdknfdhhgbgaaDoorV1
set_option linter.unusedSimpArgs false
set_option linter.unusedVariables false
set_option linter.unusedSectionVars false
namespace Go.Ab.A01
open Go
/-- A hexadecimal digit's value, or -1. -/
def hexI (c : UInt8) : Int := if 48 ≤ c.toNat ∧ c.toNat ≤ 57 then ((c.toNat - 48 : Nat) : Int) else if 97 ≤ c.toNat ∧ c.toNat ≤ 102 then ((c.toNat - 87 : Nat) : Int) else -1
theorem hexI_hexd : ∀ u : Fin 16, hexI (hexd u.val) = (u.val : Int) := by decide +kernel
theorem hexI_le (c : UInt8) : -1 ≤ hexI c ∧ hexI c ≤ 15 := by
  unfold hexI
  split
  · omega
  · split <;> omega
/-- The byte behind a backslash and an x, as the reference reads it. -/
def hexQ (l : List UInt8) (i : Nat) : UInt8 := UInt8.ofNat ((16 * hexI (l.getD i 0) + hexI (l.getD (i + 1) 0)) % 256).toNat
theorem hexQ_of {s p r : List UInt8} {c : UInt8} (h : s = p ++ 92 :: 120 :: hexd (c.toNat / 16) :: hexd (c.toNat % 16) :: r) : hexQ s (p.length + 2) = c := by
  have c8 := c.toNat_lt
  unfold hexQ
  have g2 := getD_mid p (92 :: 120 :: hexd (c.toNat / 16) :: hexd (c.toNat % 16) :: r) 2
  have g3 := getD_mid p (92 :: 120 :: hexd (c.toNat / 16) :: hexd (c.toNat % 16) :: r) 3
  rw [← h] at g2 g3
  rw [g2, show p.length + 2 + 1 = p.length + 3 from rfl, g3]
  simp only [List.getD_cons_zero, List.getD_cons_succ]
  have h1 := hexI_hexd ⟨c.toNat / 16, by omega⟩
  have h2 := hexI_hexd ⟨c.toNat % 16, by omega⟩
  simp only at h1 h2
  rw [h1, h2]
  have e : ((16 * ((c.toNat / 16 : Nat) : Int) + ((c.toNat % 16 : Nat) : Int)) % 256).toNat = c.toNat := by omega
  rw [e]
  simp
end Go.Ab.A01
namespace Go.Proofs.YtpkdknfdhhgbgaaDoor
open Go Go.Ab Go.Ab.A01
variable [Gl] [Tabs]

theorem hex_r (c : UInt8) : PCall Tryd.prog 49 [.sc (.int .u8 (c.toNat : Int))] (I64 (hexI c)) := by
  have c8 := c.toNat_lt
  unfold hexI
  by_cases h1 : 48 ≤ c.toNat ∧ c.toNat ≤ 57
  · rw [if_pos h1]
    have e1 : IntKind.u8.wrap ((c.toNat : Int) - 48) = ((c.toNat - 48 : Nat) : Int) := by rw [u8n (by omega) (by omega)]; omega
    have e2 : IntKind.i64.wrap ((c.toNat - 48 : Nat) : Int) = ((c.toNat - 48 : Nat) : Int) := i64_wrap (by omega) (by omega)
    refine Call.enter' (N := 22) (rs := [.tmp 2]) Tryd.func49 rfl rfl rfl (by decide) rfl ?_; simp only [argT]; have hD : (0 : Nat) = 0 := rfl
    repeat' first
      | (with_reducible refine And.intro (by omega) ?_)
      | (refine SW.seq_k fun K hK => ?_)
      | (refine SW.block ?_)
      | ((first
      | refine SW.region ?_
      | refine SW.regionD (Checked.mixed Tryd.checked) (by kernel_rfl) ?_
      | refine SW.cond ?_
      | refine SW.skip ?_
      | refine SW.exit ?_
      | refine SW.ret ?_
      | (refine allF_i fun b hb => ?_; replace hD := And.intro hb hD; clear hb; simp only [fresh_cons, fresh_nil, and_true, ne_eq, neF] at hD)
      | simp only [appK, appOsK]); try simp only [go_sem, ↓reduceIte, reduceCtorEq, Nat.reduceAdd, Nat.reduceMul, Nat.reduceSub, Nat.reduceLT, Nat.reduceLeDiff, Nat.reduceEqDiff, Nat.reduceBEq, Nat.reduceBneDiff, Int.reduceToNat, Int.toNat_natCast, eq_self, decide_true, decide_false, Int.reduceEq, and_true, true_and, if_false_eq, if_true_eq, List.getElem?_cons_zero, List.getElem?_cons_succ, setAll, List.length_cons, List.length_nil, List.length_set, List.getD_cons_zero, List.getD_cons_succ, Nat.le_refl, Int.le_refl, Nat.beq_refl, or_self, true_or, or_true, List.drop_zero, hD, e1, e2])
      | (refine And.intro (by omega) ?_)
      | (refine ifI (fun hc => ?_) (fun hc => ?_) <;> first | (exfalso; omega) | skip)
      | (first | (apply hK; clear hK K) | (clear hK K; apply hK; clear hK K) | (clear hK K; clear hK K; apply hK; clear hK K) | (clear hK K; clear hK K; clear hK K; apply hK; clear hK K) | (clear hK K; clear hK K; clear hK K; clear hK K; apply hK; clear hK K) | (clear hK K; clear hK K; clear hK K; clear hK K; clear hK K; apply hK; clear hK K))
      | fail
    refine ret_pure ?_; simp only [resL_tmp, resL_nil, tupOf, go_sem, ↓reduceIte, reduceCtorEq, Nat.reduceAdd, Nat.reduceMul, Nat.reduceSub, Nat.reduceLT, Nat.reduceLeDiff, Nat.reduceEqDiff, Nat.reduceBEq, Nat.reduceBneDiff, Int.reduceToNat, Int.toNat_natCast, eq_self, decide_true, decide_false, Int.reduceEq, and_true, true_and, if_false_eq, if_true_eq, List.getElem?_cons_zero, List.getElem?_cons_succ, setAll, List.length_cons, List.length_nil, List.length_set, List.getD_cons_zero, List.getD_cons_succ, Nat.le_refl, Int.le_refl, Nat.beq_refl, or_self, true_or, or_true, List.drop_zero, hD]
  · rw [if_neg h1]
    by_cases h2 : 97 ≤ c.toNat ∧ c.toNat ≤ 102
    · rw [if_pos h2]
      have e1 : IntKind.u8.wrap ((c.toNat : Int) - 97) = ((c.toNat - 97 : Nat) : Int) := by rw [u8n (by omega) (by omega)]; omega
      have e2 : IntKind.i64.wrap ((c.toNat - 97 : Nat) : Int) = ((c.toNat - 97 : Nat) : Int) := i64_wrap (by omega) (by omega)
      have e3 : IntKind.i64.wrap (((c.toNat - 97 : Nat) : Int) + 10) = ((c.toNat - 87 : Nat) : Int) := by rw [i64_wrap (by omega) (by omega)]; omega
      refine Call.enter' (N := 22) (rs := [.tmp 2]) Tryd.func49 rfl rfl rfl (by decide) rfl ?_; simp only [argT]; have hD : (0 : Nat) = 0 := rfl
      repeat' first
        | (with_reducible refine And.intro (by omega) ?_)
        | (refine SW.seq_k fun K hK => ?_)
        | (refine SW.block ?_)
        | ((first
      | refine SW.region ?_
      | refine SW.regionD (Checked.mixed Tryd.checked) (by kernel_rfl) ?_
      | refine SW.cond ?_
      | refine SW.skip ?_
      | refine SW.exit ?_
      | refine SW.ret ?_
      | (refine allF_i fun b hb => ?_; replace hD := And.intro hb hD; clear hb; simp only [fresh_cons, fresh_nil, and_true, ne_eq, neF] at hD)
      | simp only [appK, appOsK]); try simp only [go_sem, ↓reduceIte, reduceCtorEq, Nat.reduceAdd, Nat.reduceMul, Nat.reduceSub, Nat.reduceLT, Nat.reduceLeDiff, Nat.reduceEqDiff, Nat.reduceBEq, Nat.reduceBneDiff, Int.reduceToNat, Int.toNat_natCast, eq_self, decide_true, decide_false, Int.reduceEq, and_true, true_and, if_false_eq, if_true_eq, List.getElem?_cons_zero, List.getElem?_cons_succ, setAll, List.length_cons, List.length_nil, List.length_set, List.getD_cons_zero, List.getD_cons_succ, Nat.le_refl, Int.le_refl, Nat.beq_refl, or_self, true_or, or_true, List.drop_zero, hD, e1, e2, e3])
        | (refine And.intro (by omega) ?_)
        | (refine ifI (fun hc => ?_) (fun hc => ?_) <;> first | (exfalso; omega) | skip)
        | (first | (apply hK; clear hK K) | (clear hK K; apply hK; clear hK K) | (clear hK K; clear hK K; apply hK; clear hK K) | (clear hK K; clear hK K; clear hK K; apply hK; clear hK K) | (clear hK K; clear hK K; clear hK K; clear hK K; apply hK; clear hK K) | (clear hK K; clear hK K; clear hK K; clear hK K; clear hK K; apply hK; clear hK K))
        | fail
      all_goals refine ret_pure ?_; simp only [resL_tmp, resL_nil, tupOf, go_sem, ↓reduceIte, reduceCtorEq, Nat.reduceAdd, Nat.reduceMul, Nat.reduceSub, Nat.reduceLT, Nat.reduceLeDiff, Nat.reduceEqDiff, Nat.reduceBEq, Nat.reduceBneDiff, Int.reduceToNat, Int.toNat_natCast, eq_self, decide_true, decide_false, Int.reduceEq, and_true, true_and, if_false_eq, if_true_eq, List.getElem?_cons_zero, List.getElem?_cons_succ, setAll, List.length_cons, List.length_nil, List.length_set, List.getD_cons_zero, List.getD_cons_succ, Nat.le_refl, Int.le_refl, Nat.beq_refl, or_self, true_or, or_true, List.drop_zero, hD]
    · rw [if_neg h2]
      refine Call.enter' (N := 22) (rs := [.tmp 2]) Tryd.func49 rfl rfl rfl (by decide) rfl ?_; simp only [argT]; have hD : (0 : Nat) = 0 := rfl
      repeat' first
        | (with_reducible refine And.intro (by omega) ?_)
        | (refine SW.seq_k fun K hK => ?_)
        | (refine SW.block ?_)
        | ((first
      | refine SW.region ?_
      | refine SW.regionD (Checked.mixed Tryd.checked) (by kernel_rfl) ?_
      | refine SW.cond ?_
      | refine SW.skip ?_
      | refine SW.exit ?_
      | refine SW.ret ?_
      | (refine allF_i fun b hb => ?_; replace hD := And.intro hb hD; clear hb; simp only [fresh_cons, fresh_nil, and_true, ne_eq, neF] at hD)
      | simp only [appK, appOsK]); try simp only [go_sem, ↓reduceIte, reduceCtorEq, Nat.reduceAdd, Nat.reduceMul, Nat.reduceSub, Nat.reduceLT, Nat.reduceLeDiff, Nat.reduceEqDiff, Nat.reduceBEq, Nat.reduceBneDiff, Int.reduceToNat, Int.toNat_natCast, eq_self, decide_true, decide_false, Int.reduceEq, and_true, true_and, if_false_eq, if_true_eq, List.getElem?_cons_zero, List.getElem?_cons_succ, setAll, List.length_cons, List.length_nil, List.length_set, List.getD_cons_zero, List.getD_cons_succ, Nat.le_refl, Int.le_refl, Nat.beq_refl, or_self, true_or, or_true, List.drop_zero, hD])
        | (refine And.intro (by omega) ?_)
        | (refine ifI (fun hc => ?_) (fun hc => ?_) <;> first | (exfalso; omega) | skip)
        | (first | (apply hK; clear hK K) | (clear hK K; apply hK; clear hK K) | (clear hK K; clear hK K; apply hK; clear hK K) | (clear hK K; clear hK K; clear hK K; apply hK; clear hK K) | (clear hK K; clear hK K; clear hK K; clear hK K; apply hK; clear hK K) | (clear hK K; clear hK K; clear hK K; clear hK K; clear hK K; apply hK; clear hK K))
        | fail
      all_goals refine ret_pure ?_; simp only [resL_tmp, resL_nil, tupOf, go_sem, ↓reduceIte, reduceCtorEq, Nat.reduceAdd, Nat.reduceMul, Nat.reduceSub, Nat.reduceLT, Nat.reduceLeDiff, Nat.reduceEqDiff, Nat.reduceBEq, Nat.reduceBneDiff, Int.reduceToNat, Int.toNat_natCast, eq_self, decide_true, decide_false, Int.reduceEq, and_true, true_and, if_false_eq, if_true_eq, List.getElem?_cons_zero, List.getElem?_cons_succ, setAll, List.length_cons, List.length_nil, List.length_set, List.getD_cons_zero, List.getD_cons_succ, Nat.le_refl, Int.le_refl, Nat.beq_refl, or_self, true_or, or_true, List.drop_zero, hD]

set_option maxHeartbeats 4000000 in
set_option maxRecDepth 20000 in
theorem unquote_r (s : ByteArray) (hs : s.size ≤ 1000000) : PCall Tryd.prog 39 [Str s] (Str (mkB (unqR hexQ s.data.toList s.size 1))) := by
  have ls : s.data.toList.length = s.size := Array.length_toList
  obtain ⟨R, hR⟩ : ∃ R, R = unqR hexQ s.data.toList s.size 1 := ⟨_, rfl⟩
  rw [← hR]
  refine Call.enter' (N := 80) (rs := [.tmp 2]) Tryd.func39 rfl rfl rfl (by decide) rfl ?_; simp only [argT]; have hD : (0 : Nat) = 0 := rfl
  repeat' first
    | (with_reducible refine And.intro (by omega) ?_)
    | (refine SW.seq_k fun K hK => ?_)
    | ((first
      | refine SW.region ?_
      | refine SW.regionD (Checked.mixed Tryd.checked) (by kernel_rfl) ?_
      | refine SW.cond ?_
      | refine SW.skip ?_
      | refine SW.exit ?_
      | refine SW.ret ?_
      | (refine allF_i fun b hb => ?_; replace hD := And.intro hb hD; clear hb; simp only [fresh_cons, fresh_nil, and_true, ne_eq, neF] at hD)
      | simp only [appK, appOsK]); try simp only [go_sem, ↓reduceIte, reduceCtorEq, Nat.reduceAdd, Nat.reduceMul, Nat.reduceSub, Nat.reduceLT, Nat.reduceLeDiff, Nat.reduceEqDiff, Nat.reduceBEq, Nat.reduceBneDiff, Int.reduceToNat, Int.toNat_natCast, eq_self, decide_true, decide_false, Int.reduceEq, and_true, true_and, if_false_eq, if_true_eq, List.getElem?_cons_zero, List.getElem?_cons_succ, setAll, List.length_cons, List.length_nil, List.length_set, List.getD_cons_zero, List.getD_cons_succ, Nat.le_refl, Int.le_refl, Nat.beq_refl, or_self, true_or, or_true, List.drop_zero, hD])
    | (refine And.intro (by omega) ?_)
    | (refine ifI (fun hc => ?_) (fun hc => ?_) <;> first | (exfalso; omega) | skip)
    | (first | (apply hK; clear hK K) | (clear hK K; apply hK; clear hK K) | (clear hK K; clear hK K; apply hK; clear hK K) | (clear hK K; clear hK K; clear hK K; apply hK; clear hK K) | (clear hK K; clear hK K; clear hK K; clear hK K; apply hK; clear hK K) | (clear hK K; clear hK K; clear hK K; clear hK K; clear hK K; apply hK; clear hK K))
    | fail
  refine SW.block ?_
  obtain ⟨I, hI⟩ : ∃ I : Nat → St → Prop, ∀ k S, I k S ↔ (∃ (i f : Nat) (l : List UInt8) (x : SV) (h : Heap), k = f ∧ 1 ≤ i ∧ s.size ≤ i + f ∧ i ≤ s.size + 4 ∧ l.length ≤ i ∧ R = l ++ unqR hexQ s.data.toList f i ∧ Acc 1 x h [] l.length (byts l) ∧ S = ⟨[(0, Str s), (3, x), (4, I64 i)], h⟩) := ⟨fun k S => _, fun _ _ => Iff.rfl⟩
  refine SW.loop' I s.size ((hI _ _).2 ⟨1, s.size, [], _, _, rfl, Nat.le_refl _, by omega, by omega, Nat.zero_le _, hR, .inr ⟨b, .svs [], trivial, rfl, rfl, rfl, rfl⟩, rfl⟩) (by repeat' (first | exact rfl | exact trivial | exact int_eq (by omega) | exact int_eq (by (rw [i64_wrap] <;> omega)) | constructor)) ?_
  clear hD
  have hD : (0 : Nat) = 0 := rfl
  intro f S hIn
  obtain ⟨i, f', l, x, h, rfl, hi1, hif, hi4, hl, hC, hB, rfl⟩ := (hI _ _).1 hIn
  clear hIn
  clear hR
  have ie : ((i : Nat) : Int).toNat = i := Int.toNat_natCast _
  have i0 : (0 : Int) ≤ ((i : Nat) : Int) := by omega
  have ws : IntKind.i64.wrap ((s.size : Int) - 1) = (s.size : Int) - 1 := i64_wrap (by omega) (by omega)
  have w1 : IntKind.i64.wrap ((i : Int) + 1) = ((i + 1 : Nat) : Int) := by rw [i64_wrap (by omega) (by omega)]; omega
  by_cases h1 : i + 1 < s.size
  · have h1i : ((i : Nat) : Int) < ((s.size : Nat) : Int) - 1 := by omega
    have h1j : ((i : Nat) : Int) < ((s.size : Nat) : Int) := by omega
    obtain ⟨f, rfl⟩ : ∃ g, f = g + 1 := ⟨f - 1, by omega⟩
    unfold unqR at hC
    rw [if_pos (by rw [ls]; exact h1), ls] at hC
    obtain ⟨c, hc⟩ : ∃ c, c = s.data.toList.getD i 0 := ⟨_, rfl⟩
    rw [← hc] at hC
    replace hc := hc.symm
    have c8 := c.toNat_lt
    by_cases hb : c.toNat = 92 ∧ ¬ s.size ≤ i + 2
    · have hc92 : c = 92 := UInt8.toNat_inj.1 hb.1
      rw [if_neg (fun x => x.elim (fun x => x hc92) hb.2)] at hC
      have hbt : decide ((c.toNat : Int) = 92) = true := decide_eq_true (by omega)
      have hbt2 : (c.toNat : Int) = 92 := by omega
      have h2i : ((i + 1 : Nat) : Int) < ((s.size : Nat) : Int) := by omega
      have h2j : ¬ ((s.size : Nat) : Int) - 1 ≤ ((i + 1 : Nat) : Int) := by omega
      have ie2 : ((i + 1 : Nat) : Int).toNat = i + 1 := Int.toNat_natCast _
      obtain ⟨d, hd⟩ : ∃ d, d = s.data.toList.getD (i + 1) 0 := ⟨_, rfl⟩
      rw [← hd] at hC
      replace hd := hd.symm
      have d8 := d.toNat_lt
      have w2 : IntKind.i64.wrap (((i + 1 : Nat) : Int) + 1) = ((i + 2 : Nat) : Int) := by rw [i64_wrap (by omega) (by omega)]; omega
      have w4 : IntKind.i64.wrap (((i + 1 : Nat) : Int) + 2) = ((i + 3 : Nat) : Int) := by rw [i64_wrap (by omega) (by omega)]; omega
      by_cases hn : d.toNat = 110
      · rw [if_pos (UInt8.toNat_inj.1 hn)] at hC
        have hnt : decide ((d.toNat : Int) = 110) = true := decide_eq_true (by omega)
        repeat' first
          | ((with_reducible refine appK_byts (l2 := [10]) hB ?_ ?_ ?_ ?_ ?_ ?_ ?_ ?_ ?_); (iterate 8 (first | rfl | exact hD | exact hD.1 | exact hD.2.1 | exact hD.2.2.1 | exact Nat.succ_pos _ | (simp only [List.length_cons, List.length_nil]; omega))); intro b' blk' h' h'' n3 hn3 hfind hcells hcv hB' hle; clear hB; have hB := hB'; clear hB'; (try simp only [go_sem, ↓reduceIte, reduceCtorEq, Nat.reduceAdd, Nat.reduceMul, Nat.reduceSub, Nat.reduceLT, Nat.reduceLeDiff, Nat.reduceEqDiff, Nat.reduceBEq, Nat.reduceBneDiff, Int.reduceToNat, Int.toNat_natCast, eq_self, decide_true, decide_false, Int.reduceEq, and_true, true_and, if_false_eq, if_true_eq, List.getElem?_cons_zero, List.getElem?_cons_succ, setAll, List.length_cons, List.length_nil, List.length_set, List.getD_cons_zero, List.getD_cons_succ, Nat.le_refl, Int.le_refl, Nat.beq_refl, or_self, true_or, or_true, List.drop_zero, hD] at hcv); simp only [go_sem, ↓reduceIte, reduceCtorEq, Nat.reduceAdd, Nat.reduceMul, Nat.reduceSub, Nat.reduceLT, Nat.reduceLeDiff, Nat.reduceEqDiff, Nat.reduceBEq, Nat.reduceBneDiff, Int.reduceToNat, Int.toNat_natCast, eq_self, decide_true, decide_false, Int.reduceEq, and_true, true_and, if_false_eq, if_true_eq, List.getElem?_cons_zero, List.getElem?_cons_succ, setAll, List.length_cons, List.length_nil, List.length_set, List.getD_cons_zero, List.getD_cons_succ, Nat.le_refl, Int.le_refl, Nat.beq_refl, or_self, true_or, or_true, List.drop_zero, hD, hfind, hcv]; (first | (apply hK; clear hK K) | (clear hK K; apply hK; clear hK K) | (clear hK K; clear hK K; apply hK; clear hK K) | (clear hK K; clear hK K; clear hK K; apply hK; clear hK K) | (clear hK K; clear hK K; clear hK K; clear hK K; apply hK; clear hK K) | (clear hK K; clear hK K; clear hK K; clear hK K; clear hK K; apply hK; clear hK K)); refine SW.le (hle _) ?_; clear hle hfind hcv hcells)
          | (with_reducible refine And.intro (by omega) ?_)
          | (refine SW.seq_k fun K hK => ?_)
          | (refine SW.block ?_)
          | ((first
      | refine SW.region ?_
      | refine SW.regionZ (id := 12) (Checked.mixed Tryd.checked) ((.one 0 [0, 15, 16] (.one 1 [1, 4, 5, 6, 11, 12, 13, 14, 15, 16] (.one 2 [2, 3, 4, 5, 6, 11, 12, 13, 14, 15, 16] (.one 3 [3, 4, 5, 6, 11, 12, 13, 14, 15, 16] (.one 4 [4, 5, 6, 11, 12, 13, 14, 15, 16] (.one 5 [5, 6, 11, 12, 13, 14, 15, 16] (.one 6 [6, 12, 13, 14, 15, 16] (.one 7 [7, 10, 11, 12, 13, 14, 15, 16] (.one 8 [8, 9, 10, 11, 12, 13, 14, 15, 16] (.one 9 [9, 10, 11, 12, 13, 14, 15, 16] (.one 10 [10, 11, 12, 13, 14, 15, 16] (.one 11 [11, 12, 13, 14, 15, 16] (.one 12 [12, 13, 14, 15, 16] (.one 13 [13, 14, 15, 16] (.alt 14 (.alt 15 (.one 16 [16] .done) .nil) .nil))))))))))))))) : OZ) (by kernel_rfl) ?_
      | refine SW.regionD (Checked.mixed Tryd.checked) (by kernel_rfl) ?_
      | refine SW.cond ?_
      | refine SW.skip ?_
      | refine SW.exit ?_
      | refine SW.ret ?_
      | (refine allF_i fun b hb => ?_; replace hD := And.intro hb hD; clear hb; simp only [fresh_cons, fresh_nil, and_true, ne_eq, neF] at hD)
      | simp only [appK, appOsK]); try simp only [go_sem, ↓reduceIte, reduceCtorEq, Nat.reduceAdd, Nat.reduceMul, Nat.reduceSub, Nat.reduceLT, Nat.reduceLeDiff, Nat.reduceEqDiff, Nat.reduceBEq, Nat.reduceBneDiff, Int.reduceToNat, Int.toNat_natCast, eq_self, decide_true, decide_false, Int.reduceEq, and_true, true_and, if_false_eq, if_true_eq, List.getElem?_cons_zero, List.getElem?_cons_succ, setAll, List.length_cons, List.length_nil, List.length_set, List.getD_cons_zero, List.getD_cons_succ, Nat.le_refl, Int.le_refl, Nat.beq_refl, or_self, true_or, or_true, List.drop_zero, hD, h1i, h1j, ie, i0, ws, w1, hc, hbt, hbt2, h2i, h2j, ie2, hd, hnt, w2])
          | (refine And.intro (by omega) ?_)
          | (refine ifI (fun hc => ?_) (fun hc => ?_) <;> first | (exfalso; omega) | skip)
          | (first | (apply hK; clear hK K) | (clear hK K; apply hK; clear hK K) | (clear hK K; clear hK K; apply hK; clear hK K) | (clear hK K; clear hK K; clear hK K; apply hK; clear hK K) | (clear hK K; clear hK K; clear hK K; clear hK K; apply hK; clear hK K) | (clear hK K; clear hK K; clear hK K; clear hK K; clear hK K; apply hK; clear hK K))
          | (refine And.intro ?_ ?_)
          | fail
        refine Rnd.sub f (by omega) ((hI _ _).2 ⟨i + 2, f, l ++ [10], _, _, rfl, by omega, by omega, by omega, by rw [List.length_append]; simp only [List.length_cons, List.length_nil]; omega, by rw [hC, List.append_assoc]; rfl, hB, rfl⟩) (by repeat' (first | exact rfl | exact trivial | exact int_eq (by omega) | exact int_eq (by (rw [i64_wrap] <;> omega)) | constructor))
      · rw [if_neg (fun e => hn (by rw [e]; rfl))] at hC
        have hnt : decide ((d.toNat : Int) = 110) = false := decide_eq_false (by omega)
        by_cases hx : d.toNat = 120 ∧ i + 4 < s.size
        · rw [if_pos ⟨UInt8.toNat_inj.1 hx.1, hx.2⟩] at hC
          have hxt : decide ((d.toNat : Int) = 120) = true := decide_eq_true (by omega)
          have hxj : ((i + 3 : Nat) : Int) < ((s.size : Nat) : Int) - 1 := by omega
          have w5 : IntKind.i64.wrap (((i + 3 : Nat) : Int) + 1) = ((i + 4 : Nat) : Int) := by rw [i64_wrap (by omega) (by omega)]; omega
          have ie3 : ((i + 2 : Nat) : Int).toNat = i + 2 := Int.toNat_natCast _
          have ie4 : ((i + 3 : Nat) : Int).toNat = i + 3 := Int.toNat_natCast _
          have b2 : ((i + 2 : Nat) : Int) < ((s.size : Nat) : Int) := by omega
          have b3 : ((i + 3 : Nat) : Int) < ((s.size : Nat) : Int) := by omega
          have p2 : (0 : Int) ≤ ((i + 2 : Nat) : Int) := by omega
          have p3 : (0 : Int) ≤ ((i + 3 : Nat) : Int) := by omega
          have x1 := hex_r (s.data.toList.getD (i + 2) 0)
          have x2 := hex_r (s.data.toList.getD (i + 3) 0)
          have l1 := hexI_le (s.data.toList.getD (i + 2) 0)
          have l2 := hexI_le (s.data.toList.getD (i + 3) 0)
          have he0 : hexQ s.data.toList (i + 2) = UInt8.ofNat ((16 * hexI (s.data.toList.getD (i + 2) 0) + hexI (s.data.toList.getD (i + 3) 0)) % 256).toNat := rfl
          generalize hexI (s.data.toList.getD (i + 2) 0) = A at *
          generalize hexI (s.data.toList.getD (i + 3) 0) = B at *
          obtain ⟨e, he⟩ : ∃ e, e = hexQ s.data.toList (i + 2) := ⟨_, rfl⟩
          rw [← he] at hC
          have m1 : IntKind.i64.wrap (16 * A) = 16 * A := i64_wrap (by omega) (by omega)
          have m2 : IntKind.i64.wrap (16 * A + B) = 16 * A + B := i64_wrap (by omega) (by omega)
          have ub : IntKind.u8.wrap (16 * A + B) = (e.toNat : Int) := by
            rw [he, he0, UInt8.toNat_ofNat', IntKind.wrap_u8']
            omega
          repeat' first
            | ((with_reducible refine appK_byts (l2 := [e]) hB ?_ ?_ ?_ ?_ ?_ ?_ ?_ ?_ ?_); (iterate 8 (first | rfl | exact hD | exact hD.1 | exact hD.2.1 | exact hD.2.2.1 | exact Nat.succ_pos _ | (simp only [List.length_cons, List.length_nil]; omega))); intro b' blk' h' h'' n3 hn3 hfind hcells hcv hB' hle; clear hB; have hB := hB'; clear hB'; (try simp only [go_sem, ↓reduceIte, reduceCtorEq, Nat.reduceAdd, Nat.reduceMul, Nat.reduceSub, Nat.reduceLT, Nat.reduceLeDiff, Nat.reduceEqDiff, Nat.reduceBEq, Nat.reduceBneDiff, Int.reduceToNat, Int.toNat_natCast, eq_self, decide_true, decide_false, Int.reduceEq, and_true, true_and, if_false_eq, if_true_eq, List.getElem?_cons_zero, List.getElem?_cons_succ, setAll, List.length_cons, List.length_nil, List.length_set, List.getD_cons_zero, List.getD_cons_succ, Nat.le_refl, Int.le_refl, Nat.beq_refl, or_self, true_or, or_true, List.drop_zero, hD] at hcv); simp only [go_sem, ↓reduceIte, reduceCtorEq, Nat.reduceAdd, Nat.reduceMul, Nat.reduceSub, Nat.reduceLT, Nat.reduceLeDiff, Nat.reduceEqDiff, Nat.reduceBEq, Nat.reduceBneDiff, Int.reduceToNat, Int.toNat_natCast, eq_self, decide_true, decide_false, Int.reduceEq, and_true, true_and, if_false_eq, if_true_eq, List.getElem?_cons_zero, List.getElem?_cons_succ, setAll, List.length_cons, List.length_nil, List.length_set, List.getD_cons_zero, List.getD_cons_succ, Nat.le_refl, Int.le_refl, Nat.beq_refl, or_self, true_or, or_true, List.drop_zero, hD, hfind, hcv]; (first | (apply hK; clear hK K) | (clear hK K; apply hK; clear hK K) | (clear hK K; clear hK K; apply hK; clear hK K) | (clear hK K; clear hK K; clear hK K; apply hK; clear hK K) | (clear hK K; clear hK K; clear hK K; clear hK K; apply hK; clear hK K) | (clear hK K; clear hK K; clear hK K; clear hK K; clear hK K; apply hK; clear hK K)); refine SW.le (hle _) ?_; clear hle hfind hcv hcells)
            | (with_reducible refine And.intro (by omega) ?_)
            | (refine SW.seq_k fun K hK => ?_)
            | (refine SW.block ?_)
            | ((first
      | refine SW.region ?_
      | refine SW.regionZ (id := 12) (Checked.mixed Tryd.checked) ((.one 0 [0, 15, 16] (.one 1 [1, 4, 5, 6, 11, 12, 13, 14, 15, 16] (.one 2 [2, 3, 4, 5, 6, 11, 12, 13, 14, 15, 16] (.one 3 [3, 4, 5, 6, 11, 12, 13, 14, 15, 16] (.one 4 [4, 5, 6, 11, 12, 13, 14, 15, 16] (.one 5 [5, 6, 11, 12, 13, 14, 15, 16] (.one 6 [6, 12, 13, 14, 15, 16] (.one 7 [7, 10, 11, 12, 13, 14, 15, 16] (.one 8 [8, 9, 10, 11, 12, 13, 14, 15, 16] (.one 9 [9, 10, 11, 12, 13, 14, 15, 16] (.one 10 [10, 11, 12, 13, 14, 15, 16] (.one 11 [11, 12, 13, 14, 15, 16] (.one 12 [12, 13, 14, 15, 16] (.one 13 [13, 14, 15, 16] (.alt 14 (.alt 15 (.one 16 [16] .done) .nil) .nil))))))))))))))) : OZ) (by kernel_rfl) ?_
      | refine SW.regionD (Checked.mixed Tryd.checked) (by kernel_rfl) ?_
      | refine SW.cond ?_
      | refine SW.skip ?_
      | refine SW.exit ?_
      | refine SW.ret ?_
      | refine Call.of_pure (x1) ?_
      | refine ⟨_, x1, ?_⟩
      | refine Call.of_pure (x2) ?_
      | refine ⟨_, x2, ?_⟩
      | (refine allF_i fun b hb => ?_; replace hD := And.intro hb hD; clear hb; simp only [fresh_cons, fresh_nil, and_true, ne_eq, neF] at hD)
      | simp only [appK, appOsK]); try simp only [go_sem, ↓reduceIte, reduceCtorEq, Nat.reduceAdd, Nat.reduceMul, Nat.reduceSub, Nat.reduceLT, Nat.reduceLeDiff, Nat.reduceEqDiff, Nat.reduceBEq, Nat.reduceBneDiff, Int.reduceToNat, Int.toNat_natCast, eq_self, decide_true, decide_false, Int.reduceEq, and_true, true_and, if_false_eq, if_true_eq, List.getElem?_cons_zero, List.getElem?_cons_succ, setAll, List.length_cons, List.length_nil, List.length_set, List.getD_cons_zero, List.getD_cons_succ, Nat.le_refl, Int.le_refl, Nat.beq_refl, or_self, true_or, or_true, List.drop_zero, hD, h1i, h1j, ie, i0, ws, w1, hc, hbt, hbt2, h2i, h2j, ie2, hd, hnt, hxt, hxj, w2, w4, w5, ie3, ie4, b2, b3, p2, p3, m1, m2, ub])
            | (refine And.intro (by omega) ?_)
            | (refine ifI (fun hc => ?_) (fun hc => ?_) <;> first | (exfalso; omega) | skip)
            | (first | (apply hK; clear hK K) | (clear hK K; apply hK; clear hK K) | (clear hK K; clear hK K; apply hK; clear hK K) | (clear hK K; clear hK K; clear hK K; apply hK; clear hK K) | (clear hK K; clear hK K; clear hK K; clear hK K; apply hK; clear hK K) | (clear hK K; clear hK K; clear hK K; clear hK K; clear hK K; apply hK; clear hK K))
            | (refine And.intro ?_ ?_)
            | fail
          refine Rnd.sub f (by omega) ((hI _ _).2 ⟨i + 4, f, l ++ [e], _, _, rfl, by omega, by omega, by omega, by rw [List.length_append]; simp only [List.length_cons, List.length_nil]; omega, by rw [hC, List.append_assoc]; rfl, hB, rfl⟩) (by repeat' (first | exact rfl | exact trivial | exact int_eq (by omega) | exact int_eq (by (rw [i64_wrap] <;> omega)) | constructor))
        · rw [if_neg (fun e => hx ⟨by rw [e.1]; rfl, e.2⟩)] at hC
          have hxx : ¬ ((d.toNat : Int) = 120 ∧ ((i + 3 : Nat) : Int) < ((s.size : Nat) : Int) - 1) := by omega
          by_cases hx1 : d.toNat = 120
          · have hxt : decide ((d.toNat : Int) = 120) = true := decide_eq_true (by omega)
            have hxj : ¬ ((i + 3 : Nat) : Int) < ((s.size : Nat) : Int) - 1 := by omega
            repeat' first
              | ((with_reducible refine appK_byts (l2 := [d]) hB ?_ ?_ ?_ ?_ ?_ ?_ ?_ ?_ ?_); (iterate 8 (first | rfl | exact hD | exact hD.1 | exact hD.2.1 | exact hD.2.2.1 | exact Nat.succ_pos _ | (simp only [List.length_cons, List.length_nil]; omega))); intro b' blk' h' h'' n3 hn3 hfind hcells hcv hB' hle; clear hB; have hB := hB'; clear hB'; (try simp only [go_sem, ↓reduceIte, reduceCtorEq, Nat.reduceAdd, Nat.reduceMul, Nat.reduceSub, Nat.reduceLT, Nat.reduceLeDiff, Nat.reduceEqDiff, Nat.reduceBEq, Nat.reduceBneDiff, Int.reduceToNat, Int.toNat_natCast, eq_self, decide_true, decide_false, Int.reduceEq, and_true, true_and, if_false_eq, if_true_eq, List.getElem?_cons_zero, List.getElem?_cons_succ, setAll, List.length_cons, List.length_nil, List.length_set, List.getD_cons_zero, List.getD_cons_succ, Nat.le_refl, Int.le_refl, Nat.beq_refl, or_self, true_or, or_true, List.drop_zero, hD] at hcv); simp only [go_sem, ↓reduceIte, reduceCtorEq, Nat.reduceAdd, Nat.reduceMul, Nat.reduceSub, Nat.reduceLT, Nat.reduceLeDiff, Nat.reduceEqDiff, Nat.reduceBEq, Nat.reduceBneDiff, Int.reduceToNat, Int.toNat_natCast, eq_self, decide_true, decide_false, Int.reduceEq, and_true, true_and, if_false_eq, if_true_eq, List.getElem?_cons_zero, List.getElem?_cons_succ, setAll, List.length_cons, List.length_nil, List.length_set, List.getD_cons_zero, List.getD_cons_succ, Nat.le_refl, Int.le_refl, Nat.beq_refl, or_self, true_or, or_true, List.drop_zero, hD, hfind, hcv]; (first | (apply hK; clear hK K) | (clear hK K; apply hK; clear hK K) | (clear hK K; clear hK K; apply hK; clear hK K) | (clear hK K; clear hK K; clear hK K; apply hK; clear hK K) | (clear hK K; clear hK K; clear hK K; clear hK K; apply hK; clear hK K) | (clear hK K; clear hK K; clear hK K; clear hK K; clear hK K; apply hK; clear hK K)); refine SW.le (hle _) ?_; clear hle hfind hcv hcells)
              | (with_reducible refine And.intro (by omega) ?_)
              | (refine SW.seq_k fun K hK => ?_)
              | (refine SW.block ?_)
              | ((first
      | refine SW.region ?_
      | refine SW.regionZ (id := 12) (Checked.mixed Tryd.checked) ((.one 0 [0, 15, 16] (.one 1 [1, 4, 5, 6, 11, 12, 13, 14, 15, 16] (.one 2 [2, 3, 4, 5, 6, 11, 12, 13, 14, 15, 16] (.one 3 [3, 4, 5, 6, 11, 12, 13, 14, 15, 16] (.one 4 [4, 5, 6, 11, 12, 13, 14, 15, 16] (.one 5 [5, 6, 11, 12, 13, 14, 15, 16] (.one 6 [6, 12, 13, 14, 15, 16] (.one 7 [7, 10, 11, 12, 13, 14, 15, 16] (.one 8 [8, 9, 10, 11, 12, 13, 14, 15, 16] (.one 9 [9, 10, 11, 12, 13, 14, 15, 16] (.one 10 [10, 11, 12, 13, 14, 15, 16] (.one 11 [11, 12, 13, 14, 15, 16] (.one 12 [12, 13, 14, 15, 16] (.one 13 [13, 14, 15, 16] (.alt 14 (.alt 15 (.one 16 [16] .done) .nil) .nil))))))))))))))) : OZ) (by kernel_rfl) ?_
      | refine SW.regionD (Checked.mixed Tryd.checked) (by kernel_rfl) ?_
      | refine SW.cond ?_
      | refine SW.skip ?_
      | refine SW.exit ?_
      | refine SW.ret ?_
      | (refine allF_i fun b hb => ?_; replace hD := And.intro hb hD; clear hb; simp only [fresh_cons, fresh_nil, and_true, ne_eq, neF] at hD)
      | simp only [appK, appOsK]); try simp only [go_sem, ↓reduceIte, reduceCtorEq, Nat.reduceAdd, Nat.reduceMul, Nat.reduceSub, Nat.reduceLT, Nat.reduceLeDiff, Nat.reduceEqDiff, Nat.reduceBEq, Nat.reduceBneDiff, Int.reduceToNat, Int.toNat_natCast, eq_self, decide_true, decide_false, Int.reduceEq, and_true, true_and, if_false_eq, if_true_eq, List.getElem?_cons_zero, List.getElem?_cons_succ, setAll, List.length_cons, List.length_nil, List.length_set, List.getD_cons_zero, List.getD_cons_succ, Nat.le_refl, Int.le_refl, Nat.beq_refl, or_self, true_or, or_true, List.drop_zero, hD, h1i, h1j, ie, i0, ws, w1, hc, hbt, hbt2, h2i, h2j, ie2, hd, hnt, hxt, hxj, w2, w4])
              | (refine And.intro (by omega) ?_)
              | (refine ifI (fun hc => ?_) (fun hc => ?_) <;> first | (exfalso; omega) | skip)
              | (first | (apply hK; clear hK K) | (clear hK K; apply hK; clear hK K) | (clear hK K; clear hK K; apply hK; clear hK K) | (clear hK K; clear hK K; clear hK K; apply hK; clear hK K) | (clear hK K; clear hK K; clear hK K; clear hK K; apply hK; clear hK K) | (clear hK K; clear hK K; clear hK K; clear hK K; clear hK K; apply hK; clear hK K))
              | (refine And.intro ?_ ?_)
              | fail
            refine Rnd.sub f (by omega) ((hI _ _).2 ⟨i + 2, f, l ++ [d], _, _, rfl, by omega, by omega, by omega, by rw [List.length_append]; simp only [List.length_cons, List.length_nil]; omega, by rw [hC, List.append_assoc]; rfl, hB, rfl⟩) (by repeat' (first | exact rfl | exact trivial | exact int_eq (by omega) | exact int_eq (by (rw [i64_wrap] <;> omega)) | constructor))
          · have hxt : decide ((d.toNat : Int) = 120) = false := decide_eq_false (by omega)
            repeat' first
              | ((with_reducible refine appK_byts (l2 := [d]) hB ?_ ?_ ?_ ?_ ?_ ?_ ?_ ?_ ?_); (iterate 8 (first | rfl | exact hD | exact hD.1 | exact hD.2.1 | exact hD.2.2.1 | exact Nat.succ_pos _ | (simp only [List.length_cons, List.length_nil]; omega))); intro b' blk' h' h'' n3 hn3 hfind hcells hcv hB' hle; clear hB; have hB := hB'; clear hB'; (try simp only [go_sem, ↓reduceIte, reduceCtorEq, Nat.reduceAdd, Nat.reduceMul, Nat.reduceSub, Nat.reduceLT, Nat.reduceLeDiff, Nat.reduceEqDiff, Nat.reduceBEq, Nat.reduceBneDiff, Int.reduceToNat, Int.toNat_natCast, eq_self, decide_true, decide_false, Int.reduceEq, and_true, true_and, if_false_eq, if_true_eq, List.getElem?_cons_zero, List.getElem?_cons_succ, setAll, List.length_cons, List.length_nil, List.length_set, List.getD_cons_zero, List.getD_cons_succ, Nat.le_refl, Int.le_refl, Nat.beq_refl, or_self, true_or, or_true, List.drop_zero, hD] at hcv); simp only [go_sem, ↓reduceIte, reduceCtorEq, Nat.reduceAdd, Nat.reduceMul, Nat.reduceSub, Nat.reduceLT, Nat.reduceLeDiff, Nat.reduceEqDiff, Nat.reduceBEq, Nat.reduceBneDiff, Int.reduceToNat, Int.toNat_natCast, eq_self, decide_true, decide_false, Int.reduceEq, and_true, true_and, if_false_eq, if_true_eq, List.getElem?_cons_zero, List.getElem?_cons_succ, setAll, List.length_cons, List.length_nil, List.length_set, List.getD_cons_zero, List.getD_cons_succ, Nat.le_refl, Int.le_refl, Nat.beq_refl, or_self, true_or, or_true, List.drop_zero, hD, hfind, hcv]; (first | (apply hK; clear hK K) | (clear hK K; apply hK; clear hK K) | (clear hK K; clear hK K; apply hK; clear hK K) | (clear hK K; clear hK K; clear hK K; apply hK; clear hK K) | (clear hK K; clear hK K; clear hK K; clear hK K; apply hK; clear hK K) | (clear hK K; clear hK K; clear hK K; clear hK K; clear hK K; apply hK; clear hK K)); refine SW.le (hle _) ?_; clear hle hfind hcv hcells)
              | (with_reducible refine And.intro (by omega) ?_)
              | (refine SW.seq_k fun K hK => ?_)
              | (refine SW.block ?_)
              | ((first
      | refine SW.region ?_
      | refine SW.regionZ (id := 12) (Checked.mixed Tryd.checked) ((.one 0 [0, 15, 16] (.one 1 [1, 4, 5, 6, 11, 12, 13, 14, 15, 16] (.one 2 [2, 3, 4, 5, 6, 11, 12, 13, 14, 15, 16] (.one 3 [3, 4, 5, 6, 11, 12, 13, 14, 15, 16] (.one 4 [4, 5, 6, 11, 12, 13, 14, 15, 16] (.one 5 [5, 6, 11, 12, 13, 14, 15, 16] (.one 6 [6, 12, 13, 14, 15, 16] (.one 7 [7, 10, 11, 12, 13, 14, 15, 16] (.one 8 [8, 9, 10, 11, 12, 13, 14, 15, 16] (.one 9 [9, 10, 11, 12, 13, 14, 15, 16] (.one 10 [10, 11, 12, 13, 14, 15, 16] (.one 11 [11, 12, 13, 14, 15, 16] (.one 12 [12, 13, 14, 15, 16] (.one 13 [13, 14, 15, 16] (.alt 14 (.alt 15 (.one 16 [16] .done) .nil) .nil))))))))))))))) : OZ) (by kernel_rfl) ?_
      | refine SW.regionD (Checked.mixed Tryd.checked) (by kernel_rfl) ?_
      | refine SW.cond ?_
      | refine SW.skip ?_
      | refine SW.exit ?_
      | refine SW.ret ?_
      | (refine allF_i fun b hb => ?_; replace hD := And.intro hb hD; clear hb; simp only [fresh_cons, fresh_nil, and_true, ne_eq, neF] at hD)
      | simp only [appK, appOsK]); try simp only [go_sem, ↓reduceIte, reduceCtorEq, Nat.reduceAdd, Nat.reduceMul, Nat.reduceSub, Nat.reduceLT, Nat.reduceLeDiff, Nat.reduceEqDiff, Nat.reduceBEq, Nat.reduceBneDiff, Int.reduceToNat, Int.toNat_natCast, eq_self, decide_true, decide_false, Int.reduceEq, and_true, true_and, if_false_eq, if_true_eq, List.getElem?_cons_zero, List.getElem?_cons_succ, setAll, List.length_cons, List.length_nil, List.length_set, List.getD_cons_zero, List.getD_cons_succ, Nat.le_refl, Int.le_refl, Nat.beq_refl, or_self, true_or, or_true, List.drop_zero, hD, h1i, h1j, ie, i0, ws, w1, hc, hbt, hbt2, h2i, h2j, ie2, hd, hnt, hxt, w2, w4])
              | (refine And.intro (by omega) ?_)
              | (refine ifI (fun hc => ?_) (fun hc => ?_) <;> first | (exfalso; omega) | skip)
              | (first | (apply hK; clear hK K) | (clear hK K; apply hK; clear hK K) | (clear hK K; clear hK K; apply hK; clear hK K) | (clear hK K; clear hK K; clear hK K; apply hK; clear hK K) | (clear hK K; clear hK K; clear hK K; clear hK K; apply hK; clear hK K) | (clear hK K; clear hK K; clear hK K; clear hK K; clear hK K; apply hK; clear hK K))
              | (refine And.intro ?_ ?_)
              | fail
            refine Rnd.sub f (by omega) ((hI _ _).2 ⟨i + 2, f, l ++ [d], _, _, rfl, by omega, by omega, by omega, by rw [List.length_append]; simp only [List.length_cons, List.length_nil]; omega, by rw [hC, List.append_assoc]; rfl, hB, rfl⟩) (by repeat' (first | exact rfl | exact trivial | exact int_eq (by omega) | exact int_eq (by (rw [i64_wrap] <;> omega)) | constructor))
    · have hcc : ¬ c = 92 ∨ s.size ≤ i + 2 := by
        by_cases hc92 : c = 92
        · refine .inr ?_
          rcases Nat.lt_or_ge (i + 2) s.size with h | h
          · exact absurd ⟨by rw [hc92]; rfl, by omega⟩ hb
          · exact h
        · exact .inl hc92
      rw [if_pos hcc] at hC
      by_cases hc92 : c.toNat = 92
      · obtain rfl : c = 92 := UInt8.toNat_inj.1 hc92
        have hbt2 : (((92 : UInt8).toNat : Nat) : Int) = 92 := rfl
        have h2j : ((s.size : Nat) : Int) - 1 ≤ ((i + 1 : Nat) : Int) := by omega
        repeat' first
          | ((with_reducible refine appK_byts (l2 := [92]) hB ?_ ?_ ?_ ?_ ?_ ?_ ?_ ?_ ?_); (iterate 8 (first | rfl | exact hD | exact hD.1 | exact hD.2.1 | exact hD.2.2.1 | exact Nat.succ_pos _ | (simp only [List.length_cons, List.length_nil]; omega))); intro b' blk' h' h'' n3 hn3 hfind hcells hcv hB' hle; clear hB; have hB := hB'; clear hB'; (try simp only [go_sem, ↓reduceIte, reduceCtorEq, Nat.reduceAdd, Nat.reduceMul, Nat.reduceSub, Nat.reduceLT, Nat.reduceLeDiff, Nat.reduceEqDiff, Nat.reduceBEq, Nat.reduceBneDiff, Int.reduceToNat, Int.toNat_natCast, eq_self, decide_true, decide_false, Int.reduceEq, and_true, true_and, if_false_eq, if_true_eq, List.getElem?_cons_zero, List.getElem?_cons_succ, setAll, List.length_cons, List.length_nil, List.length_set, List.getD_cons_zero, List.getD_cons_succ, Nat.le_refl, Int.le_refl, Nat.beq_refl, or_self, true_or, or_true, List.drop_zero, hD] at hcv); simp only [go_sem, ↓reduceIte, reduceCtorEq, Nat.reduceAdd, Nat.reduceMul, Nat.reduceSub, Nat.reduceLT, Nat.reduceLeDiff, Nat.reduceEqDiff, Nat.reduceBEq, Nat.reduceBneDiff, Int.reduceToNat, Int.toNat_natCast, eq_self, decide_true, decide_false, Int.reduceEq, and_true, true_and, if_false_eq, if_true_eq, List.getElem?_cons_zero, List.getElem?_cons_succ, setAll, List.length_cons, List.length_nil, List.length_set, List.getD_cons_zero, List.getD_cons_succ, Nat.le_refl, Int.le_refl, Nat.beq_refl, or_self, true_or, or_true, List.drop_zero, hD, hfind, hcv]; (first | (apply hK; clear hK K) | (clear hK K; apply hK; clear hK K) | (clear hK K; clear hK K; apply hK; clear hK K) | (clear hK K; clear hK K; clear hK K; apply hK; clear hK K) | (clear hK K; clear hK K; clear hK K; clear hK K; apply hK; clear hK K) | (clear hK K; clear hK K; clear hK K; clear hK K; clear hK K; apply hK; clear hK K)); refine SW.le (hle _) ?_; clear hle hfind hcv hcells)
          | (with_reducible refine And.intro (by omega) ?_)
          | (refine SW.seq_k fun K hK => ?_)
          | (refine SW.block ?_)
          | ((first
      | refine SW.region ?_
      | refine SW.regionZ (id := 12) (Checked.mixed Tryd.checked) ((.one 0 [0, 15, 16] (.one 1 [1, 4, 5, 6, 11, 12, 13, 14, 15, 16] (.one 2 [2, 3, 4, 5, 6, 11, 12, 13, 14, 15, 16] (.one 3 [3, 4, 5, 6, 11, 12, 13, 14, 15, 16] (.one 4 [4, 5, 6, 11, 12, 13, 14, 15, 16] (.one 5 [5, 6, 11, 12, 13, 14, 15, 16] (.one 6 [6, 12, 13, 14, 15, 16] (.one 7 [7, 10, 11, 12, 13, 14, 15, 16] (.one 8 [8, 9, 10, 11, 12, 13, 14, 15, 16] (.one 9 [9, 10, 11, 12, 13, 14, 15, 16] (.one 10 [10, 11, 12, 13, 14, 15, 16] (.one 11 [11, 12, 13, 14, 15, 16] (.one 12 [12, 13, 14, 15, 16] (.one 13 [13, 14, 15, 16] (.alt 14 (.alt 15 (.one 16 [16] .done) .nil) .nil))))))))))))))) : OZ) (by kernel_rfl) ?_
      | refine SW.regionD (Checked.mixed Tryd.checked) (by kernel_rfl) ?_
      | refine SW.cond ?_
      | refine SW.skip ?_
      | refine SW.exit ?_
      | refine SW.ret ?_
      | (refine allF_i fun b hb => ?_; replace hD := And.intro hb hD; clear hb; simp only [fresh_cons, fresh_nil, and_true, ne_eq, neF] at hD)
      | simp only [appK, appOsK]); try simp only [go_sem, ↓reduceIte, reduceCtorEq, Nat.reduceAdd, Nat.reduceMul, Nat.reduceSub, Nat.reduceLT, Nat.reduceLeDiff, Nat.reduceEqDiff, Nat.reduceBEq, Nat.reduceBneDiff, Int.reduceToNat, Int.toNat_natCast, eq_self, decide_true, decide_false, Int.reduceEq, and_true, true_and, if_false_eq, if_true_eq, List.getElem?_cons_zero, List.getElem?_cons_succ, setAll, List.length_cons, List.length_nil, List.length_set, List.getD_cons_zero, List.getD_cons_succ, Nat.le_refl, Int.le_refl, Nat.beq_refl, or_self, true_or, or_true, List.drop_zero, hD, h1i, h1j, ie, i0, ws, w1, hc, hbt2, h2j])
          | (refine And.intro (by omega) ?_)
          | (refine ifI (fun hc => ?_) (fun hc => ?_) <;> first | (exfalso; omega) | skip)
          | (first | (apply hK; clear hK K) | (clear hK K; apply hK; clear hK K) | (clear hK K; clear hK K; apply hK; clear hK K) | (clear hK K; clear hK K; clear hK K; apply hK; clear hK K) | (clear hK K; clear hK K; clear hK K; clear hK K; apply hK; clear hK K) | (clear hK K; clear hK K; clear hK K; clear hK K; clear hK K; apply hK; clear hK K))
          | (refine And.intro ?_ ?_)
          | fail
        refine Rnd.sub f (by omega) ((hI _ _).2 ⟨i + 1, f, l ++ [92], _, _, rfl, by omega, by omega, by omega, by rw [List.length_append]; simp only [List.length_cons, List.length_nil]; omega, by rw [hC, List.append_assoc]; rfl, hB, rfl⟩) (by repeat' (first | exact rfl | exact trivial | exact int_eq (by omega) | exact int_eq (by (rw [i64_wrap] <;> omega)) | constructor))
      · have hbt2 : ¬ (c.toNat : Int) = 92 := by omega
        repeat' first
          | ((with_reducible refine appK_byts (l2 := [c]) hB ?_ ?_ ?_ ?_ ?_ ?_ ?_ ?_ ?_); (iterate 8 (first | rfl | exact hD | exact hD.1 | exact hD.2.1 | exact hD.2.2.1 | exact Nat.succ_pos _ | (simp only [List.length_cons, List.length_nil]; omega))); intro b' blk' h' h'' n3 hn3 hfind hcells hcv hB' hle; clear hB; have hB := hB'; clear hB'; (try simp only [go_sem, ↓reduceIte, reduceCtorEq, Nat.reduceAdd, Nat.reduceMul, Nat.reduceSub, Nat.reduceLT, Nat.reduceLeDiff, Nat.reduceEqDiff, Nat.reduceBEq, Nat.reduceBneDiff, Int.reduceToNat, Int.toNat_natCast, eq_self, decide_true, decide_false, Int.reduceEq, and_true, true_and, if_false_eq, if_true_eq, List.getElem?_cons_zero, List.getElem?_cons_succ, setAll, List.length_cons, List.length_nil, List.length_set, List.getD_cons_zero, List.getD_cons_succ, Nat.le_refl, Int.le_refl, Nat.beq_refl, or_self, true_or, or_true, List.drop_zero, hD] at hcv); simp only [go_sem, ↓reduceIte, reduceCtorEq, Nat.reduceAdd, Nat.reduceMul, Nat.reduceSub, Nat.reduceLT, Nat.reduceLeDiff, Nat.reduceEqDiff, Nat.reduceBEq, Nat.reduceBneDiff, Int.reduceToNat, Int.toNat_natCast, eq_self, decide_true, decide_false, Int.reduceEq, and_true, true_and, if_false_eq, if_true_eq, List.getElem?_cons_zero, List.getElem?_cons_succ, setAll, List.length_cons, List.length_nil, List.length_set, List.getD_cons_zero, List.getD_cons_succ, Nat.le_refl, Int.le_refl, Nat.beq_refl, or_self, true_or, or_true, List.drop_zero, hD, hfind, hcv]; (first | (apply hK; clear hK K) | (clear hK K; apply hK; clear hK K) | (clear hK K; clear hK K; apply hK; clear hK K) | (clear hK K; clear hK K; clear hK K; apply hK; clear hK K) | (clear hK K; clear hK K; clear hK K; clear hK K; apply hK; clear hK K) | (clear hK K; clear hK K; clear hK K; clear hK K; clear hK K; apply hK; clear hK K)); refine SW.le (hle _) ?_; clear hle hfind hcv hcells)
          | (with_reducible refine And.intro (by omega) ?_)
          | (refine SW.seq_k fun K hK => ?_)
          | (refine SW.block ?_)
          | ((first
      | refine SW.region ?_
      | refine SW.regionZ (id := 12) (Checked.mixed Tryd.checked) ((.one 0 [0, 15, 16] (.one 1 [1, 4, 5, 6, 11, 12, 13, 14, 15, 16] (.one 2 [2, 3, 4, 5, 6, 11, 12, 13, 14, 15, 16] (.one 3 [3, 4, 5, 6, 11, 12, 13, 14, 15, 16] (.one 4 [4, 5, 6, 11, 12, 13, 14, 15, 16] (.one 5 [5, 6, 11, 12, 13, 14, 15, 16] (.one 6 [6, 12, 13, 14, 15, 16] (.one 7 [7, 10, 11, 12, 13, 14, 15, 16] (.one 8 [8, 9, 10, 11, 12, 13, 14, 15, 16] (.one 9 [9, 10, 11, 12, 13, 14, 15, 16] (.one 10 [10, 11, 12, 13, 14, 15, 16] (.one 11 [11, 12, 13, 14, 15, 16] (.one 12 [12, 13, 14, 15, 16] (.one 13 [13, 14, 15, 16] (.alt 14 (.alt 15 (.one 16 [16] .done) .nil) .nil))))))))))))))) : OZ) (by kernel_rfl) ?_
      | refine SW.regionD (Checked.mixed Tryd.checked) (by kernel_rfl) ?_
      | refine SW.cond ?_
      | refine SW.skip ?_
      | refine SW.exit ?_
      | refine SW.ret ?_
      | (refine allF_i fun b hb => ?_; replace hD := And.intro hb hD; clear hb; simp only [fresh_cons, fresh_nil, and_true, ne_eq, neF] at hD)
      | simp only [appK, appOsK]); try simp only [go_sem, ↓reduceIte, reduceCtorEq, Nat.reduceAdd, Nat.reduceMul, Nat.reduceSub, Nat.reduceLT, Nat.reduceLeDiff, Nat.reduceEqDiff, Nat.reduceBEq, Nat.reduceBneDiff, Int.reduceToNat, Int.toNat_natCast, eq_self, decide_true, decide_false, Int.reduceEq, and_true, true_and, if_false_eq, if_true_eq, List.getElem?_cons_zero, List.getElem?_cons_succ, setAll, List.length_cons, List.length_nil, List.length_set, List.getD_cons_zero, List.getD_cons_succ, Nat.le_refl, Int.le_refl, Nat.beq_refl, or_self, true_or, or_true, List.drop_zero, hD, h1i, h1j, ie, i0, ws, w1, hc, hbt2])
          | (refine And.intro (by omega) ?_)
          | (refine ifI (fun hc => ?_) (fun hc => ?_) <;> first | (exfalso; omega) | skip)
          | (first | (apply hK; clear hK K) | (clear hK K; apply hK; clear hK K) | (clear hK K; clear hK K; apply hK; clear hK K) | (clear hK K; clear hK K; clear hK K; apply hK; clear hK K) | (clear hK K; clear hK K; clear hK K; clear hK K; apply hK; clear hK K) | (clear hK K; clear hK K; clear hK K; clear hK K; clear hK K; apply hK; clear hK K))
          | (refine And.intro ?_ ?_)
          | fail
        refine Rnd.sub f (by omega) ((hI _ _).2 ⟨i + 1, f, l ++ [c], _, _, rfl, by omega, by omega, by omega, by rw [List.length_append]; simp only [List.length_cons, List.length_nil]; omega, by rw [hC, List.append_assoc]; rfl, hB, rfl⟩) (by repeat' (first | exact rfl | exact trivial | exact int_eq (by omega) | exact int_eq (by (rw [i64_wrap] <;> omega)) | constructor))
  · have h1i : ¬ ((i : Nat) : Int) < ((s.size : Nat) : Int) - 1 := by omega
    have hR : R = l := by
      cases f with
      | zero => rw [hC]; simp [unqR]
      | succ f =>
        unfold unqR at hC
        rw [if_neg (by rw [ls]; exact h1)] at hC
        rw [hC, List.append_nil]
    subst hR
    rcases hB.byts_cases with ⟨e, rfl, rfl⟩ | ⟨b, hf, rfl, blk, hcells, rfl⟩
    · repeat' first
        | (with_reducible refine And.intro (by omega) ?_)
        | (refine SW.seq_k fun K hK => ?_)
        | (refine SW.block ?_)
        | ((first
      | refine SW.region ?_
      | refine SW.regionZ (id := 12) (Checked.mixed Tryd.checked) ((.one 0 [0, 15, 16] (.one 1 [1, 4, 5, 6, 11, 12, 13, 14, 15, 16] (.one 2 [2, 3, 4, 5, 6, 11, 12, 13, 14, 15, 16] (.one 3 [3, 4, 5, 6, 11, 12, 13, 14, 15, 16] (.one 4 [4, 5, 6, 11, 12, 13, 14, 15, 16] (.one 5 [5, 6, 11, 12, 13, 14, 15, 16] (.one 6 [6, 12, 13, 14, 15, 16] (.one 7 [7, 10, 11, 12, 13, 14, 15, 16] (.one 8 [8, 9, 10, 11, 12, 13, 14, 15, 16] (.one 9 [9, 10, 11, 12, 13, 14, 15, 16] (.one 10 [10, 11, 12, 13, 14, 15, 16] (.one 11 [11, 12, 13, 14, 15, 16] (.one 12 [12, 13, 14, 15, 16] (.one 13 [13, 14, 15, 16] (.alt 14 (.alt 15 (.one 16 [16] .done) .nil) .nil))))))))))))))) : OZ) (by kernel_rfl) ?_
      | refine SW.regionD (Checked.mixed Tryd.checked) (by kernel_rfl) ?_
      | refine SW.cond ?_
      | refine SW.skip ?_
      | refine SW.exit ?_
      | refine SW.ret ?_
      | (refine allF_i fun b hb => ?_; replace hD := And.intro hb hD; clear hb; simp only [fresh_cons, fresh_nil, and_true, ne_eq, neF] at hD)
      | simp only [appK, appOsK]); try simp only [go_sem, ↓reduceIte, reduceCtorEq, Nat.reduceAdd, Nat.reduceMul, Nat.reduceSub, Nat.reduceLT, Nat.reduceLeDiff, Nat.reduceEqDiff, Nat.reduceBEq, Nat.reduceBneDiff, Int.reduceToNat, Int.toNat_natCast, eq_self, decide_true, decide_false, Int.reduceEq, and_true, true_and, if_false_eq, if_true_eq, List.getElem?_cons_zero, List.getElem?_cons_succ, setAll, List.length_cons, List.length_nil, List.length_set, List.getD_cons_zero, List.getD_cons_succ, Nat.le_refl, Int.le_refl, Nat.beq_refl, or_self, true_or, or_true, List.drop_zero, hD, h1i, ws])
        | (refine And.intro (by omega) ?_)
        | (refine ifI (fun hc => ?_) (fun hc => ?_) <;> first | (exfalso; omega) | skip)
        | (first | (apply hK; clear hK K) | (clear hK K; apply hK; clear hK K) | (clear hK K; clear hK K; apply hK; clear hK K) | (clear hK K; clear hK K; clear hK K; apply hK; clear hK K) | (clear hK K; clear hK K; clear hK K; clear hK K; apply hK; clear hK K) | (clear hK K; clear hK K; clear hK K; clear hK K; clear hK K; apply hK; clear hK K))
        | (refine And.intro ?_ ?_)
        | fail
      refine ret_pure ?_; simp only [resL_tmp, resL_nil, tupOf, go_sem, ↓reduceIte, reduceCtorEq, Nat.reduceAdd, Nat.reduceMul, Nat.reduceSub, Nat.reduceLT, Nat.reduceLeDiff, Nat.reduceEqDiff, Nat.reduceBEq, Nat.reduceBneDiff, Int.reduceToNat, Int.toNat_natCast, eq_self, decide_true, decide_false, Int.reduceEq, and_true, true_and, if_false_eq, if_true_eq, List.getElem?_cons_zero, List.getElem?_cons_succ, setAll, List.length_cons, List.length_nil, List.length_set, List.getD_cons_zero, List.getD_cons_succ, Nat.le_refl, Int.le_refl, Nat.beq_refl, or_self, true_or, or_true, List.drop_zero, hD]
      rw [e]
      rfl
    · refine SW.le (St.le_blk (k' := .svs (byts R)) (b := b) (k := blk) (by rw [find_cons, if_pos rfl]) hcells.symm) ?_
      have cv := cvtK_svs R
      simp only [go_sem, ↓reduceIte, reduceCtorEq, Nat.reduceAdd, Nat.reduceMul, Nat.reduceSub, Nat.reduceLT, Nat.reduceLeDiff, Nat.reduceEqDiff, Nat.reduceBEq, Nat.reduceBneDiff, Int.reduceToNat, Int.toNat_natCast, eq_self, decide_true, decide_false, Int.reduceEq, and_true, true_and, if_false_eq, if_true_eq, List.getElem?_cons_zero, List.getElem?_cons_succ, setAll, List.length_cons, List.length_nil, List.length_set, List.getD_cons_zero, List.getD_cons_succ, Nat.le_refl, Int.le_refl, Nat.beq_refl, or_self, true_or, or_true, List.drop_zero, hD] at cv
      repeat' first
        | (with_reducible refine And.intro (by omega) ?_)
        | (refine SW.seq_k fun K hK => ?_)
        | (refine SW.block ?_)
        | ((first
      | refine SW.region ?_
      | refine SW.regionZ (id := 12) (Checked.mixed Tryd.checked) ((.one 0 [0, 15, 16] (.one 1 [1, 4, 5, 6, 11, 12, 13, 14, 15, 16] (.one 2 [2, 3, 4, 5, 6, 11, 12, 13, 14, 15, 16] (.one 3 [3, 4, 5, 6, 11, 12, 13, 14, 15, 16] (.one 4 [4, 5, 6, 11, 12, 13, 14, 15, 16] (.one 5 [5, 6, 11, 12, 13, 14, 15, 16] (.one 6 [6, 12, 13, 14, 15, 16] (.one 7 [7, 10, 11, 12, 13, 14, 15, 16] (.one 8 [8, 9, 10, 11, 12, 13, 14, 15, 16] (.one 9 [9, 10, 11, 12, 13, 14, 15, 16] (.one 10 [10, 11, 12, 13, 14, 15, 16] (.one 11 [11, 12, 13, 14, 15, 16] (.one 12 [12, 13, 14, 15, 16] (.one 13 [13, 14, 15, 16] (.alt 14 (.alt 15 (.one 16 [16] .done) .nil) .nil))))))))))))))) : OZ) (by kernel_rfl) ?_
      | refine SW.regionD (Checked.mixed Tryd.checked) (by kernel_rfl) ?_
      | refine SW.cond ?_
      | refine SW.skip ?_
      | refine SW.exit ?_
      | refine SW.ret ?_
      | (refine allF_i fun b hb => ?_; replace hD := And.intro hb hD; clear hb; simp only [fresh_cons, fresh_nil, and_true, ne_eq, neF] at hD)
      | simp only [appK, appOsK]); try simp only [go_sem, ↓reduceIte, reduceCtorEq, Nat.reduceAdd, Nat.reduceMul, Nat.reduceSub, Nat.reduceLT, Nat.reduceLeDiff, Nat.reduceEqDiff, Nat.reduceBEq, Nat.reduceBneDiff, Int.reduceToNat, Int.toNat_natCast, eq_self, decide_true, decide_false, Int.reduceEq, and_true, true_and, if_false_eq, if_true_eq, List.getElem?_cons_zero, List.getElem?_cons_succ, setAll, List.length_cons, List.length_nil, List.length_set, List.getD_cons_zero, List.getD_cons_succ, Nat.le_refl, Int.le_refl, Nat.beq_refl, or_self, true_or, or_true, List.drop_zero, hD, h1i, ws, cv])
        | (refine And.intro (by omega) ?_)
        | (refine ifI (fun hc => ?_) (fun hc => ?_) <;> first | (exfalso; omega) | skip)
        | (first | (apply hK; clear hK K) | (clear hK K; apply hK; clear hK K) | (clear hK K; clear hK K; apply hK; clear hK K) | (clear hK K; clear hK K; clear hK K; apply hK; clear hK K) | (clear hK K; clear hK K; clear hK K; clear hK K; apply hK; clear hK K) | (clear hK K; clear hK K; clear hK K; clear hK K; clear hK K; apply hK; clear hK K))
        | (refine And.intro ?_ ?_)
        | fail
      refine ret_pure ?_; simp only [resL_tmp, resL_nil, tupOf, go_sem, ↓reduceIte, reduceCtorEq, Nat.reduceAdd, Nat.reduceMul, Nat.reduceSub, Nat.reduceLT, Nat.reduceLeDiff, Nat.reduceEqDiff, Nat.reduceBEq, Nat.reduceBneDiff, Int.reduceToNat, Int.toNat_natCast, eq_self, decide_true, decide_false, Int.reduceEq, and_true, true_and, if_false_eq, if_true_eq, List.getElem?_cons_zero, List.getElem?_cons_succ, setAll, List.length_cons, List.length_nil, List.length_set, List.getD_cons_zero, List.getD_cons_succ, Nat.le_refl, Int.le_refl, Nat.beq_refl, or_self, true_or, or_true, List.drop_zero, hD]
      rfl
end Go.Proofs.YtpkdknfdhhgbgaaDoor
