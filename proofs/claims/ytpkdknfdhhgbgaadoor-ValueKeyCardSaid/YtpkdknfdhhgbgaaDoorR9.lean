/- Contract: unquoted of the program. -/
import Derived.Test.YtpkdknfdhhgbgaaDoorR8
set_option linter.unusedSimpArgs false
set_option linter.unusedVariables false
set_option linter.unusedSectionVars false
namespace Go.Proofs.YtpkdknfdhhgbgaaDoor
open Go Go.Ab Go.Ab.A01
variable [Gl] [Tabs]

/-- The byte that stands behind a backslash and an x, as the program reads it. -/
def hexP (s : ByteArray) (l : List UInt8) (i : Nat) : UInt8 := UInt8.ofNat (puN (s.extract (min i s.size) (min (i + 2) s.size)))

set_option maxHeartbeats 4000000 in
set_option maxRecDepth 20000 in
theorem unquoted_p (s : ByteArray) (hs : s.size ≤ 1000000) : PCall Tryd.prog 47 [Str s] (Str (mkB (unqP (hexP s) s.data.toList s.size 1))) := by
  have ls : s.data.toList.length = s.size := Array.length_toList
  obtain ⟨R, hR⟩ : ∃ R, R = unqP (hexP s) s.data.toList s.size 1 := ⟨_, rfl⟩
  rw [← hR]
  refine Call.enter' (N := 63) (rs := [.tmp 2]) Tryd.func47 rfl rfl rfl (by decide) rfl ?_; simp only [argT]; have hD : (0 : Nat) = 0 := rfl
  repeat' first
    | (with_reducible refine And.intro (by omega) ?_)
    | (refine SW.seq_k fun K hK => ?_)
    | ((first
      | refine SW.region ?_
      | refine SW.regionD (Checked.mixed Tryd.checked) (by kernel_rfl) ?_
      | refine SW.cond ?_
      | refine SW.skip ?_
      | refine SW.exit ?_
      | refine SW.ret ?_
      | (refine allF_i fun b hb => ?_; replace hD := And.intro hb hD; clear hb; simp only [fresh_cons, fresh_nil, and_true, ne_eq, neF] at hD)
      | simp only [appK, appOsK]); try simp only [go_sem, ↓reduceIte, reduceCtorEq, Nat.reduceAdd, Nat.reduceMul, Nat.reduceSub, Nat.reduceLT, Nat.reduceLeDiff, Nat.reduceEqDiff, Nat.reduceBEq, Nat.reduceBneDiff, Int.reduceToNat, Int.toNat_natCast, eq_self, decide_true, decide_false, Int.reduceEq, and_true, true_and, if_false_eq, if_true_eq, List.getElem?_cons_zero, List.getElem?_cons_succ, setAll, List.length_cons, List.length_nil, List.length_set, List.getD_cons_zero, List.getD_cons_succ, Nat.le_refl, Int.le_refl, Nat.beq_refl, or_self, true_or, or_true, List.drop_zero, hD])
    | (refine And.intro (by omega) ?_)
    | (refine ifI (fun hc => ?_) (fun hc => ?_) <;> first | (exfalso; omega) | skip)
    | (first | (apply hK; clear hK K) | (clear hK K; apply hK; clear hK K) | (clear hK K; clear hK K; apply hK; clear hK K) | (clear hK K; clear hK K; clear hK K; apply hK; clear hK K) | (clear hK K; clear hK K; clear hK K; clear hK K; apply hK; clear hK K) | (clear hK K; clear hK K; clear hK K; clear hK K; clear hK K; apply hK; clear hK K))
    | fail
  refine SW.block ?_
  obtain ⟨I, hI⟩ : ∃ I : Nat → St → Prop, ∀ k S, I k S ↔ (∃ (i f : Nat) (l : List UInt8) (x : SV) (h : Heap), k = f ∧ 1 ≤ i ∧ s.size ≤ i + f ∧ i ≤ s.size + 4 ∧ l.length ≤ i ∧ R = l ++ unqP (hexP s) s.data.toList f i ∧ Acc 1 x h [] l.length (byts l) ∧ S = ⟨[(0, Str s), (3, x), (4, I64 i)], h⟩) := ⟨fun k S => _, fun _ _ => Iff.rfl⟩
  refine SW.loop' I s.size ((hI _ _).2 ⟨1, s.size, [], _, _, rfl, Nat.le_refl _, by omega, by omega, Nat.zero_le _, hR, .nil _ _, rfl⟩) (by repeat' (first | exact rfl | exact trivial | exact int_eq (by omega) | exact int_eq (by (rw [i64_wrap] <;> omega)) | constructor)) ?_
  intro f S hIn
  obtain ⟨i, f', l, x, h, rfl, hi1, hif, hi4, hl, hC, hB, rfl⟩ := (hI _ _).1 hIn
  clear hIn
  clear hR
  have ie : ((i : Nat) : Int).toNat = i := Int.toNat_natCast _
  have i0 : (0 : Int) ≤ ((i : Nat) : Int) := by omega
  have ws : IntKind.i64.wrap ((s.size : Int) - 1) = (s.size : Int) - 1 := i64_wrap (by omega) (by omega)
  have w1 : IntKind.i64.wrap ((i : Int) + 1) = ((i + 1 : Nat) : Int) := by rw [i64_wrap (by omega) (by omega)]; omega
  by_cases h1 : i + 1 < s.size
  · have h1i : ((i : Nat) : Int) < ((s.size : Nat) : Int) - 1 := by omega
    obtain ⟨f, rfl⟩ : ∃ g, f = g + 1 := ⟨f - 1, by omega⟩
    unfold unqP at hC
    rw [if_pos (by rw [ls]; exact h1)] at hC
    obtain ⟨c, hc⟩ : ∃ c, c = s.data.toList.getD i 0 := ⟨_, rfl⟩
    rw [← hc] at hC
    replace hc := hc.symm
    have c8 := c.toNat_lt
    by_cases hb : c.toNat = 92
    · rw [if_pos ⟨UInt8.toNat_inj.1 hb, by rw [ls]; exact h1⟩] at hC
      have hbt : decide ((c.toNat : Int) = 92) = true := decide_eq_true (by omega)
      have h2i : ((i + 1 : Nat) : Int) < ((s.size : Nat) : Int) := by omega
      have ie2 : ((i + 1 : Nat) : Int).toNat = i + 1 := Int.toNat_natCast _
      obtain ⟨d, hd⟩ : ∃ d, d = s.data.toList.getD (i + 1) 0 := ⟨_, rfl⟩
      rw [← hd] at hC
      replace hd := hd.symm
      have d8 := d.toNat_lt
      by_cases hn : d.toNat = 110
      · rw [if_pos (UInt8.toNat_inj.1 hn)] at hC
        have hnt : decide ((d.toNat : Int) = 110) = true := decide_eq_true (by omega)
        have w2 : IntKind.i64.wrap (((i + 1 : Nat) : Int) + 1) = ((i + 2 : Nat) : Int) := by rw [i64_wrap (by omega) (by omega)]; omega
        repeat' first
          | ((with_reducible refine appK_byts (l2 := [10]) hB ?_ ?_ ?_ ?_ ?_ ?_ ?_ ?_ ?_); (iterate 8 (first | rfl | exact hD | exact hD.1 | exact hD.2.1 | exact hD.2.2.1 | exact Nat.succ_pos _ | (simp only [List.length_cons, List.length_nil]; omega))); intro b' blk' h' h'' n3 hn3 hfind hcells hcv hB' hle; clear hB; have hB := hB'; clear hB'; (try simp only [go_sem, ↓reduceIte, reduceCtorEq, Nat.reduceAdd, Nat.reduceMul, Nat.reduceSub, Nat.reduceLT, Nat.reduceLeDiff, Nat.reduceEqDiff, Nat.reduceBEq, Nat.reduceBneDiff, Int.reduceToNat, Int.toNat_natCast, eq_self, decide_true, decide_false, Int.reduceEq, and_true, true_and, if_false_eq, if_true_eq, List.getElem?_cons_zero, List.getElem?_cons_succ, setAll, List.length_cons, List.length_nil, List.length_set, List.getD_cons_zero, List.getD_cons_succ, Nat.le_refl, Int.le_refl, Nat.beq_refl, or_self, true_or, or_true, List.drop_zero, hD] at hcv); simp only [go_sem, ↓reduceIte, reduceCtorEq, Nat.reduceAdd, Nat.reduceMul, Nat.reduceSub, Nat.reduceLT, Nat.reduceLeDiff, Nat.reduceEqDiff, Nat.reduceBEq, Nat.reduceBneDiff, Int.reduceToNat, Int.toNat_natCast, eq_self, decide_true, decide_false, Int.reduceEq, and_true, true_and, if_false_eq, if_true_eq, List.getElem?_cons_zero, List.getElem?_cons_succ, setAll, List.length_cons, List.length_nil, List.length_set, List.getD_cons_zero, List.getD_cons_succ, Nat.le_refl, Int.le_refl, Nat.beq_refl, or_self, true_or, or_true, List.drop_zero, hD, hfind, hcv]; (first | (apply hK; clear hK K) | (clear hK K; apply hK; clear hK K) | (clear hK K; clear hK K; apply hK; clear hK K) | (clear hK K; clear hK K; clear hK K; apply hK; clear hK K) | (clear hK K; clear hK K; clear hK K; clear hK K; apply hK; clear hK K) | (clear hK K; clear hK K; clear hK K; clear hK K; clear hK K; apply hK; clear hK K)); refine SW.le (hle _) ?_; clear hle hfind hcv hcells)
          | (with_reducible refine And.intro (by omega) ?_)
          | (refine SW.seq_k fun K hK => ?_)
          | (refine SW.block ?_)
          | ((first
      | refine SW.region ?_
      | refine SW.regionD (Checked.mixed Tryd.checked) (by kernel_rfl) ?_
      | refine SW.cond ?_
      | refine SW.skip ?_
      | refine SW.exit ?_
      | refine SW.ret ?_
      | (refine allF_i fun b hb => ?_; replace hD := And.intro hb hD; clear hb; simp only [fresh_cons, fresh_nil, and_true, ne_eq, neF] at hD)
      | simp only [appK, appOsK]); try simp only [go_sem, ↓reduceIte, reduceCtorEq, Nat.reduceAdd, Nat.reduceMul, Nat.reduceSub, Nat.reduceLT, Nat.reduceLeDiff, Nat.reduceEqDiff, Nat.reduceBEq, Nat.reduceBneDiff, Int.reduceToNat, Int.toNat_natCast, eq_self, decide_true, decide_false, Int.reduceEq, and_true, true_and, if_false_eq, if_true_eq, List.getElem?_cons_zero, List.getElem?_cons_succ, setAll, List.length_cons, List.length_nil, List.length_set, List.getD_cons_zero, List.getD_cons_succ, Nat.le_refl, Int.le_refl, Nat.beq_refl, or_self, true_or, or_true, List.drop_zero, hD, h1i, ie, i0, ws, w1, hc, hbt, h2i, ie2, hd, hnt, w2])
          | (refine And.intro (by omega) ?_)
          | (refine ifI (fun hc => ?_) (fun hc => ?_) <;> first | (exfalso; omega) | skip)
          | (first | (apply hK; clear hK K) | (clear hK K; apply hK; clear hK K) | (clear hK K; clear hK K; apply hK; clear hK K) | (clear hK K; clear hK K; clear hK K; apply hK; clear hK K) | (clear hK K; clear hK K; clear hK K; clear hK K; apply hK; clear hK K) | (clear hK K; clear hK K; clear hK K; clear hK K; clear hK K; apply hK; clear hK K))
          | (refine And.intro ?_ ?_)
          | fail
        refine Rnd.sub f (by omega) ((hI _ _).2 ⟨i + 2, f, l ++ [10], _, _, rfl, by omega, by omega, by omega, by rw [List.length_append]; simp only [List.length_cons, List.length_nil]; omega, by rw [hC, List.append_assoc]; rfl, hB, rfl⟩) (by repeat' (first | exact rfl | exact trivial | exact int_eq (by omega) | exact int_eq (by (rw [i64_wrap] <;> omega)) | constructor))
      · rw [if_neg (fun e => hn (by rw [e]; rfl))] at hC
        have hnt : decide ((d.toNat : Int) = 110) = false := decide_eq_false (by omega)
        by_cases hx : d.toNat = 120
        · rw [if_pos (UInt8.toNat_inj.1 hx)] at hC
          have hxt : decide ((d.toNat : Int) = 120) = true := decide_eq_true (by omega)
          have w2 : IntKind.i64.wrap (((i + 1 : Nat) : Int) + 1) = ((i + 2 : Nat) : Int) := by rw [i64_wrap (by omega) (by omega)]; omega
          have w3 : IntKind.i64.wrap (((i + 1 : Nat) : Int) + 3) = ((i + 4 : Nat) : Int) := by rw [i64_wrap (by omega) (by omega)]; omega
          have w4 : IntKind.i64.wrap (((i + 1 : Nat) : Int) + 2) = ((i + 3 : Nat) : Int) := by rw [i64_wrap (by omega) (by omega)]; omega
          have w5 : IntKind.i64.wrap (((i + 3 : Nat) : Int) + 1) = ((i + 4 : Nat) : Int) := by rw [i64_wrap (by omega) (by omega)]; omega
          have m1 : (if (s.size : Int) < ((i + 2 : Nat) : Int) then (s.size : Int) else ((i + 2 : Nat) : Int)).toNat = min (i + 2) s.size := by split <;> omega
          have m2 : (if (s.size : Int) < ((i + 4 : Nat) : Int) then (s.size : Int) else ((i + 4 : Nat) : Int)).toNat = min (i + 4) s.size := by split <;> omega
          have pu := parseUint_c (s.extract (min (i + 2) s.size) (min (i + 4) s.size)) (by rw [ByteArray.size_extract]; omega)
          obtain ⟨e, he⟩ : ∃ e, e = hexP s s.data.toList (i + 2) := ⟨_, rfl⟩
          have ub : IntKind.u8.wrap ((puN (s.extract (min (i + 2) s.size) (min (i + 4) s.size)) : Nat) : Int) = (e.toNat : Int) := by
            rw [he]
            unfold hexP
            rw [show i + 2 + 2 = i + 4 from rfl, UInt8.toNat_ofNat', IntKind.wrap_u8']
            omega
          rw [← he] at hC
          repeat' first
            | (with_reducible refine And.intro (by omega) ?_)
            | (refine SW.seq_k fun K hK => ?_)
            | (refine SW.block ?_)
            | ((first
      | refine SW.region ?_
      | refine SW.regionD (Checked.mixed Tryd.checked) (by kernel_rfl) ?_
      | refine SW.cond ?_
      | refine SW.skip ?_
      | refine SW.exit ?_
      | refine SW.ret ?_
      | (refine allF_i fun b hb => ?_; replace hD := And.intro hb hD; clear hb; simp only [fresh_cons, fresh_nil, and_true, ne_eq, neF] at hD)
      | simp only [appK, appOsK]); try simp only [go_sem, ↓reduceIte, reduceCtorEq, Nat.reduceAdd, Nat.reduceMul, Nat.reduceSub, Nat.reduceLT, Nat.reduceLeDiff, Nat.reduceEqDiff, Nat.reduceBEq, Nat.reduceBneDiff, Int.reduceToNat, Int.toNat_natCast, eq_self, decide_true, decide_false, Int.reduceEq, and_true, true_and, if_false_eq, if_true_eq, List.getElem?_cons_zero, List.getElem?_cons_succ, setAll, List.length_cons, List.length_nil, List.length_set, List.getD_cons_zero, List.getD_cons_succ, Nat.le_refl, Int.le_refl, Nat.beq_refl, or_self, true_or, or_true, List.drop_zero, hD, h1i, ie, i0, ws, w1, hc, hbt, h2i, ie2, hd, hnt, hxt, w2, w3, w4, w5])
            | (refine And.intro (by omega) ?_)
            | (refine ifI (fun hc => ?_) (fun hc => ?_) <;> first | (exfalso; omega) | skip)
            | (first | (apply hK; clear hK K) | (clear hK K; apply hK; clear hK K) | (clear hK K; clear hK K; apply hK; clear hK K) | (clear hK K; clear hK K; clear hK K; apply hK; clear hK K) | (clear hK K; clear hK K; clear hK K; clear hK K; apply hK; clear hK K) | (clear hK K; clear hK K; clear hK K; clear hK K; clear hK K; apply hK; clear hK K))
            | (refine And.intro ?_ ?_)
            | fail
          rw [m1, m2]
          refine ECall.use pu ?_
          rintro r ⟨er, rfl⟩
          simp only [go_sem, ↓reduceIte, reduceCtorEq, Nat.reduceAdd, Nat.reduceMul, Nat.reduceSub, Nat.reduceLT, Nat.reduceLeDiff, Nat.reduceEqDiff, Nat.reduceBEq, Nat.reduceBneDiff, Int.reduceToNat, Int.toNat_natCast, eq_self, decide_true, decide_false, Int.reduceEq, and_true, true_and, if_false_eq, if_true_eq, List.getElem?_cons_zero, List.getElem?_cons_succ, setAll, List.length_cons, List.length_nil, List.length_set, List.getD_cons_zero, List.getD_cons_succ, Nat.le_refl, Int.le_refl, Nat.beq_refl, or_self, true_or, or_true, List.drop_zero, hD]
          repeat' first
            | ((with_reducible refine appK_byts (l2 := [e]) hB ?_ ?_ ?_ ?_ ?_ ?_ ?_ ?_ ?_); (iterate 8 (first | rfl | exact hD | exact hD.1 | exact hD.2.1 | exact hD.2.2.1 | exact Nat.succ_pos _ | (simp only [List.length_cons, List.length_nil]; omega))); intro b' blk' h' h'' n3 hn3 hfind hcells hcv hB' hle; clear hB; have hB := hB'; clear hB'; (try simp only [go_sem, ↓reduceIte, reduceCtorEq, Nat.reduceAdd, Nat.reduceMul, Nat.reduceSub, Nat.reduceLT, Nat.reduceLeDiff, Nat.reduceEqDiff, Nat.reduceBEq, Nat.reduceBneDiff, Int.reduceToNat, Int.toNat_natCast, eq_self, decide_true, decide_false, Int.reduceEq, and_true, true_and, if_false_eq, if_true_eq, List.getElem?_cons_zero, List.getElem?_cons_succ, setAll, List.length_cons, List.length_nil, List.length_set, List.getD_cons_zero, List.getD_cons_succ, Nat.le_refl, Int.le_refl, Nat.beq_refl, or_self, true_or, or_true, List.drop_zero, hD] at hcv); simp only [go_sem, ↓reduceIte, reduceCtorEq, Nat.reduceAdd, Nat.reduceMul, Nat.reduceSub, Nat.reduceLT, Nat.reduceLeDiff, Nat.reduceEqDiff, Nat.reduceBEq, Nat.reduceBneDiff, Int.reduceToNat, Int.toNat_natCast, eq_self, decide_true, decide_false, Int.reduceEq, and_true, true_and, if_false_eq, if_true_eq, List.getElem?_cons_zero, List.getElem?_cons_succ, setAll, List.length_cons, List.length_nil, List.length_set, List.getD_cons_zero, List.getD_cons_succ, Nat.le_refl, Int.le_refl, Nat.beq_refl, or_self, true_or, or_true, List.drop_zero, hD, hfind, hcv]; (first | (apply hK; clear hK K) | (clear hK K; apply hK; clear hK K) | (clear hK K; clear hK K; apply hK; clear hK K) | (clear hK K; clear hK K; clear hK K; apply hK; clear hK K) | (clear hK K; clear hK K; clear hK K; clear hK K; apply hK; clear hK K) | (clear hK K; clear hK K; clear hK K; clear hK K; clear hK K; apply hK; clear hK K)); refine SW.le (hle _) ?_; clear hle hfind hcv hcells)
            | (with_reducible refine And.intro (by omega) ?_)
            | (refine SW.seq_k fun K hK => ?_)
            | (refine SW.block ?_)
            | ((first
      | refine SW.region ?_
      | refine SW.regionD (Checked.mixed Tryd.checked) (by kernel_rfl) ?_
      | refine SW.cond ?_
      | refine SW.skip ?_
      | refine SW.exit ?_
      | refine SW.ret ?_
      | (refine allF_i fun b hb => ?_; replace hD := And.intro hb hD; clear hb; simp only [fresh_cons, fresh_nil, and_true, ne_eq, neF] at hD)
      | simp only [appK, appOsK]); try simp only [go_sem, ↓reduceIte, reduceCtorEq, Nat.reduceAdd, Nat.reduceMul, Nat.reduceSub, Nat.reduceLT, Nat.reduceLeDiff, Nat.reduceEqDiff, Nat.reduceBEq, Nat.reduceBneDiff, Int.reduceToNat, Int.toNat_natCast, eq_self, decide_true, decide_false, Int.reduceEq, and_true, true_and, if_false_eq, if_true_eq, List.getElem?_cons_zero, List.getElem?_cons_succ, setAll, List.length_cons, List.length_nil, List.length_set, List.getD_cons_zero, List.getD_cons_succ, Nat.le_refl, Int.le_refl, Nat.beq_refl, or_self, true_or, or_true, List.drop_zero, hD, w4, w5, ub])
            | (refine And.intro (by omega) ?_)
            | (refine ifI (fun hc => ?_) (fun hc => ?_) <;> first | (exfalso; omega) | skip)
            | (first | (apply hK; clear hK K) | (clear hK K; apply hK; clear hK K) | (clear hK K; clear hK K; apply hK; clear hK K) | (clear hK K; clear hK K; clear hK K; apply hK; clear hK K) | (clear hK K; clear hK K; clear hK K; clear hK K; apply hK; clear hK K) | (clear hK K; clear hK K; clear hK K; clear hK K; clear hK K; apply hK; clear hK K))
            | (refine And.intro ?_ ?_)
            | fail
          refine Rnd.sub f (by omega) ((hI _ _).2 ⟨i + 4, f, l ++ [e], _, _, rfl, by omega, by omega, by omega, by rw [List.length_append]; simp only [List.length_cons, List.length_nil]; omega, by rw [hC, List.append_assoc]; rfl, hB, rfl⟩) (by repeat' (first | exact rfl | exact trivial | exact int_eq (by omega) | exact int_eq (by (rw [i64_wrap] <;> omega)) | constructor))
        · rw [if_neg (fun e => hx (by rw [e]; rfl))] at hC
          have hxt : decide ((d.toNat : Int) = 120) = false := decide_eq_false (by omega)
          have w2 : IntKind.i64.wrap (((i + 1 : Nat) : Int) + 1) = ((i + 2 : Nat) : Int) := by rw [i64_wrap (by omega) (by omega)]; omega
          repeat' first
            | ((with_reducible refine appK_byts (l2 := [d]) hB ?_ ?_ ?_ ?_ ?_ ?_ ?_ ?_ ?_); (iterate 8 (first | rfl | exact hD | exact hD.1 | exact hD.2.1 | exact hD.2.2.1 | exact Nat.succ_pos _ | (simp only [List.length_cons, List.length_nil]; omega))); intro b' blk' h' h'' n3 hn3 hfind hcells hcv hB' hle; clear hB; have hB := hB'; clear hB'; (try simp only [go_sem, ↓reduceIte, reduceCtorEq, Nat.reduceAdd, Nat.reduceMul, Nat.reduceSub, Nat.reduceLT, Nat.reduceLeDiff, Nat.reduceEqDiff, Nat.reduceBEq, Nat.reduceBneDiff, Int.reduceToNat, Int.toNat_natCast, eq_self, decide_true, decide_false, Int.reduceEq, and_true, true_and, if_false_eq, if_true_eq, List.getElem?_cons_zero, List.getElem?_cons_succ, setAll, List.length_cons, List.length_nil, List.length_set, List.getD_cons_zero, List.getD_cons_succ, Nat.le_refl, Int.le_refl, Nat.beq_refl, or_self, true_or, or_true, List.drop_zero, hD] at hcv); simp only [go_sem, ↓reduceIte, reduceCtorEq, Nat.reduceAdd, Nat.reduceMul, Nat.reduceSub, Nat.reduceLT, Nat.reduceLeDiff, Nat.reduceEqDiff, Nat.reduceBEq, Nat.reduceBneDiff, Int.reduceToNat, Int.toNat_natCast, eq_self, decide_true, decide_false, Int.reduceEq, and_true, true_and, if_false_eq, if_true_eq, List.getElem?_cons_zero, List.getElem?_cons_succ, setAll, List.length_cons, List.length_nil, List.length_set, List.getD_cons_zero, List.getD_cons_succ, Nat.le_refl, Int.le_refl, Nat.beq_refl, or_self, true_or, or_true, List.drop_zero, hD, hfind, hcv]; (first | (apply hK; clear hK K) | (clear hK K; apply hK; clear hK K) | (clear hK K; clear hK K; apply hK; clear hK K) | (clear hK K; clear hK K; clear hK K; apply hK; clear hK K) | (clear hK K; clear hK K; clear hK K; clear hK K; apply hK; clear hK K) | (clear hK K; clear hK K; clear hK K; clear hK K; clear hK K; apply hK; clear hK K)); refine SW.le (hle _) ?_; clear hle hfind hcv hcells)
            | (with_reducible refine And.intro (by omega) ?_)
            | (refine SW.seq_k fun K hK => ?_)
            | (refine SW.block ?_)
            | ((first
      | refine SW.region ?_
      | refine SW.regionD (Checked.mixed Tryd.checked) (by kernel_rfl) ?_
      | refine SW.cond ?_
      | refine SW.skip ?_
      | refine SW.exit ?_
      | refine SW.ret ?_
      | (refine allF_i fun b hb => ?_; replace hD := And.intro hb hD; clear hb; simp only [fresh_cons, fresh_nil, and_true, ne_eq, neF] at hD)
      | simp only [appK, appOsK]); try simp only [go_sem, ↓reduceIte, reduceCtorEq, Nat.reduceAdd, Nat.reduceMul, Nat.reduceSub, Nat.reduceLT, Nat.reduceLeDiff, Nat.reduceEqDiff, Nat.reduceBEq, Nat.reduceBneDiff, Int.reduceToNat, Int.toNat_natCast, eq_self, decide_true, decide_false, Int.reduceEq, and_true, true_and, if_false_eq, if_true_eq, List.getElem?_cons_zero, List.getElem?_cons_succ, setAll, List.length_cons, List.length_nil, List.length_set, List.getD_cons_zero, List.getD_cons_succ, Nat.le_refl, Int.le_refl, Nat.beq_refl, or_self, true_or, or_true, List.drop_zero, hD, h1i, ie, i0, ws, w1, hc, hbt, h2i, ie2, hd, hnt, hxt, w2])
            | (refine And.intro (by omega) ?_)
            | (refine ifI (fun hc => ?_) (fun hc => ?_) <;> first | (exfalso; omega) | skip)
            | (first | (apply hK; clear hK K) | (clear hK K; apply hK; clear hK K) | (clear hK K; clear hK K; apply hK; clear hK K) | (clear hK K; clear hK K; clear hK K; apply hK; clear hK K) | (clear hK K; clear hK K; clear hK K; clear hK K; apply hK; clear hK K) | (clear hK K; clear hK K; clear hK K; clear hK K; clear hK K; apply hK; clear hK K))
            | (refine And.intro ?_ ?_)
            | fail
          refine Rnd.sub f (by omega) ((hI _ _).2 ⟨i + 2, f, l ++ [d], _, _, rfl, by omega, by omega, by omega, by rw [List.length_append]; simp only [List.length_cons, List.length_nil]; omega, by rw [hC, List.append_assoc]; rfl, hB, rfl⟩) (by repeat' (first | exact rfl | exact trivial | exact int_eq (by omega) | exact int_eq (by (rw [i64_wrap] <;> omega)) | constructor))
    · rw [if_neg (fun e => hb (by rw [e.1]; rfl))] at hC
      have hbt : decide ((c.toNat : Int) = 92) = false := decide_eq_false (by omega)
      repeat' first
        | ((with_reducible refine appK_byts (l2 := [c]) hB ?_ ?_ ?_ ?_ ?_ ?_ ?_ ?_ ?_); (iterate 8 (first | rfl | exact hD | exact hD.1 | exact hD.2.1 | exact hD.2.2.1 | exact Nat.succ_pos _ | (simp only [List.length_cons, List.length_nil]; omega))); intro b' blk' h' h'' n3 hn3 hfind hcells hcv hB' hle; clear hB; have hB := hB'; clear hB'; (try simp only [go_sem, ↓reduceIte, reduceCtorEq, Nat.reduceAdd, Nat.reduceMul, Nat.reduceSub, Nat.reduceLT, Nat.reduceLeDiff, Nat.reduceEqDiff, Nat.reduceBEq, Nat.reduceBneDiff, Int.reduceToNat, Int.toNat_natCast, eq_self, decide_true, decide_false, Int.reduceEq, and_true, true_and, if_false_eq, if_true_eq, List.getElem?_cons_zero, List.getElem?_cons_succ, setAll, List.length_cons, List.length_nil, List.length_set, List.getD_cons_zero, List.getD_cons_succ, Nat.le_refl, Int.le_refl, Nat.beq_refl, or_self, true_or, or_true, List.drop_zero, hD] at hcv); simp only [go_sem, ↓reduceIte, reduceCtorEq, Nat.reduceAdd, Nat.reduceMul, Nat.reduceSub, Nat.reduceLT, Nat.reduceLeDiff, Nat.reduceEqDiff, Nat.reduceBEq, Nat.reduceBneDiff, Int.reduceToNat, Int.toNat_natCast, eq_self, decide_true, decide_false, Int.reduceEq, and_true, true_and, if_false_eq, if_true_eq, List.getElem?_cons_zero, List.getElem?_cons_succ, setAll, List.length_cons, List.length_nil, List.length_set, List.getD_cons_zero, List.getD_cons_succ, Nat.le_refl, Int.le_refl, Nat.beq_refl, or_self, true_or, or_true, List.drop_zero, hD, hfind, hcv]; (first | (apply hK; clear hK K) | (clear hK K; apply hK; clear hK K) | (clear hK K; clear hK K; apply hK; clear hK K) | (clear hK K; clear hK K; clear hK K; apply hK; clear hK K) | (clear hK K; clear hK K; clear hK K; clear hK K; apply hK; clear hK K) | (clear hK K; clear hK K; clear hK K; clear hK K; clear hK K; apply hK; clear hK K)); refine SW.le (hle _) ?_; clear hle hfind hcv hcells)
        | (with_reducible refine And.intro (by omega) ?_)
        | (refine SW.seq_k fun K hK => ?_)
        | (refine SW.block ?_)
        | ((first
      | refine SW.region ?_
      | refine SW.regionD (Checked.mixed Tryd.checked) (by kernel_rfl) ?_
      | refine SW.cond ?_
      | refine SW.skip ?_
      | refine SW.exit ?_
      | refine SW.ret ?_
      | (refine allF_i fun b hb => ?_; replace hD := And.intro hb hD; clear hb; simp only [fresh_cons, fresh_nil, and_true, ne_eq, neF] at hD)
      | simp only [appK, appOsK]); try simp only [go_sem, ↓reduceIte, reduceCtorEq, Nat.reduceAdd, Nat.reduceMul, Nat.reduceSub, Nat.reduceLT, Nat.reduceLeDiff, Nat.reduceEqDiff, Nat.reduceBEq, Nat.reduceBneDiff, Int.reduceToNat, Int.toNat_natCast, eq_self, decide_true, decide_false, Int.reduceEq, and_true, true_and, if_false_eq, if_true_eq, List.getElem?_cons_zero, List.getElem?_cons_succ, setAll, List.length_cons, List.length_nil, List.length_set, List.getD_cons_zero, List.getD_cons_succ, Nat.le_refl, Int.le_refl, Nat.beq_refl, or_self, true_or, or_true, List.drop_zero, hD, h1i, ie, i0, ws, w1, hc, hbt])
        | (refine And.intro (by omega) ?_)
        | (refine ifI (fun hc => ?_) (fun hc => ?_) <;> first | (exfalso; omega) | skip)
        | (first | (apply hK; clear hK K) | (clear hK K; apply hK; clear hK K) | (clear hK K; clear hK K; apply hK; clear hK K) | (clear hK K; clear hK K; clear hK K; apply hK; clear hK K) | (clear hK K; clear hK K; clear hK K; clear hK K; apply hK; clear hK K) | (clear hK K; clear hK K; clear hK K; clear hK K; clear hK K; apply hK; clear hK K))
        | (refine And.intro ?_ ?_)
        | fail
      refine Rnd.sub f (by omega) ((hI _ _).2 ⟨i + 1, f, l ++ [c], _, _, rfl, by omega, by omega, by omega, by rw [List.length_append]; simp only [List.length_cons, List.length_nil]; omega, by rw [hC, List.append_assoc]; rfl, hB, rfl⟩) (by repeat' (first | exact rfl | exact trivial | exact int_eq (by omega) | exact int_eq (by (rw [i64_wrap] <;> omega)) | constructor))
  · have h1i : ¬ ((i : Nat) : Int) < ((s.size : Nat) : Int) - 1 := by omega
    have hR : R = l := by
      cases f with
      | zero => rw [hC]; simp [unqP]
      | succ f =>
        unfold unqP at hC
        rw [if_neg (by rw [ls]; exact h1)] at hC
        rw [hC, List.append_nil]
    subst hR
    rcases hB.byts_cases with ⟨e, rfl, rfl⟩ | ⟨b, hf, rfl, blk, hcells, rfl⟩
    · repeat' first
        | (with_reducible refine And.intro (by omega) ?_)
        | (refine SW.seq_k fun K hK => ?_)
        | (refine SW.block ?_)
        | ((first
      | refine SW.region ?_
      | refine SW.regionD (Checked.mixed Tryd.checked) (by kernel_rfl) ?_
      | refine SW.cond ?_
      | refine SW.skip ?_
      | refine SW.exit ?_
      | refine SW.ret ?_
      | (refine allF_i fun b hb => ?_; replace hD := And.intro hb hD; clear hb; simp only [fresh_cons, fresh_nil, and_true, ne_eq, neF] at hD)
      | simp only [appK, appOsK]); try simp only [go_sem, ↓reduceIte, reduceCtorEq, Nat.reduceAdd, Nat.reduceMul, Nat.reduceSub, Nat.reduceLT, Nat.reduceLeDiff, Nat.reduceEqDiff, Nat.reduceBEq, Nat.reduceBneDiff, Int.reduceToNat, Int.toNat_natCast, eq_self, decide_true, decide_false, Int.reduceEq, and_true, true_and, if_false_eq, if_true_eq, List.getElem?_cons_zero, List.getElem?_cons_succ, setAll, List.length_cons, List.length_nil, List.length_set, List.getD_cons_zero, List.getD_cons_succ, Nat.le_refl, Int.le_refl, Nat.beq_refl, or_self, true_or, or_true, List.drop_zero, hD, h1i, ws])
        | (refine And.intro (by omega) ?_)
        | (refine ifI (fun hc => ?_) (fun hc => ?_) <;> first | (exfalso; omega) | skip)
        | (first | (apply hK; clear hK K) | (clear hK K; apply hK; clear hK K) | (clear hK K; clear hK K; apply hK; clear hK K) | (clear hK K; clear hK K; clear hK K; apply hK; clear hK K) | (clear hK K; clear hK K; clear hK K; clear hK K; apply hK; clear hK K) | (clear hK K; clear hK K; clear hK K; clear hK K; clear hK K; apply hK; clear hK K))
        | (refine And.intro ?_ ?_)
        | fail
      refine ret_pure ?_; simp only [resL_tmp, resL_nil, tupOf, go_sem, ↓reduceIte, reduceCtorEq, Nat.reduceAdd, Nat.reduceMul, Nat.reduceSub, Nat.reduceLT, Nat.reduceLeDiff, Nat.reduceEqDiff, Nat.reduceBEq, Nat.reduceBneDiff, Int.reduceToNat, Int.toNat_natCast, eq_self, decide_true, decide_false, Int.reduceEq, and_true, true_and, if_false_eq, if_true_eq, List.getElem?_cons_zero, List.getElem?_cons_succ, setAll, List.length_cons, List.length_nil, List.length_set, List.getD_cons_zero, List.getD_cons_succ, Nat.le_refl, Int.le_refl, Nat.beq_refl, or_self, true_or, or_true, List.drop_zero, hD]
      rw [e]
      rfl
    · refine SW.le (St.le_blk (k' := .svs (byts R)) (b := b) (k := blk) (by rw [find_cons, if_pos rfl]) hcells.symm) ?_
      have cv := cvtK_svs R
      simp only [go_sem, ↓reduceIte, reduceCtorEq, Nat.reduceAdd, Nat.reduceMul, Nat.reduceSub, Nat.reduceLT, Nat.reduceLeDiff, Nat.reduceEqDiff, Nat.reduceBEq, Nat.reduceBneDiff, Int.reduceToNat, Int.toNat_natCast, eq_self, decide_true, decide_false, Int.reduceEq, and_true, true_and, if_false_eq, if_true_eq, List.getElem?_cons_zero, List.getElem?_cons_succ, setAll, List.length_cons, List.length_nil, List.length_set, List.getD_cons_zero, List.getD_cons_succ, Nat.le_refl, Int.le_refl, Nat.beq_refl, or_self, true_or, or_true, List.drop_zero, hD] at cv
      repeat' first
        | (with_reducible refine And.intro (by omega) ?_)
        | (refine SW.seq_k fun K hK => ?_)
        | (refine SW.block ?_)
        | ((first
      | refine SW.region ?_
      | refine SW.regionD (Checked.mixed Tryd.checked) (by kernel_rfl) ?_
      | refine SW.cond ?_
      | refine SW.skip ?_
      | refine SW.exit ?_
      | refine SW.ret ?_
      | (refine allF_i fun b hb => ?_; replace hD := And.intro hb hD; clear hb; simp only [fresh_cons, fresh_nil, and_true, ne_eq, neF] at hD)
      | simp only [appK, appOsK]); try simp only [go_sem, ↓reduceIte, reduceCtorEq, Nat.reduceAdd, Nat.reduceMul, Nat.reduceSub, Nat.reduceLT, Nat.reduceLeDiff, Nat.reduceEqDiff, Nat.reduceBEq, Nat.reduceBneDiff, Int.reduceToNat, Int.toNat_natCast, eq_self, decide_true, decide_false, Int.reduceEq, and_true, true_and, if_false_eq, if_true_eq, List.getElem?_cons_zero, List.getElem?_cons_succ, setAll, List.length_cons, List.length_nil, List.length_set, List.getD_cons_zero, List.getD_cons_succ, Nat.le_refl, Int.le_refl, Nat.beq_refl, or_self, true_or, or_true, List.drop_zero, hD, h1i, ws, cv])
        | (refine And.intro (by omega) ?_)
        | (refine ifI (fun hc => ?_) (fun hc => ?_) <;> first | (exfalso; omega) | skip)
        | (first | (apply hK; clear hK K) | (clear hK K; apply hK; clear hK K) | (clear hK K; clear hK K; apply hK; clear hK K) | (clear hK K; clear hK K; clear hK K; apply hK; clear hK K) | (clear hK K; clear hK K; clear hK K; clear hK K; apply hK; clear hK K) | (clear hK K; clear hK K; clear hK K; clear hK K; clear hK K; apply hK; clear hK K))
        | (refine And.intro ?_ ?_)
        | fail
      refine ret_pure ?_; simp only [resL_tmp, resL_nil, tupOf, go_sem, ↓reduceIte, reduceCtorEq, Nat.reduceAdd, Nat.reduceMul, Nat.reduceSub, Nat.reduceLT, Nat.reduceLeDiff, Nat.reduceEqDiff, Nat.reduceBEq, Nat.reduceBneDiff, Int.reduceToNat, Int.toNat_natCast, eq_self, decide_true, decide_false, Int.reduceEq, and_true, true_and, if_false_eq, if_true_eq, List.getElem?_cons_zero, List.getElem?_cons_succ, setAll, List.length_cons, List.length_nil, List.length_set, List.getD_cons_zero, List.getD_cons_succ, Nat.le_refl, Int.le_refl, Nat.beq_refl, or_self, true_or, or_true, List.drop_zero, hD]
      rfl
end Go.Proofs.YtpkdknfdhhgbgaaDoor
