/- Contracts of the reference: build. -/
import Derived.Test.YtcbgkcjlechdnaaDoorR3
import Derived.Test.YtcbgkcjlechdnaaDoorR4
set_option linter.unusedSimpArgs false
set_option linter.unusedVariables false
set_option linter.unusedSectionVars false
namespace Go.Proofs.YtcbgkcjlechdnaaDoor
open Go Go.Ab
variable [Gl]

/-- Five different blocks. -/
def Ds5 (a b c d e : Nat) : Prop := (((a = b) = False ∧ (b = a) = False) ∧ ((a = c) = False ∧ (c = a) = False) ∧ ((a = d) = False ∧ (d = a) = False) ∧ ((a = e) = False ∧ (e = a) = False)) ∧ (((b = c) = False ∧ (c = b) = False) ∧ ((b = d) = False ∧ (d = b) = False) ∧ ((b = e) = False ∧ (e = b) = False)) ∧ (((c = d) = False ∧ (d = c) = False) ∧ ((c = e) = False ∧ (e = c) = False)) ∧ ((d = e) = False ∧ (e = d) = False)
theorem Ds5.nodup {a b c d e : Nat} (h : Ds5 a b c d e) : [a, b, c, d, e].Nodup := by
  unfold Ds5 at h
  simp [h]

/-- The beginning of build: two new words. -/
def bld1 (bn bd br : Nat) (neg : Bool) (n d : Nat) (S : St) : Prop := ∃ b8 b9 : Nat, Ds5 b8 b9 bn bd br ∧
  S.le ⟨[(0, SB neg), (4, .op bn 0), (5, .op bd 0), (6, .op br 0), (8, .op b8 0), (9, .op b9 0)], [(b8, .svs [U64 (n / 18446744073709551616 : Nat), U64 (n % 18446744073709551616 : Nat)]), (b9, .svs [U64 (d / 18446744073709551616 : Nat), U64 (d % 18446744073709551616 : Nat)]), (bn, .svs [U64 (n / 18446744073709551616 : Nat), U64 (n % 18446744073709551616 : Nat)]), (bd, .svs [U64 (d / 18446744073709551616 : Nat), U64 (d % 18446744073709551616 : Nat)]), (br, .svs [I64 0, I64 0])]⟩

theorem le_find5 {t l : List (Nat × SV)} {h : Heap} {a b c d e : Nat} {ka kb kc kd ke : Blk} (hs : sub ⟨t, h⟩ l) (fa : h.find a = some ka) (fb : h.find b = some kb) (fc : h.find c = some kc) (fd : h.find d = some kd) (fe : h.find e = some ke) (hn : [a, b, c, d, e].Nodup) :
    (St.mk t h).le ⟨l, [(a, ka), (b, kb), (c, kc), (d, kd), (e, ke)]⟩ := by
  refine (St.le_sub hs).trans (St.le_sublist (fun x hx => ?_) (fun _ => by simpa using hn))
  simp only [List.mem_cons, List.not_mem_nil, or_false] at hx
  rcases hx with rfl | rfl | rfl | rfl | rfl
  · exact Heap.find_mem fa
  · exact Heap.find_mem fb
  · exact Heap.find_mem fc
  · exact Heap.find_mem fd
  · exact Heap.find_mem fe

theorem bld1_i {bn bd br : Nat} {neg : Bool} {n d : Nat} {t : List (Nat × SV)} {h : Heap} {b8 b9 : Nat} (hs : sub ⟨t, h⟩ [(0, SB neg), (4, .op bn 0), (5, .op bd 0), (6, .op br 0), (8, .op b8 0), (9, .op b9 0)])
    (f8 : h.find b8 = some (.svs [U64 (n / 18446744073709551616 : Nat), U64 (n % 18446744073709551616 : Nat)])) (f9 : h.find b9 = some (.svs [U64 (d / 18446744073709551616 : Nat), U64 (d % 18446744073709551616 : Nat)])) (fn : h.find bn = some (.svs [U64 (n / 18446744073709551616 : Nat), U64 (n % 18446744073709551616 : Nat)])) (fd : h.find bd = some (.svs [U64 (d / 18446744073709551616 : Nat), U64 (d % 18446744073709551616 : Nat)])) (fr : h.find br = some (.svs [I64 0, I64 0]))
    (hd : Ds5 b8 b9 bn bd br) : bld1 bn bd br neg n d ⟨t, h⟩ := ⟨b8, b9, hd, le_find5 hs f8 f9 fn fd fr hd.nodup⟩

set_option maxRecDepth 20000 in
set_option maxHeartbeats 4000000 in
theorem build_r (neg : Bool) (n d : Nat) (hn : n < 340282366920938463463374607431768211456) (hd0 : 0 < d) (hd1 : d ≤ 170141183460469231731687303715884105728) : PCall Tryd.prog 33 [SB neg, Wd n, Wd d] (FR (bldR neg n d)) := by
  refine Call.enter' (N := 60) (rs := [.cell 6 24, .tmp 7]) Tryd.func33 rfl rfl rfl (by decide) rfl ?_; simp only [argT]; have hD : (0 : Nat) = 0 := rfl
  repeat' first
    | (refine SW.seq_k fun K hK => ?_)
    | (refine SW.block ?_)
    | ((first
      | refine SW.region ?_
      | refine SW.cond ?_
      | refine SW.skip ?_
      | refine SW.exit ?_
      | refine SW.ret ?_
      | (refine allF_i fun b hb => ?_; replace hD := And.intro hb hD; clear hb; simp only [fresh_cons, fresh_nil, and_true, ne_eq, neF] at hD)
      | simp only [appK, appOsK]); try simp only [go_sem, ↓reduceIte, reduceCtorEq, Nat.reduceAdd, Nat.reduceMul, Nat.reduceSub, Nat.reduceLT, Nat.reduceLeDiff, Nat.reduceEqDiff, Nat.reduceBEq, Nat.reduceBneDiff, Int.reduceToNat, Int.toNat_natCast, eq_self, decide_true, decide_false, Int.reduceEq, and_true, true_and, if_false_eq, if_true_eq, List.getElem?_cons_zero, List.getElem?_cons_succ, setAll, List.length_cons, List.length_nil, List.length_set, List.getD_cons_zero, List.getD_cons_succ, Nat.le_refl, Int.le_refl, Nat.beq_refl, or_self, true_or, or_true, List.drop_zero, hD])
    | (refine And.intro (by omega) ?_)
    | (refine ifI (fun hc => ?_) (fun hc => ?_) <;> first | (exfalso; omega) | skip)
    | (first | (apply hK; clear hK K) | (clear hK K; apply hK; clear hK K) | (clear hK K; clear hK K; apply hK; clear hK K) | (clear hK K; clear hK K; clear hK K; apply hK; clear hK K) | (clear hK K; clear hK K; clear hK K; clear hK K; apply hK; clear hK K) | (clear hK K; clear hK K; clear hK K; clear hK K; clear hK K; apply hK; clear hK K))
    | fail
  rename_i bn bd
  rename Nat => br
  refine SW.cut (bld1 bn bd br neg n d) ?_ ?_
  · refine SW.regionT (Checked.mixed Tryd.checked) ((.alt 0 (.alt 1 (.alt 2 (.alt 3 (.alt 4 (.alt 5 .done .nil) .nil) .nil) (.alt 3 (.alt 2 (.alt 4 (.alt 5 .done .nil) .nil) .nil) .nil)) (.alt 2 (.alt 1 (.alt 3 (.alt 4 (.alt 5 .done .nil) .nil) .nil) (.alt 3 (.alt 1 (.alt 4 (.alt 5 .done .nil) .nil) (.alt 4 (.alt 1 (.alt 5 .done .nil) .nil) .nil)) .nil)) (.alt 3 (.alt 1 (.alt 2 (.alt 4 (.alt 5 .done .nil) .nil) .nil) (.alt 2 (.alt 1 (.alt 4 (.alt 5 .done .nil) .nil) (.alt 4 (.alt 1 (.alt 5 .done .nil) .nil) .nil)) .nil)) .nil))) (.alt 1 (.alt 0 (.alt 2 (.alt 3 (.alt 4 (.alt 5 .done .nil) .nil) .nil) (.alt 3 (.alt 2 (.alt 4 (.alt 5 .done .nil) .nil) .nil) .nil)) (.alt 2 (.alt 0 (.alt 3 (.alt 4 (.alt 5 .done .nil) .nil) .nil) (.alt 3 (.alt 0 (.alt 4 (.alt 5 .done .nil) .nil) .nil) .nil)) (.alt 3 (.alt 0 (.alt 2 (.alt 4 (.alt 5 .done .nil) .nil) .nil) (.alt 2 (.alt 0 (.alt 4 (.alt 5 .done .nil) .nil) .nil) .nil)) .nil))) (.alt 2 (.alt 0 (.alt 1 (.alt 3 (.alt 4 (.alt 5 .done .nil) .nil) .nil) (.alt 3 (.alt 1 (.alt 4 (.alt 5 .done .nil) .nil) (.alt 4 (.alt 1 (.alt 5 .done .nil) .nil) .nil)) .nil)) (.alt 1 (.alt 0 (.alt 3 (.alt 4 (.alt 5 .done .nil) .nil) .nil) (.alt 3 (.alt 0 (.alt 4 (.alt 5 .done .nil) .nil) .nil) .nil)) (.alt 3 (.alt 0 (.alt 1 (.alt 4 (.alt 5 .done .nil) .nil) (.alt 4 (.alt 1 (.alt 5 .done .nil) .nil) .nil)) (.alt 1 (.alt 0 (.alt 4 (.alt 5 .done .nil) .nil) .nil) .nil)) .nil))) (.alt 3 (.alt 0 (.alt 1 (.alt 2 (.alt 4 (.alt 5 .done .nil) .nil) .nil) (.alt 2 (.alt 1 (.alt 4 (.alt 5 .done .nil) .nil) (.alt 4 (.alt 1 (.alt 5 .done .nil) .nil) .nil)) .nil)) (.alt 1 (.alt 0 (.alt 2 (.alt 4 (.alt 5 .done .nil) .nil) .nil) (.alt 2 (.alt 0 (.alt 4 (.alt 5 .done .nil) .nil) .nil) .nil)) (.alt 2 (.alt 0 (.alt 1 (.alt 4 (.alt 5 .done .nil) .nil) (.alt 4 (.alt 1 (.alt 5 .done .nil) .nil) .nil)) (.alt 1 (.alt 0 (.alt 4 (.alt 5 .done .nil) .nil) .nil) .nil)) .nil))) .nil)))) : OT) (by kernel_rfl) ?_; simp only [go_sem, ↓reduceIte, reduceCtorEq, Nat.reduceAdd, Nat.reduceMul, Nat.reduceSub, Nat.reduceLT, Nat.reduceLeDiff, Nat.reduceEqDiff, Nat.reduceBEq, Nat.reduceBneDiff, Int.reduceToNat, Int.toNat_natCast, eq_self, decide_true, decide_false, Int.reduceEq, and_true, true_and, if_false_eq, if_true_eq, List.getElem?_cons_zero, List.getElem?_cons_succ, setAll, List.length_cons, List.length_nil, List.length_set, List.getD_cons_zero, List.getD_cons_succ, Nat.le_refl, Int.le_refl, Nat.beq_refl, or_self, true_or, or_true, List.drop_zero, hD]
    repeat' (first
      | (refine And.intro ?_ ?_)
      | (refine allF_i fun b hb => ?_; replace hD := And.intro hb hD; clear hb; simp only [fresh_cons, fresh_nil, and_true, ne_eq, neF] at hD; try simp only [go_sem, ↓reduceIte, reduceCtorEq, Nat.reduceAdd, Nat.reduceMul, Nat.reduceSub, Nat.reduceLT, Nat.reduceLeDiff, Nat.reduceEqDiff, Nat.reduceBEq, Nat.reduceBneDiff, Int.reduceToNat, Int.toNat_natCast, eq_self, decide_true, decide_false, Int.reduceEq, and_true, true_and, if_false_eq, if_true_eq, List.getElem?_cons_zero, List.getElem?_cons_succ, setAll, List.length_cons, List.length_nil, List.length_set, List.getD_cons_zero, List.getD_cons_succ, Nat.le_refl, Int.le_refl, Nat.beq_refl, or_self, true_or, or_true, List.drop_zero, hD]))
    all_goals
      refine nrm_i (bld1_i (by repeat' (first | exact rfl | exact trivial | exact int_eq (by omega) | exact int_eq (by (rw [i64_wrap] <;> omega)) | constructor)) ?_ ?_ ?_ ?_ ?_ ?_)
      all_goals first | (simp only [go_sem, ↓reduceIte, reduceCtorEq, Nat.reduceAdd, Nat.reduceMul, Nat.reduceSub, Nat.reduceLT, Nat.reduceLeDiff, Nat.reduceEqDiff, Nat.reduceBEq, Nat.reduceBneDiff, Int.reduceToNat, Int.toNat_natCast, eq_self, decide_true, decide_false, Int.reduceEq, and_true, true_and, if_false_eq, if_true_eq, List.getElem?_cons_zero, List.getElem?_cons_succ, setAll, List.length_cons, List.length_nil, List.length_set, List.getD_cons_zero, List.getD_cons_succ, Nat.le_refl, Int.le_refl, Nat.beq_refl, or_self, true_or, or_true, List.drop_zero, hD]; done) | (unfold Ds5; simp only [go_sem, ↓reduceIte, reduceCtorEq, Nat.reduceAdd, Nat.reduceMul, Nat.reduceSub, Nat.reduceLT, Nat.reduceLeDiff, Nat.reduceEqDiff, Nat.reduceBEq, Nat.reduceBneDiff, Int.reduceToNat, Int.toNat_natCast, eq_self, decide_true, decide_false, Int.reduceEq, and_true, true_and, if_false_eq, if_true_eq, List.getElem?_cons_zero, List.getElem?_cons_succ, setAll, List.length_cons, List.length_nil, List.length_set, List.getD_cons_zero, List.getD_cons_succ, Nat.le_refl, Int.le_refl, Nat.beq_refl, or_self, true_or, or_true, List.drop_zero, hD]; done) | skip
  · rintro S' ⟨b8, b9, hne, hle⟩
    unfold Ds5 at hne
    replace hD := And.intro hne hD
    clear hne
    try simp only [go_sem, ↓reduceIte, reduceCtorEq, Nat.reduceAdd, Nat.reduceMul, Nat.reduceSub, Nat.reduceLT, Nat.reduceLeDiff, Nat.reduceEqDiff, Nat.reduceBEq, Nat.reduceBneDiff, Int.reduceToNat, Int.toNat_natCast, eq_self, decide_true, decide_false, Int.reduceEq, and_true, true_and, if_false_eq, if_true_eq, List.getElem?_cons_zero, List.getElem?_cons_succ, setAll, List.length_cons, List.length_nil, List.length_set, List.getD_cons_zero, List.getD_cons_succ, Nat.le_refl, Int.le_refl, Nat.beq_refl, or_self, true_or, or_true, List.drop_zero, hD]
    first | (apply hK; clear hK K) | (clear hK K; apply hK; clear hK K) | (clear hK K; clear hK K; apply hK; clear hK K) | (clear hK K; clear hK K; clear hK K; apply hK; clear hK K) | (clear hK K; clear hK K; clear hK K; clear hK K; apply hK; clear hK K) | (clear hK K; clear hK K; clear hK K; clear hK K; clear hK K; apply hK; clear hK K)
    refine SW.le hle ?_
    clear hle
    repeat' first
      | (refine SW.seq_k fun K hK => ?_)
      | (refine SW.block ?_)
      | ((first
      | refine SW.region ?_
      | refine SW.cond ?_
      | refine SW.skip ?_
      | refine SW.exit ?_
      | refine SW.ret ?_
      | (refine allF_i fun b hb => ?_; replace hD := And.intro hb hD; clear hb; simp only [fresh_cons, fresh_nil, and_true, ne_eq, neF] at hD)
      | simp only [appK, appOsK]); try simp only [go_sem, ↓reduceIte, reduceCtorEq, Nat.reduceAdd, Nat.reduceMul, Nat.reduceSub, Nat.reduceLT, Nat.reduceLeDiff, Nat.reduceEqDiff, Nat.reduceBEq, Nat.reduceBneDiff, Int.reduceToNat, Int.toNat_natCast, eq_self, decide_true, decide_false, Int.reduceEq, and_true, true_and, if_false_eq, if_true_eq, List.getElem?_cons_zero, List.getElem?_cons_succ, setAll, List.length_cons, List.length_nil, List.length_set, List.getD_cons_zero, List.getD_cons_succ, Nat.le_refl, Int.le_refl, Nat.beq_refl, or_self, true_or, or_true, List.drop_zero, hD])
      | (refine And.intro (by omega) ?_)
      | (refine ifI (fun hc => ?_) (fun hc => ?_) <;> first | (exfalso; omega) | skip)
      | (first | (apply hK; clear hK K) | (clear hK K; apply hK; clear hK K) | (clear hK K; clear hK K; apply hK; clear hK K) | (clear hK K; clear hK K; clear hK K; apply hK; clear hK K) | (clear hK K; clear hK K; clear hK K; clear hK K; apply hK; clear hK K) | (clear hK K; clear hK K; clear hK K; clear hK K; clear hK K; apply hK; clear hK K))
      | fail
    obtain ⟨I, hI⟩ : ∃ I : Nat → St → Prop, ∀ k S, I k S ↔ (∃ x : Nat, x < 340282366920938463463374607431768211456 ∧ k ≤ 170141183460469231731687303715884105728 ∧ (k = 0 → x = Nat.gcd n d) ∧ Nat.gcd x k = Nat.gcd n d ∧
      S = ⟨[(0, SB neg), (4, .op bn 0), (5, .op bd 0), (6, .op br 0), (8, .op b8 0), (9, .op b9 0)], [(b8, .svs [U64 (x / 18446744073709551616 : Nat), U64 (x % 18446744073709551616 : Nat)]), (b9, .svs [U64 (k / 18446744073709551616 : Nat), U64 (k % 18446744073709551616 : Nat)]), (bn, .svs [U64 (n / 18446744073709551616 : Nat), U64 (n % 18446744073709551616 : Nat)]), (bd, .svs [U64 (d / 18446744073709551616 : Nat), U64 (d % 18446744073709551616 : Nat)]), (br, .svs [I64 0, I64 0])]⟩) := ⟨fun n S => _, fun _ _ => Iff.rfl⟩
    refine SW.loop' I d ((hI _ _).2 ⟨n, hn, hd1, fun h => by omega, rfl, rfl⟩) (by repeat' (first | exact rfl | exact trivial | exact int_eq (by omega) | exact int_eq (by (rw [i64_wrap] <;> omega)) | constructor)) ?_
    intro k S hIn
    obtain ⟨x, hx, hk, hx0, hg, rfl⟩ := (hI _ _).1 hIn
    clear hIn
    have hz := zero_r k (by omega)
    by_cases hk0 : k = 0
    · subst hk0
      obtain rfl := hx0 rfl
      have hgp : 0 < Nat.gcd n d := Nat.gcd_pos_of_pos_right _ hd0
      have hgle : Nat.gcd n d ≤ 170141183460469231731687303715884105728 := Nat.le_trans (Nat.gcd_le_right _ hd0) hd1
      have hbr : bldR neg n d = ofR neg (n / Nat.gcd n d) (d / Nat.gcd n d) := rfl
      clear hg hx0
      generalize Nat.gcd n d = g at *
      have hnd := Nat.div_le_self n g
      have hdd := Nat.div_le_self d g
      have hp1 := parts_r n g hn hgp hgle
      have hp2 := parts_r d g (by omega) hgp hgle
      have hl1 : PCall Tryd.prog 42 [.agg [U64 0, U64 9223372036854775807], Wd (n / g)] (SB (decide (9223372036854775807 < n / g))) := less_r 9223372036854775807 (n / g) (by decide) (by omega)
      have hl2 : PCall Tryd.prog 42 [.agg [U64 0, U64 9223372036854775807], Wd (d / g)] (SB (decide (9223372036854775807 < d / g))) := less_r 9223372036854775807 (d / g) (by decide) (by omega)
      generalize n / g = a at *
      generalize d / g = c at *
      repeat' first
        | (refine SW.seq_k fun K hK => ?_)
        | (refine SW.block ?_)
        | ((first
      | refine SW.region ?_
      | refine SW.regionD (Checked.mixed Tryd.checked) (by kernel_rfl) ?_
      | refine SW.cond ?_
      | refine SW.skip ?_
      | refine SW.exit ?_
      | refine SW.ret ?_
      | refine Call.of_pure (hz) ?_
      | refine ⟨_, hz, ?_⟩
      | refine Call.of_pure (hp1) ?_
      | refine ⟨_, hp1, ?_⟩
      | refine Call.of_pure (hp2) ?_
      | refine ⟨_, hp2, ?_⟩
      | refine Call.of_pure (hl1) ?_
      | refine ⟨_, hl1, ?_⟩
      | refine Call.of_pure (hl2) ?_
      | refine ⟨_, hl2, ?_⟩
      | (refine allF_i fun b hb => ?_; replace hD := And.intro hb hD; clear hb; simp only [fresh_cons, fresh_nil, and_true, ne_eq, neF] at hD)
      | simp only [appK, appOsK]); try simp only [go_sem, ↓reduceIte, reduceCtorEq, Nat.reduceAdd, Nat.reduceMul, Nat.reduceSub, Nat.reduceLT, Nat.reduceLeDiff, Nat.reduceEqDiff, Nat.reduceBEq, Nat.reduceBneDiff, Int.reduceToNat, Int.toNat_natCast, eq_self, decide_true, decide_false, Int.reduceEq, and_true, true_and, if_false_eq, if_true_eq, List.getElem?_cons_zero, List.getElem?_cons_succ, setAll, List.length_cons, List.length_nil, List.length_set, List.getD_cons_zero, List.getD_cons_succ, Nat.le_refl, Int.le_refl, Nat.beq_refl, or_self, true_or, or_true, List.drop_zero, hD])
        | (refine And.intro (by omega) ?_)
        | (refine ifI (fun hc => ?_) (fun hc => ?_) <;> first | (exfalso; omega) | skip)
        | (first | (apply hK; clear hK K) | (clear hK K; apply hK; clear hK K) | (clear hK K; clear hK K; apply hK; clear hK K) | (clear hK K; clear hK K; clear hK K; apply hK; clear hK K) | (clear hK K; clear hK K; clear hK K; clear hK K; apply hK; clear hK K) | (clear hK K; clear hK K; clear hK K; clear hK K; clear hK K; apply hK; clear hK K))
        | fail
      · apply ret_cell (i := 6) (n := 2); exact rfl; (simp only [go_sem, ↓reduceIte, reduceCtorEq, Nat.reduceAdd, Nat.reduceMul, Nat.reduceSub, Nat.reduceLT, Nat.reduceLeDiff, Nat.reduceEqDiff, Nat.reduceBEq, Nat.reduceBneDiff, Int.reduceToNat, Int.toNat_natCast, eq_self, decide_true, decide_false, Int.reduceEq, and_true, true_and, if_false_eq, if_true_eq, List.getElem?_cons_zero, List.getElem?_cons_succ, setAll, List.length_cons, List.length_nil, List.length_set, List.getD_cons_zero, List.getD_cons_succ, Nat.le_refl, Int.le_refl, Nat.beq_refl, or_self, true_or, or_true, List.drop_zero, hD]; try rfl); (first | exact Nat.le_refl _ | decide); simp only [resL_tmp, resL_cellE, resC_ok, resL_nil, tupOf, getN, go_sem, ↓reduceIte, reduceCtorEq, Nat.reduceAdd, Nat.reduceMul, Nat.reduceSub, Nat.reduceLT, Nat.reduceLeDiff, Nat.reduceEqDiff, Nat.reduceBEq, Nat.reduceBneDiff, Int.reduceToNat, Int.toNat_natCast, eq_self, decide_true, decide_false, Int.reduceEq, and_true, true_and, if_false_eq, if_true_eq, List.getElem?_cons_zero, List.getElem?_cons_succ, setAll, List.length_cons, List.length_nil, List.length_set, List.getD_cons_zero, List.getD_cons_succ, Nat.le_refl, Int.le_refl, Nat.beq_refl, or_self, true_or, or_true, List.drop_zero, hD]
        rw [hbr, ofR, if_neg (by omega)]
      · apply ret_cell (i := 6) (n := 2); exact rfl; (simp only [go_sem, ↓reduceIte, reduceCtorEq, Nat.reduceAdd, Nat.reduceMul, Nat.reduceSub, Nat.reduceLT, Nat.reduceLeDiff, Nat.reduceEqDiff, Nat.reduceBEq, Nat.reduceBneDiff, Int.reduceToNat, Int.toNat_natCast, eq_self, decide_true, decide_false, Int.reduceEq, and_true, true_and, if_false_eq, if_true_eq, List.getElem?_cons_zero, List.getElem?_cons_succ, setAll, List.length_cons, List.length_nil, List.length_set, List.getD_cons_zero, List.getD_cons_succ, Nat.le_refl, Int.le_refl, Nat.beq_refl, or_self, true_or, or_true, List.drop_zero, hD]; try rfl); (first | exact Nat.le_refl _ | decide); simp only [resL_tmp, resL_cellE, resC_ok, resL_nil, tupOf, getN, go_sem, ↓reduceIte, reduceCtorEq, Nat.reduceAdd, Nat.reduceMul, Nat.reduceSub, Nat.reduceLT, Nat.reduceLeDiff, Nat.reduceEqDiff, Nat.reduceBEq, Nat.reduceBneDiff, Int.reduceToNat, Int.toNat_natCast, eq_self, decide_true, decide_false, Int.reduceEq, and_true, true_and, if_false_eq, if_true_eq, List.getElem?_cons_zero, List.getElem?_cons_succ, setAll, List.length_cons, List.length_nil, List.length_set, List.getD_cons_zero, List.getD_cons_succ, Nat.le_refl, Int.le_refl, Nat.beq_refl, or_self, true_or, or_true, List.drop_zero, hD]
        rw [hbr, ofR, if_neg (by omega)]
      · have ea : IntKind.i64.wrap ((a % 18446744073709551616 : Nat) : Int) = (a : Int) := by rw [i64_wrap] <;> omega
        have ec : IntKind.i64.wrap ((c % 18446744073709551616 : Nat) : Int) = (c : Int) := by rw [i64_wrap] <;> omega
        have en : IntKind.i64.wrap (0 - (a : Int)) = -(a : Int) := by rw [i64_wrap] <;> omega
        apply ret_cell (i := 6) (n := 2); exact rfl; (simp only [go_sem, ↓reduceIte, reduceCtorEq, Nat.reduceAdd, Nat.reduceMul, Nat.reduceSub, Nat.reduceLT, Nat.reduceLeDiff, Nat.reduceEqDiff, Nat.reduceBEq, Nat.reduceBneDiff, Int.reduceToNat, Int.toNat_natCast, eq_self, decide_true, decide_false, Int.reduceEq, and_true, true_and, if_false_eq, if_true_eq, List.getElem?_cons_zero, List.getElem?_cons_succ, setAll, List.length_cons, List.length_nil, List.length_set, List.getD_cons_zero, List.getD_cons_succ, Nat.le_refl, Int.le_refl, Nat.beq_refl, or_self, true_or, or_true, List.drop_zero, hD]; try rfl); (first | exact Nat.le_refl _ | decide); simp only [resL_tmp, resL_cellE, resC_ok, resL_nil, tupOf, getN, go_sem, ↓reduceIte, reduceCtorEq, Nat.reduceAdd, Nat.reduceMul, Nat.reduceSub, Nat.reduceLT, Nat.reduceLeDiff, Nat.reduceEqDiff, Nat.reduceBEq, Nat.reduceBneDiff, Int.reduceToNat, Int.toNat_natCast, eq_self, decide_true, decide_false, Int.reduceEq, and_true, true_and, if_false_eq, if_true_eq, List.getElem?_cons_zero, List.getElem?_cons_succ, setAll, List.length_cons, List.length_nil, List.length_set, List.getD_cons_zero, List.getD_cons_succ, Nat.le_refl, Int.le_refl, Nat.beq_refl, or_self, true_or, or_true, List.drop_zero, hD]
        rw [hbr, ofR, if_pos (by omega), if_pos (by assumption), ea, ec, en]
      · have ea : IntKind.i64.wrap ((a % 18446744073709551616 : Nat) : Int) = (a : Int) := by rw [i64_wrap] <;> omega
        have ec : IntKind.i64.wrap ((c % 18446744073709551616 : Nat) : Int) = (c : Int) := by rw [i64_wrap] <;> omega
        apply ret_cell (i := 6) (n := 2); exact rfl; (simp only [go_sem, ↓reduceIte, reduceCtorEq, Nat.reduceAdd, Nat.reduceMul, Nat.reduceSub, Nat.reduceLT, Nat.reduceLeDiff, Nat.reduceEqDiff, Nat.reduceBEq, Nat.reduceBneDiff, Int.reduceToNat, Int.toNat_natCast, eq_self, decide_true, decide_false, Int.reduceEq, and_true, true_and, if_false_eq, if_true_eq, List.getElem?_cons_zero, List.getElem?_cons_succ, setAll, List.length_cons, List.length_nil, List.length_set, List.getD_cons_zero, List.getD_cons_succ, Nat.le_refl, Int.le_refl, Nat.beq_refl, or_self, true_or, or_true, List.drop_zero, hD]; try rfl); (first | exact Nat.le_refl _ | decide); simp only [resL_tmp, resL_cellE, resC_ok, resL_nil, tupOf, getN, go_sem, ↓reduceIte, reduceCtorEq, Nat.reduceAdd, Nat.reduceMul, Nat.reduceSub, Nat.reduceLT, Nat.reduceLeDiff, Nat.reduceEqDiff, Nat.reduceBEq, Nat.reduceBneDiff, Int.reduceToNat, Int.toNat_natCast, eq_self, decide_true, decide_false, Int.reduceEq, and_true, true_and, if_false_eq, if_true_eq, List.getElem?_cons_zero, List.getElem?_cons_succ, setAll, List.length_cons, List.length_nil, List.length_set, List.getD_cons_zero, List.getD_cons_succ, Nat.le_refl, Int.le_refl, Nat.beq_refl, or_self, true_or, or_true, List.drop_zero, hD]
        rw [hbr, ofR, if_pos (by omega), if_neg (by assumption), ea, ec]
    · have hp := parts_r x k hx (by omega) hk
      have hml : x % k < k := Nat.mod_lt _ (by omega)
      have hgs : Nat.gcd k (x % k) = Nat.gcd n d := by rw [← hg, Nat.gcd_comm, ← Nat.gcd_rec, Nat.gcd_comm]
      repeat' first
        | (refine SW.seq_k fun K hK => ?_)
        | (refine SW.block ?_)
        | ((first
      | refine SW.region ?_
      | refine SW.cond ?_
      | refine SW.skip ?_
      | refine SW.exit ?_
      | refine SW.ret ?_
      | refine Call.of_pure (hz) ?_
      | refine ⟨_, hz, ?_⟩
      | refine Call.of_pure (hp) ?_
      | refine ⟨_, hp, ?_⟩
      | (refine allF_i fun b hb => ?_; replace hD := And.intro hb hD; clear hb; simp only [fresh_cons, fresh_nil, and_true, ne_eq, neF] at hD)
      | simp only [appK, appOsK]); try simp only [go_sem, ↓reduceIte, reduceCtorEq, Nat.reduceAdd, Nat.reduceMul, Nat.reduceSub, Nat.reduceLT, Nat.reduceLeDiff, Nat.reduceEqDiff, Nat.reduceBEq, Nat.reduceBneDiff, Int.reduceToNat, Int.toNat_natCast, eq_self, decide_true, decide_false, Int.reduceEq, and_true, true_and, if_false_eq, if_true_eq, List.getElem?_cons_zero, List.getElem?_cons_succ, setAll, List.length_cons, List.length_nil, List.length_set, List.getD_cons_zero, List.getD_cons_succ, Nat.le_refl, Int.le_refl, Nat.beq_refl, or_self, true_or, or_true, List.drop_zero, hD])
        | (refine And.intro (by omega) ?_)
        | (refine ifI (fun hc => ?_) (fun hc => ?_) <;> first | (exfalso; omega) | skip)
        | (first | (apply hK; clear hK K) | (clear hK K; apply hK; clear hK K) | (clear hK K; clear hK K; apply hK; clear hK K) | (clear hK K; clear hK K; clear hK K; apply hK; clear hK K) | (clear hK K; clear hK K; clear hK K; clear hK K; apply hK; clear hK K) | (clear hK K; clear hK K; clear hK K; clear hK K; clear hK K; apply hK; clear hK K))
        | fail
      refine SW.regionT (Checked.mixed Tryd.checked) ((.alt 0 (.alt 1 (.alt 2 (.alt 3 .done .nil) .nil) (.alt 2 (.alt 1 (.alt 3 .done .nil) .nil) .nil)) (.alt 1 (.alt 0 (.alt 2 (.alt 3 .done .nil) .nil) .nil) .nil)) : OT) (by kernel_rfl) ?_; simp only [go_sem, ↓reduceIte, reduceCtorEq, Nat.reduceAdd, Nat.reduceMul, Nat.reduceSub, Nat.reduceLT, Nat.reduceLeDiff, Nat.reduceEqDiff, Nat.reduceBEq, Nat.reduceBneDiff, Int.reduceToNat, Int.toNat_natCast, eq_self, decide_true, decide_false, Int.reduceEq, and_true, true_and, if_false_eq, if_true_eq, List.getElem?_cons_zero, List.getElem?_cons_succ, setAll, List.length_cons, List.length_nil, List.length_set, List.getD_cons_zero, List.getD_cons_succ, Nat.le_refl, Int.le_refl, Nat.beq_refl, or_self, true_or, or_true, List.drop_zero, hD]
      refine ⟨⟨?_, ?_⟩, ?_⟩
      all_goals
        repeat' first
          | (refine SW.seq_k fun K hK => ?_)
          | (refine SW.block ?_)
          | ((first
      | refine SW.region ?_
      | refine SW.regionD (Checked.mixed Tryd.checked) (by kernel_rfl) ?_
      | refine SW.cond ?_
      | refine SW.skip ?_
      | refine SW.exit ?_
      | refine SW.ret ?_
      | (refine allF_i fun b hb => ?_; replace hD := And.intro hb hD; clear hb; simp only [fresh_cons, fresh_nil, and_true, ne_eq, neF] at hD)
      | simp only [appK, appOsK]); try simp only [go_sem, ↓reduceIte, reduceCtorEq, Nat.reduceAdd, Nat.reduceMul, Nat.reduceSub, Nat.reduceLT, Nat.reduceLeDiff, Nat.reduceEqDiff, Nat.reduceBEq, Nat.reduceBneDiff, Int.reduceToNat, Int.toNat_natCast, eq_self, decide_true, decide_false, Int.reduceEq, and_true, true_and, if_false_eq, if_true_eq, List.getElem?_cons_zero, List.getElem?_cons_succ, setAll, List.length_cons, List.length_nil, List.length_set, List.getD_cons_zero, List.getD_cons_succ, Nat.le_refl, Int.le_refl, Nat.beq_refl, or_self, true_or, or_true, List.drop_zero, hD])
          | (refine And.intro (by omega) ?_)
          | (refine ifI (fun hc => ?_) (fun hc => ?_) <;> first | (exfalso; omega) | skip)
          | (first | (apply hK; clear hK K) | (clear hK K; apply hK; clear hK K) | (clear hK K; clear hK K; apply hK; clear hK K) | (clear hK K; clear hK K; clear hK K; apply hK; clear hK K) | (clear hK K; clear hK K; clear hK K; clear hK K; apply hK; clear hK K) | (clear hK K; clear hK K; clear hK K; clear hK K; clear hK K; apply hK; clear hK K))
          | fail
        refine Rnd.le (le_find5 (l := [(0, SB neg), (4, .op bn 0), (5, .op bd 0), (6, .op br 0), (8, .op b8 0), (9, .op b9 0)]) (by repeat' (first | exact rfl | exact trivial | exact int_eq (by omega) | exact int_eq (by (rw [i64_wrap] <;> omega)) | constructor)) (a := b8) (b := b9) (c := bn) (d := bd) (e := br) (by simp only [go_sem, ↓reduceIte, reduceCtorEq, Nat.reduceAdd, Nat.reduceMul, Nat.reduceSub, Nat.reduceLT, Nat.reduceLeDiff, Nat.reduceEqDiff, Nat.reduceBEq, Nat.reduceBneDiff, Int.reduceToNat, Int.toNat_natCast, eq_self, decide_true, decide_false, Int.reduceEq, and_true, true_and, if_false_eq, if_true_eq, List.getElem?_cons_zero, List.getElem?_cons_succ, setAll, List.length_cons, List.length_nil, List.length_set, List.getD_cons_zero, List.getD_cons_succ, Nat.le_refl, Int.le_refl, Nat.beq_refl, or_self, true_or, or_true, List.drop_zero, hD]; rfl) (by simp only [go_sem, ↓reduceIte, reduceCtorEq, Nat.reduceAdd, Nat.reduceMul, Nat.reduceSub, Nat.reduceLT, Nat.reduceLeDiff, Nat.reduceEqDiff, Nat.reduceBEq, Nat.reduceBneDiff, Int.reduceToNat, Int.toNat_natCast, eq_self, decide_true, decide_false, Int.reduceEq, and_true, true_and, if_false_eq, if_true_eq, List.getElem?_cons_zero, List.getElem?_cons_succ, setAll, List.length_cons, List.length_nil, List.length_set, List.getD_cons_zero, List.getD_cons_succ, Nat.le_refl, Int.le_refl, Nat.beq_refl, or_self, true_or, or_true, List.drop_zero, hD]; rfl) (by simp only [go_sem, ↓reduceIte, reduceCtorEq, Nat.reduceAdd, Nat.reduceMul, Nat.reduceSub, Nat.reduceLT, Nat.reduceLeDiff, Nat.reduceEqDiff, Nat.reduceBEq, Nat.reduceBneDiff, Int.reduceToNat, Int.toNat_natCast, eq_self, decide_true, decide_false, Int.reduceEq, and_true, true_and, if_false_eq, if_true_eq, List.getElem?_cons_zero, List.getElem?_cons_succ, setAll, List.length_cons, List.length_nil, List.length_set, List.getD_cons_zero, List.getD_cons_succ, Nat.le_refl, Int.le_refl, Nat.beq_refl, or_self, true_or, or_true, List.drop_zero, hD]; rfl) (by simp only [go_sem, ↓reduceIte, reduceCtorEq, Nat.reduceAdd, Nat.reduceMul, Nat.reduceSub, Nat.reduceLT, Nat.reduceLeDiff, Nat.reduceEqDiff, Nat.reduceBEq, Nat.reduceBneDiff, Int.reduceToNat, Int.toNat_natCast, eq_self, decide_true, decide_false, Int.reduceEq, and_true, true_and, if_false_eq, if_true_eq, List.getElem?_cons_zero, List.getElem?_cons_succ, setAll, List.length_cons, List.length_nil, List.length_set, List.getD_cons_zero, List.getD_cons_succ, Nat.le_refl, Int.le_refl, Nat.beq_refl, or_self, true_or, or_true, List.drop_zero, hD]; rfl) (by simp only [go_sem, ↓reduceIte, reduceCtorEq, Nat.reduceAdd, Nat.reduceMul, Nat.reduceSub, Nat.reduceLT, Nat.reduceLeDiff, Nat.reduceEqDiff, Nat.reduceBEq, Nat.reduceBneDiff, Int.reduceToNat, Int.toNat_natCast, eq_self, decide_true, decide_false, Int.reduceEq, and_true, true_and, if_false_eq, if_true_eq, List.getElem?_cons_zero, List.getElem?_cons_succ, setAll, List.length_cons, List.length_nil, List.length_set, List.getD_cons_zero, List.getD_cons_succ, Nat.le_refl, Int.le_refl, Nat.beq_refl, or_self, true_or, or_true, List.drop_zero, hD]; rfl) (Ds5.nodup (by unfold Ds5; simp only [go_sem, ↓reduceIte, reduceCtorEq, Nat.reduceAdd, Nat.reduceMul, Nat.reduceSub, Nat.reduceLT, Nat.reduceLeDiff, Nat.reduceEqDiff, Nat.reduceBEq, Nat.reduceBneDiff, Int.reduceToNat, Int.toNat_natCast, eq_self, decide_true, decide_false, Int.reduceEq, and_true, true_and, if_false_eq, if_true_eq, List.getElem?_cons_zero, List.getElem?_cons_succ, setAll, List.length_cons, List.length_nil, List.length_set, List.getD_cons_zero, List.getD_cons_succ, Nat.le_refl, Int.le_refl, Nat.beq_refl, or_self, true_or, or_true, List.drop_zero, hD]))) ?_
        exact Rnd.sub (x % k) hml ((hI _ _).2 ⟨k, by omega, by omega, fun h => by rw [h, Nat.gcd_zero_right] at hgs; exact hgs, hgs, rfl⟩) (by repeat' (first | exact rfl | exact trivial | exact int_eq (by omega) | exact int_eq (by (rw [i64_wrap] <;> omega)) | constructor))
end Go.Proofs.YtcbgkcjlechdnaaDoor
