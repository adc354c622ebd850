/- The law: white space and comments between tokens. -/
import Derived.Test.YtajbifibhgppfaaDoorC8
set_option linter.unusedSimpArgs false
set_option linter.unusedVariables false
set_option linter.unusedSectionVars false
namespace Go.Proofs.YtajbifibhgppfaaDoor
open Go Go.Ab Go.Ab.A01 Go.Ab.A05
theorem fun_u8 {l : List Int} (h : ∀ a ∈ l, fits .u8 a) : ∀ x ∈ l, 0 ≤ x ∧ x ≤ 255 := fun x hx => by
  have h1 := h x hx
  unfold fits Lit.wf at h1
  simp only [Bool.and_eq_true, decide_eq_true_eq] at h1
  exact h1
variable [Gl] [Tabs] [Syms]
/-- Which of the strings stands behind token i. -/
def spK (sp : List Int) (i : Nat) : Nat := if 0 < sp.length then ((sp.getD (i % sp.length) 0) % 5).toNat else 0
def spF (sp : List Int) (i : Nat) : List UInt8 := spSet.getD (spK sp i) []
theorem spK_lt (sp : List Int) (i : Nat) : spK sp i < 5 := by
  unfold spK
  split <;> omega
theorem spF_in (sp : List Int) (i : Nat) : spF sp i ∈ spSet := by
  unfold spF
  have h := spK_lt sp i
  have e : spSet.length = 5 := rfl
  rw [List.getD_eq_getElem?_getD, List.getElem?_eq_getElem (by rw [e]; exact h)]
  exact List.getElem_mem _
theorem spF_len (sp : List Int) (i : Nat) : (spF sp i).length ≤ 5 ∧ 1 ≤ (spF sp i).length := by
  have : ∀ z ∈ spSet, z.length ≤ 5 ∧ 1 ≤ z.length := by decide
  exact this _ (spF_in sp i)

theorem BH.drop {b : Nat} {l : List UInt8} {h h0 : Heap} (hB : BH b l h h0) : ∃ h3, BH b l h3 [] ∧ ∀ t : List (Nat × SV), (St.mk t h).le ⟨t, h3⟩ := by
  rcases hB with ⟨rfl, rfl⟩ | ⟨hl, g, blk, hf, hg, hc, rfl⟩
  · exact ⟨_, .inl ⟨rfl, rfl⟩, fun t => St.le_sublist (fun x hx => by rw [List.mem_singleton] at hx; rw [hx]; exact List.mem_cons_self) (fun hn => by simp)⟩
  · refine ⟨_, .inr ⟨hl, g, blk, trivial, hg, hc, rfl⟩, fun t => St.le_sublist (fun x hx => ?_) (fun hn => by simp [Ne.symm hg])⟩
    simp only [List.mem_cons, List.not_mem_nil, or_false] at hx ⊢
    rcases hx with rfl | rfl
    · exact .inl rfl
    · exact .inr (.inl rfl)
theorem BH.ne {b x : Nat} {l : List UInt8} {h h0 : Heap} (hB : BH b l h h0) (hx : fresh h x) : x ≠ b ∧ b ≠ x := by
  rcases hB with ⟨rfl, rfl⟩ | ⟨hl, g, blk, hf, hg, hc, rfl⟩
  · exact ⟨hx.1.2, hx.1.1⟩
  · exact ⟨hx.1.2, hx.1.1⟩
theorem sp_get (sp : List Int) (i : Nat) : ([.sc (.string ⟨#[32]⟩), .sc (.string ⟨#[10]⟩), .sc (.string ⟨#[9, 32]⟩), .sc (.string ⟨#[35, 32, 34, 120, 10]⟩), .sc (.string ⟨#[10, 35, 10]⟩)] : List SV).getD (spK sp i) .any = Str (mkB (spF sp i)) := by
  unfold spF
  have h := spK_lt sp i
  generalize spK sp i = k at *
  match k, h with
  | 0, _ => rfl
  | 1, _ => rfl
  | 2, _ => rfl
  | 3, _ => rfl
  | 4, _ => rfl

set_option maxHeartbeats 4000000 in
set_option maxRecDepth 20000 in
theorem law_space (l : List Tok) (hl : l.length ≤ 9223372036854775807) (sp : List Int) (hsp : ∀ x ∈ sp, 0 ≤ x ∧ x ≤ 255) (hsl : sp.length ≤ 9223372036854775807) : PCall Tryd.prog 4 [TS l, ints .u8 sp] (SB true) := by
  have aw := awake_c
  have sh := short_r l 30 hl
  cases q1 : shortS l 30 with
  | false =>
    rw [q1] at sh
    refine Call.enter' (N := 71) (rs := [.tmp 4]) Tryd.func4 rfl rfl rfl (by decide) rfl ?_; simp only [argT]; have hD : (0 : Nat) = 0 := rfl
    repeat' first | (with_reducible refine And.intro (by omega) ?_) | (refine SW.seq_k fun K hK => ?_) | (refine SW.block ?_) | ((first | refine SW.region ?_ | refine SW.regionD (Checked.mixed Tryd.checked) (by kernel_rfl) ?_ | refine SW.cond ?_ | refine SW.skip ?_ | refine SW.exit ?_ | refine SW.ret ?_ | refine Call.of_pure (aw) ?_ | refine ⟨_, aw, ?_⟩ | refine Call.of_pure (sh) ?_ | refine ⟨_, sh, ?_⟩ | (refine allF_i fun b hb => ?_; replace hD := And.intro hb hD; clear hb; try simp only [fresh_cons, fresh_nil, and_true, ne_eq, neF] at hD) | simp only [appK, appOsK]); try simp only [go_sem, ↓reduceIte, reduceCtorEq, Nat.reduceAdd, Nat.reduceMul, Nat.reduceSub, Nat.reduceLT, Nat.reduceLeDiff, Nat.reduceEqDiff, Nat.reduceBEq, Nat.reduceBneDiff, Int.reduceToNat, Int.reduceEq, hD, true_implies]) | (refine And.intro (by omega) ?_) | (refine ifI (fun hc => ?_) (fun hc => ?_) <;> first | (exfalso; omega) | skip) | (first | (apply hK; clear hK K) | ((iterate 1 (clear hK K)); apply hK; clear hK K) | ((iterate 2 (clear hK K)); apply hK; clear hK K) | ((iterate 3 (clear hK K)); apply hK; clear hK K) | ((iterate 4 (clear hK K)); apply hK; clear hK K) | ((iterate 5 (clear hK K)); apply hK; clear hK K))
    refine ret_pure ?_; simp only [resL_tmp, resL_nil, tupOf, go_sem, ↓reduceIte, reduceCtorEq, Nat.reduceAdd, Nat.reduceMul, Nat.reduceSub, Nat.reduceLT, Nat.reduceLeDiff, Nat.reduceEqDiff, Nat.reduceBEq, Nat.reduceBneDiff, Int.reduceToNat, Int.reduceEq, hD]
  | true =>
    rw [q1] at sh
    by_cases h2 : 100 < sp.length
    · have h2i : (100 : Int) < ((sp.length : Nat) : Int) := by omega
      refine Call.enter' (N := 71) (rs := [.tmp 4]) Tryd.func4 rfl rfl rfl (by decide) rfl ?_; simp only [argT]; have hD : (0 : Nat) = 0 := rfl
      repeat' first | (with_reducible refine And.intro (by omega) ?_) | (refine SW.seq_k fun K hK => ?_) | (refine SW.block ?_) | ((first | refine SW.region ?_ | refine SW.regionD (Checked.mixed Tryd.checked) (by kernel_rfl) ?_ | refine SW.cond ?_ | refine SW.skip ?_ | refine SW.exit ?_ | refine SW.ret ?_ | refine Call.of_pure (aw) ?_ | refine ⟨_, aw, ?_⟩ | refine Call.of_pure (sh) ?_ | refine ⟨_, sh, ?_⟩ | (refine allF_i fun b hb => ?_; replace hD := And.intro hb hD; clear hb; try simp only [fresh_cons, fresh_nil, and_true, ne_eq, neF] at hD) | simp only [appK, appOsK]); try simp only [go_sem, ↓reduceIte, reduceCtorEq, Nat.reduceAdd, Nat.reduceMul, Nat.reduceSub, Nat.reduceLT, Nat.reduceLeDiff, Nat.reduceEqDiff, Nat.reduceBEq, Nat.reduceBneDiff, Int.reduceToNat, Int.reduceEq, hD, h2i]) | (refine And.intro (by omega) ?_) | (refine ifI (fun hc => ?_) (fun hc => ?_) <;> first | (exfalso; omega) | skip) | (first | (apply hK; clear hK K) | ((iterate 1 (clear hK K)); apply hK; clear hK K) | ((iterate 2 (clear hK K)); apply hK; clear hK K) | ((iterate 3 (clear hK K)); apply hK; clear hK K) | ((iterate 4 (clear hK K)); apply hK; clear hK K) | ((iterate 5 (clear hK K)); apply hK; clear hK K))
      refine ret_pure ?_; simp only [resL_tmp, resL_nil, tupOf, go_sem, ↓reduceIte, reduceCtorEq, Nat.reduceAdd, Nat.reduceMul, Nat.reduceSub, Nat.reduceLT, Nat.reduceLeDiff, Nat.reduceEqDiff, Nat.reduceBEq, Nat.reduceBneDiff, Int.reduceToNat, Int.reduceEq, hD]
    · have h2i : ¬ (100 : Int) < ((sp.length : Nat) : Int) := by omega
      unfold shortS at q1
      rw [Bool.and_eq_true, decide_eq_true_eq, List.all_eq_true] at q1
      have hsz : ∀ t ∈ l, t.text.size ≤ 1000 ∧ t.val.2.2.size ≤ 1000 := fun t ht => by
        have := q1.2 t ht
        unfold shortT at this
        rw [Bool.and_eq_true, decide_eq_true_eq, decide_eq_true_eq] at this
        exact this
      have pl := plain_r l (by omega) (fun t ht => by have := (hsz t ht).1; omega)
      have hP := plain_Pl l
      have hPl := plain_len l
      generalize hL : plainS l = L at *
      refine Call.enter' (N := 71) (rs := [.tmp 4]) Tryd.func4 rfl rfl rfl (by decide) rfl ?_; simp only [argT]; have hD : (0 : Nat) = 0 := rfl
      repeat' first | (with_reducible refine And.intro (by omega) ?_) | (refine SW.seq_k fun K hK => ?_) | (refine SW.block ?_) | ((first | refine SW.region ?_ | refine SW.regionD (Checked.mixed Tryd.checked) (by kernel_rfl) ?_ | refine SW.cond ?_ | refine SW.skip ?_ | refine SW.exit ?_ | refine SW.ret ?_ | refine Call.of_pure (aw) ?_ | refine ⟨_, aw, ?_⟩ | refine Call.of_pure (sh) ?_ | refine ⟨_, sh, ?_⟩ | refine Call.of_pure (pl) ?_ | refine ⟨_, pl, ?_⟩ | (refine allF_i fun b hb => ?_; replace hD := And.intro hb hD; clear hb; try simp only [fresh_cons, fresh_nil, and_true, ne_eq, neF] at hD) | simp only [appK, appOsK]); try simp only [go_sem, ↓reduceIte, reduceCtorEq, Nat.reduceAdd, Nat.reduceMul, Nat.reduceSub, Nat.reduceLT, Nat.reduceLeDiff, Nat.reduceEqDiff, Nat.reduceBEq, Nat.reduceBneDiff, Int.reduceToNat, Int.reduceEq, hD, h2i]) | (refine And.intro (by omega) ?_) | (refine ifI (fun hc => ?_) (fun hc => ?_) <;> first | (exfalso; omega) | skip) | (first | (apply hK; clear hK K) | ((iterate 1 (clear hK K)); apply hK; clear hK K) | ((iterate 2 (clear hK K)); apply hK; clear hK K) | ((iterate 3 (clear hK K)); apply hK; clear hK K) | ((iterate 4 (clear hK K)); apply hK; clear hK K) | ((iterate 5 (clear hK K)); apply hK; clear hK K))
      obtain ⟨bb, hbb⟩ : ∃ x, x = b := ⟨_, rfl⟩
      subst hbb
      clear hD
      have hD : (0 : Nat) = 0 := rfl
      obtain ⟨R, hR⟩ : ∃ R, R = spL (spF sp) L 0 := ⟨_, rfl⟩
      have hC0 : R = [] ++ spL (spF sp) (L.drop 0) 0 := by rw [hR, List.drop_zero]; rfl
      obtain ⟨I, hI⟩ : ∃ I : Nat → St → Prop, ∀ k S, I k S ↔ (∃ (i : Nat) (acc : List UInt8) (h : Heap), k = L.length - i ∧ i ≤ L.length ∧ acc.length ≤ 1005 * i ∧ R = acc ++ spL (spF sp) (L.drop i) i ∧ BH bb acc h [] ∧
        S = ⟨[(1, ints .u8 sp), (5, BP bb), (0, TS L), (28, TS L), (29, I64 L.length), (30, I64 i)], h⟩) := ⟨fun k S => _, fun _ _ => Iff.rfl⟩
      refine SW.loop' I L.length ((hI _ _).2 ⟨0, [], _, rfl, Nat.zero_le _, Nat.zero_le _, hC0, .inl ⟨rfl, rfl⟩, rfl⟩) (by repeat' (first | exact rfl | exact trivial | exact int_eq (by omega) | exact int_eq (by (rw [i64_wrap] <;> omega)) | constructor)) ?_
      clear hC0
      intro k S hIn
      obtain ⟨i, acc, h, rfl, hi, hacc, hC, hB, rfl⟩ := (hI _ _).1 hIn
      clear hIn
      have ie : ((i : Nat) : Int).toNat = i := Int.toNat_natCast _
      have i0 : (0 : Int) ≤ ((i : Nat) : Int) := by omega
      by_cases hlt : i < L.length
      · have hli : ((i : Nat) : Int) < ((L.length : Nat) : Int) := by omega
        have w1 : IntKind.i64.wrap ((i : Int) + 1) = ((i + 1 : Nat) : Int) := by rw [i64_wrap (by omega) (by omega)]; omega
        have hg : L.getD i tok0 = L[i] := by simp [List.getD_eq_getElem?_getD, hlt]
        have hd : L.drop i = L.getD i tok0 :: L.drop (i + 1) := by rw [List.drop_eq_getElem_cons hlt, hg]
        have hm : L.getD i tok0 ∈ L := by rw [hg]; exact List.getElem_mem hlt
        obtain ⟨⟨hv, _⟩, u, hu, eu, _⟩ := hP _ hm
        have hf0 : fresh ([] : Heap) bb := trivial
        have hs1 : (L.getD i tok0).text.size ≤ 1000 := by rw [← eu]; exact (hsz u hu).1
        have hne := vTok_ne hv
        rw [hd] at hC
        obtain ⟨k, s, ⟨a, n, t⟩, ln, cl, ht⟩ : ∃ k s v ln cl, L.getD i tok0 = ⟨k, s, v, ln, cl⟩ := ⟨_, _, _, _, _, rfl⟩
        have tf : tokF L i = [I64 k, Str s, I64 a, I64 n, Str t, I64 ln, I64 cl] := by unfold tokF; rw [ht]; rfl
        rw [ht] at hC hs1 hne
        simp only at hs1 hne
        have hsl2 : s.data.toList.length = s.size := Array.length_toList
        have hls : acc.length + s.size ≤ 1000000 := by omega
        have hC2 : R = (acc ++ s.data.toList ++ spF sp i) ++ spL (spF sp) (L.drop (i + 1)) (i + 1) := by
          rw [hC]
          show acc ++ (s.data.toList ++ (spF sp i ++ spL (spF sp) (L.drop (i + 1)) (i + 1))) = _
          simp only [List.append_assoc]
        obtain ⟨f5, f1⟩ := spF_len sp i
        have hs2 : (mkB (spF sp i)).size = (spF sp i).length := mkB_size _
        have hls2 : (acc ++ s.data.toList).length + (mkB (spF sp i)).size ≤ 1000000 := by rw [List.length_append, hs2]; omega
        have hne2 : 1 ≤ (mkB (spF sp i)).size := by omega
        have kl := spK_lt sp i
        have k0 : (0 : Int) ≤ ((spK sp i : Nat) : Int) := by omega
        have k5 : ((spK sp i : Nat) : Int) < 5 := by omega
        have ke : ((spK sp i : Nat) : Int).toNat = spK sp i := Int.toNat_natCast _
        have sg := sp_get sp i
        have hla : (acc ++ s.data.toList ++ spF sp i).length ≤ 1005 * (i + 1) := by rw [List.length_append, List.length_append]; omega
        by_cases hs0 : 0 < sp.length
        · have hs0i : (0 : Int) < ((sp.length : Nat) : Int) := by omega
          have hs0n : ¬ ((sp.length : Nat) : Int) = 0 := by omega
          have c5 : ((5 : Nat) : Int) = 5 := rfl
          have r1 : ((i : Nat) : Int).tmod ((sp.length : Nat) : Int) = ((i % sp.length : Nat) : Int) := by
            rw [Int.tmod_eq_emod_of_nonneg i0]
            exact (Int.natCast_emod _ _).symm
          have r2 : i % sp.length < sp.length := Nat.mod_lt _ hs0
          have r3 : ((i % sp.length : Nat) : Int) < ((sp.length : Nat) : Int) := by omega
          have r4 : (0 : Int) ≤ ((i % sp.length : Nat) : Int) := by omega
          have r5 : ((i % sp.length : Nat) : Int).toNat = i % sp.length := Int.toNat_natCast _
          have hx := hsp (sp.getD (i % sp.length) 0) (by
            rw [show sp.getD (i % sp.length) 0 = sp[i % sp.length] by simp [List.getD_eq_getElem?_getD, r2]]
            exact List.getElem_mem r2)
          have kx : spK sp i = ((sp.getD (i % sp.length) 0) % 5).toNat := by unfold spK; rw [if_pos hs0]
          generalize hxe : sp.getD (i % sp.length) 0 = x at hx kx
          have r6 : IntKind.i64.wrap x = x := i64_wrap (by omega) (by omega)
          have r7 : x.tmod 5 = ((spK sp i : Nat) : Int) := by
            rw [Int.tmod_eq_emod_of_nonneg hx.1, kx]
            omega
          repeat' first | ((with_reducible refine Call.mono (wstr_x hB _ _ ?_ hf0 s hne hls) ?_); (first | exact hD | exact hD.1); intro r h' hx; obtain ⟨rfl, hB2⟩ := hx) | ((with_reducible refine Call.mono (wstr_x hB2 _ _ ?_ ?_ (mkB (spF sp i)) hne2 hls2) ?_); rotate_right; intro r h' hx; obtain ⟨rfl, hB3⟩ := hx) | (with_reducible refine And.intro (by omega) ?_) | (refine SW.seq_k fun K hK => ?_) | (refine SW.block ?_) | ((first | refine SW.region ?_ | refine SW.regionD (Checked.mixed Tryd.checked) (by kernel_rfl) ?_ | refine SW.cond ?_ | refine SW.skip ?_ | refine SW.exit ?_ | refine SW.ret ?_ | (refine allF_i fun b hb => ?_; replace hD := And.intro hb hD; clear hb; try simp only [fresh_cons, fresh_nil, and_true, ne_eq, neF] at hD) | simp only [appK, appOsK]); try simp only [go_sem, ↓reduceIte, reduceCtorEq, Nat.reduceAdd, Nat.reduceMul, Nat.reduceSub, Nat.reduceLT, Nat.reduceLeDiff, Nat.reduceEqDiff, Nat.reduceBEq, Nat.reduceBneDiff, Int.reduceToNat, Int.reduceEq, hD, hli, ie, i0, w1, tf, hs0i, hs0n, r1, r3, r4, r5, hxe, r6, r7, k0, k5, ke, kl, c5, sg]) | (refine And.intro (by omega) ?_) | (refine ifI (fun hc => ?_) (fun hc => ?_) <;> first | (exfalso; omega) | skip) | (first | (apply hK; clear hK K) | ((iterate 1 (clear hK K)); apply hK; clear hK K) | ((iterate 2 (clear hK K)); apply hK; clear hK K) | ((iterate 3 (clear hK K)); apply hK; clear hK K) | ((iterate 4 (clear hK K)); apply hK; clear hK K) | ((iterate 5 (clear hK K)); apply hK; clear hK K))
          · rw [mkB_L] at hB3
            obtain ⟨h3, hB4, hle⟩ := hB3.drop
            refine Rnd.le (hle _) ?_
            refine Rnd.sub (L.length - (i + 1)) (by omega) ((hI _ _).2 ⟨i + 1, _, h3, rfl, by omega, hla, hC2, hB4, rfl⟩) (by repeat' (first | exact rfl | exact trivial | exact int_eq (by omega) | exact int_eq (by (rw [i64_wrap] <;> omega)) | constructor))
          · exact hD.1
          · exact ⟨BH.ne hB hD.2, trivial⟩
        · have hs0i : ¬ (0 : Int) < ((sp.length : Nat) : Int) := by omega
          have e32 : spF sp i = [32] := by
            unfold spF spK
            rw [if_neg hs0]
            rfl
          rw [e32] at hC2 hla
          have hls3 : (acc ++ s.data.toList).length + (⟨#[32]⟩ : ByteArray).size ≤ 1000000 := by
            rw [List.length_append]
            show acc.length + s.data.toList.length + 1 ≤ 1000000
            omega
          have hne3 : 1 ≤ (⟨#[32]⟩ : ByteArray).size := by decide
          repeat' first | ((with_reducible refine Call.mono (wstr_x hB _ _ ?_ hf0 s hne hls) ?_); (first | exact hD | exact hD.1); intro r h' hx; obtain ⟨rfl, hB2⟩ := hx) | ((with_reducible refine Call.mono (wstr_x hB2 _ _ ?_ ?_ ⟨#[32]⟩ hne3 hls3) ?_); rotate_right; intro r h' hx; obtain ⟨rfl, hB3⟩ := hx) | (with_reducible refine And.intro (by omega) ?_) | (refine SW.seq_k fun K hK => ?_) | (refine SW.block ?_) | ((first | refine SW.region ?_ | refine SW.regionD (Checked.mixed Tryd.checked) (by kernel_rfl) ?_ | refine SW.cond ?_ | refine SW.skip ?_ | refine SW.exit ?_ | refine SW.ret ?_ | (refine allF_i fun b hb => ?_; replace hD := And.intro hb hD; clear hb; try simp only [fresh_cons, fresh_nil, and_true, ne_eq, neF] at hD) | simp only [appK, appOsK]); try simp only [go_sem, ↓reduceIte, reduceCtorEq, Nat.reduceAdd, Nat.reduceMul, Nat.reduceSub, Nat.reduceLT, Nat.reduceLeDiff, Nat.reduceEqDiff, Nat.reduceBEq, Nat.reduceBneDiff, Int.reduceToNat, Int.reduceEq, hD, hli, ie, i0, w1, tf, hs0i]) | (refine And.intro (by omega) ?_) | (refine ifI (fun hc => ?_) (fun hc => ?_) <;> first | (exfalso; omega) | skip) | (first | (apply hK; clear hK K) | ((iterate 1 (clear hK K)); apply hK; clear hK K) | ((iterate 2 (clear hK K)); apply hK; clear hK K) | ((iterate 3 (clear hK K)); apply hK; clear hK K) | ((iterate 4 (clear hK K)); apply hK; clear hK K) | ((iterate 5 (clear hK K)); apply hK; clear hK K))
          · obtain ⟨h3, hB4, hle⟩ := hB3.drop
            refine Rnd.le (hle _) ?_
            refine Rnd.sub (L.length - (i + 1)) (by omega) ((hI _ _).2 ⟨i + 1, _, h3, rfl, by omega, hla, hC2, hB4, rfl⟩) (by repeat' (first | exact rfl | exact trivial | exact int_eq (by omega) | exact int_eq (by (rw [i64_wrap] <;> omega)) | constructor))
          · exact hD.1
          · exact ⟨BH.ne hB hD.2, trivial⟩
      · have hli : ¬ ((i : Nat) : Int) < ((L.length : Nat) : Int) := by omega
        rw [List.drop_of_length_le (by omega)] at hC
        have hC2 : R = acc := by rw [hC]; exact List.append_nil _
        have hRl : R.length ≤ 31000 := by rw [hC2]; omega
        obtain ⟨T, t1, t2, t3⟩ := space_law (spF sp) (spF_in sp) L (fun t ht => (hP t ht).1) (by rw [← hR]; omega)
        obtain ⟨t4, t5⟩ := core_text t3
        rw [← hR] at t1
        have tp := tokens_p (mkB R) (by rw [mkB_size]; omega)
        rw [t1] at tp
        have pl2 := plain_r T (by omega) (fun t ht => by
          obtain ⟨u, hu, e⟩ := t5 t ht
          obtain ⟨_, v, hv, ev, _⟩ := hP u hu
          rw [← e, ← ev]
          have := (hsz v hv).1
          omega)
        rw [t2] at pl2
        have sm := same_r L (by omega)
        unfold tokR at tp
        simp only at tp
        rw [← hC2] at hB
        rcases hB with ⟨e, rfl⟩ | ⟨hacc0, g, blk, hf, hg, hc, rfl⟩
        · rw [e] at tp
          have tp2 : PCall Tryd.prog 10 [Str ⟨#[]⟩] (.tup [TS T, I64 ((0 : Nat) : Int), I64 ((0 : Nat) : Int), I64 0]) := tp
          repeat' first | ((with_reducible refine Call.mono (string_n bb _ _) ?_); intro r h' hx; obtain ⟨rfl, rfl⟩ := hx) | (with_reducible refine And.intro (by omega) ?_) | (refine SW.seq_k fun K hK => ?_) | (refine SW.block ?_) | ((first | refine SW.region ?_ | refine SW.regionD (Checked.mixed Tryd.checked) (by kernel_rfl) ?_ | refine SW.cond ?_ | refine SW.skip ?_ | refine SW.exit ?_ | refine SW.ret ?_ | refine Call.of_pure (tp2) ?_ | refine ⟨_, tp2, ?_⟩ | refine Call.of_pure (pl2) ?_ | refine ⟨_, pl2, ?_⟩ | refine Call.of_pure (sm) ?_ | refine ⟨_, sm, ?_⟩ | (refine allF_i fun b hb => ?_; replace hD := And.intro hb hD; clear hb; try simp only [fresh_cons, fresh_nil, and_true, ne_eq, neF] at hD) | simp only [appK, appOsK]); try simp only [go_sem, ↓reduceIte, reduceCtorEq, Nat.reduceAdd, Nat.reduceMul, Nat.reduceSub, Nat.reduceLT, Nat.reduceLeDiff, Nat.reduceEqDiff, Nat.reduceBEq, Nat.reduceBneDiff, Int.reduceToNat, Int.reduceEq, hD, hli]) | (refine And.intro (by omega) ?_) | (refine ifI (fun hc => ?_) (fun hc => ?_) <;> first | (exfalso; omega) | skip) | (first | (apply hK; clear hK K) | ((iterate 1 (clear hK K)); apply hK; clear hK K) | ((iterate 2 (clear hK K)); apply hK; clear hK K) | ((iterate 3 (clear hK K)); apply hK; clear hK K) | ((iterate 4 (clear hK K)); apply hK; clear hK K) | ((iterate 5 (clear hK K)); apply hK; clear hK K))
          refine ret_pure ?_; simp only [resL_tmp, resL_nil, tupOf, go_sem, ↓reduceIte, reduceCtorEq, Nat.reduceAdd, Nat.reduceMul, Nat.reduceSub, Nat.reduceLT, Nat.reduceLeDiff, Nat.reduceEqDiff, Nat.reduceBEq, Nat.reduceBneDiff, Int.reduceToNat, Int.reduceEq, hD]
        · have hls : R.length ≤ 1000000 := by omega
          have tp2 : PCall Tryd.prog 10 [Str ⟨R.toArray⟩] (.tup [TS T, I64 ((0 : Nat) : Int), I64 ((0 : Nat) : Int), I64 0]) := tp
          repeat' first | ((with_reducible refine Call.mono (string_c bb g _ blk R hacc0 hls hc _) ?_); intro r h' hx; obtain ⟨rfl, rfl⟩ := hx) | (with_reducible refine And.intro (by omega) ?_) | (refine SW.seq_k fun K hK => ?_) | (refine SW.block ?_) | ((first | refine SW.region ?_ | refine SW.regionD (Checked.mixed Tryd.checked) (by kernel_rfl) ?_ | refine SW.cond ?_ | refine SW.skip ?_ | refine SW.exit ?_ | refine SW.ret ?_ | refine Call.of_pure (tp2) ?_ | refine ⟨_, tp2, ?_⟩ | refine Call.of_pure (pl2) ?_ | refine ⟨_, pl2, ?_⟩ | refine Call.of_pure (sm) ?_ | refine ⟨_, sm, ?_⟩ | (refine allF_i fun b hb => ?_; replace hD := And.intro hb hD; clear hb; try simp only [fresh_cons, fresh_nil, and_true, ne_eq, neF] at hD) | simp only [appK, appOsK]); try simp only [go_sem, ↓reduceIte, reduceCtorEq, Nat.reduceAdd, Nat.reduceMul, Nat.reduceSub, Nat.reduceLT, Nat.reduceLeDiff, Nat.reduceEqDiff, Nat.reduceBEq, Nat.reduceBneDiff, Int.reduceToNat, Int.reduceEq, hD, hli]) | (refine And.intro (by omega) ?_) | (refine ifI (fun hc => ?_) (fun hc => ?_) <;> first | (exfalso; omega) | skip) | (first | (apply hK; clear hK K) | ((iterate 1 (clear hK K)); apply hK; clear hK K) | ((iterate 2 (clear hK K)); apply hK; clear hK K) | ((iterate 3 (clear hK K)); apply hK; clear hK K) | ((iterate 4 (clear hK K)); apply hK; clear hK K) | ((iterate 5 (clear hK K)); apply hK; clear hK K))
          refine ret_pure ?_; simp only [resL_tmp, resL_nil, tupOf, go_sem, ↓reduceIte, reduceCtorEq, Nat.reduceAdd, Nat.reduceMul, Nat.reduceSub, Nat.reduceLT, Nat.reduceLeDiff, Nat.reduceEqDiff, Nat.reduceBEq, Nat.reduceBneDiff, Int.reduceToNat, Int.reduceEq, hD]
end Go.Proofs.YtajbifibhgppfaaDoor
