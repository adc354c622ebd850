/- The law: the places of tokens. -/
import Derived.Test.YtajbifibhgppfaaDoorM4
import Derived.Lib.IndexMore
set_option linter.unusedSimpArgs false
set_option linter.unusedVariables false
set_option linter.unusedSectionVars false
namespace Go.Ab.A05
open Go Go.Ab Go.Ab.A01 Go.Proofs.YtajbifibhgppfaaDoor
theorem lexF_lenP : ∀ (g : Nat) (s : List UInt8) (i : Nat) (acc : List Tok), (lexF g s i acc).1.length ≤ acc.length + g
  | 0, s, i, acc => Nat.le_refl _
  | g + 1, s, i, acc => by
    rw [lexF]
    split
    · exact Nat.le_add_right _ _
    · split
      · have := lexF_lenP g s (i + 1) acc
        omega
      · split
        · have := lexF_lenP g s (i + lineN (s.drop i)) acc
          omega
        · split
          · exact Nat.zero_le _
          · rename_i k v _
            have := lexF_lenP g s (i + firstN (s.drop i)) (acc ++ [⟨k, mkB ((s.drop i).take (firstN (s.drop i))), v, lineS (s.take i), ((1 + tailS (s.take i) : Nat) : Int)⟩])
            rw [List.length_append, List.length_cons, List.length_nil] at this
            omega
theorem tokens_lenP (s : ByteArray) : (tokensS s).1.length ≤ 65536 := by
  unfold tokensS
  split
  · exact Nat.zero_le _
  · have := lexF_lenP s.size s.data.toList 0 []
    rw [List.length_nil] at this
    omega
/-- A token's text stands at a place of the text. -/
def AtP (s : List UInt8) (p : Nat) (t : Tok) : Prop := (∃ x, s.drop p = t.text.data.toList ++ x) ∧ p ≤ s.length ∧ t.line = ((lineS (s.take p) : Nat) : Int) ∧ t.col = ((1 + tailS (s.take p) : Nat) : Int) ∧ tokenS t.text.data.toList = some (t.kind, t.val)
def Placed (s : List UInt8) : Nat → List Tok → Prop
  | _, [] => True
  | o, t :: r => ∃ p, o ≤ p ∧ AtP s p t ∧ Placed s (p + t.text.data.toList.length) r
theorem placed_le {s : List UInt8} {o o' : Nat} (h : o' ≤ o) : ∀ {l : List Tok}, Placed s o l → Placed s o' l
  | [], _ => trivial
  | _ :: _, ⟨p, h1, h2, h3⟩ => ⟨p, Nat.le_trans h h1, h2, h3⟩
theorem lexF_placed : ∀ (g : Nat) (s : List UInt8) (i : Nat) (acc : List Tok) (R : List Tok × Nat × Nat × Int), R = lexF g s i acc → (R.2.2.2 = 0 → ∃ r, R.1 = acc ++ r ∧ Placed s i r) ∧ (¬ R.2.2.2 = 0 → R.1 = [])
  | 0, s, i, acc, R, h => by
    subst h
    exact ⟨fun _ => ⟨[], (List.append_nil _).symm, trivial⟩, fun x => absurd rfl x⟩
  | g + 1, s, i, acc, R, h => by
    rw [lexF] at h
    split at h
    · subst h
      exact ⟨fun _ => ⟨[], (List.append_nil _).symm, trivial⟩, fun x => absurd rfl x⟩
    · rename_i hi
      split at h
      · obtain ⟨a, b⟩ := lexF_placed g s (i + 1) acc R h
        refine ⟨fun x => ?_, b⟩
        obtain ⟨r, h1, h2⟩ := a x
        exact ⟨r, h1, placed_le (by omega) h2⟩
      · split at h
        · obtain ⟨a, b⟩ := lexF_placed g s (i + lineN (s.drop i)) acc R h
          refine ⟨fun x => ?_, b⟩
          obtain ⟨r, h1, h2⟩ := a x
          exact ⟨r, h1, placed_le (by omega) h2⟩
        · split at h
          · subst h
            exact ⟨fun x => absurd (show (2 : Int) = 0 from x) (by decide), fun _ => rfl⟩
          · rename_i k v hk
            obtain ⟨a, b⟩ := lexF_placed g s (i + firstN (s.drop i)) _ R h
            refine ⟨fun x => ?_, b⟩
            obtain ⟨r, h1, h2⟩ := a x
            refine ⟨_ :: r, by rw [h1, List.append_assoc]; rfl, i, Nat.le_refl _, ⟨?_, by omega, rfl, rfl, ?_⟩, ?_⟩
            · simp only
              rw [mkB_L]
              exact ⟨(s.drop i).drop (firstN (s.drop i)), (List.take_append_drop _ _).symm⟩
            · simp only
              rw [mkB_L]
              exact hk
            · simp only
              rw [mkB_L, List.length_take, Nat.min_eq_left (firstN_le _)]
              exact h2
theorem tok_in64 {l : List UInt8} {k a n : Int} {v : ByteArray} (h : tokenS l = some (k, a, n, v)) : In64 n := by
  rcases token_kind h with ⟨_, _, e⟩ | ⟨_, _, e⟩ | ⟨_, hg⟩
  · injection e with _ e
    injection e with e _
    subst e
    unfold In64
    omega
  · injection e with _ e
    injection e with e _
    subst e
    unfold In64
    omega
  · exact hg.2.1
theorem index_at {s sub : List UInt8} {q : Nat} (h : ∃ x, s.drop q = sub ++ x) (hq : q ≤ s.length) : ∃ i : Nat, Lib.index s sub = i ∧ i ≤ q ∧ i + sub.length ≤ s.length := by
  obtain ⟨x, hx⟩ := h
  have ho : Lib.occAt s sub q = true := by
    unfold Lib.occAt
    rw [hx, List.isPrefixOf_iff_prefix]
    exact List.prefix_append _ _
  rcases Lib.index_spec s sub with ⟨_, h2⟩ | ⟨i, h1, h2, h3, h4⟩
  · rw [h2 q hq] at ho
    cases ho
  · refine ⟨i, h1, ?_, ?_⟩
    · rcases Nat.lt_or_ge q i with hlt | hge
      · rw [h4 q hlt] at ho
        cases ho
      · exact hge
    · have := Lib.index_room s sub (by rw [h1]; omega)
      omega
/-- The library's own variable holds some number. -/
class Mx [Gl] : Prop where
  g1 : ∃ m : Int, Gl.gl 1 = .fp [.sc (.int .i64 m)]
end Go.Ab.A05
namespace Go.Proofs.YtajbifibhgppfaaDoor
open Go Go.Ab Go.Ab.A01 Go.Ab.A05
variable [Gl] [Tabs] [Syms] [Mx]

theorem idx_c (s t : ByteArray) (hs : s.size ≤ 1000000) : PCall Tryd.prog 21 [Str s, Str t] (I64 (Lib.index s.data.toList t.data.toList)) :=
  PCall.of_calls ⟨_, Tryd.func21, by kernel_rfl, by kernel_rfl⟩ fun w E vs hsee _ hg hr => by
    obtain rfl := reps2 hr
    obtain ⟨m, hm⟩ := Mx.g1
    have h1 := (hg 1).1
    rw [hm] at h1
    have h2 : w.cell? ⟨1, 0, none⟩ = some (.int .i64 m) := by
      cases h1 with
      | fp b o l vs h3 h4 =>
        have h5 := h3 0 (by simp)
        have h6 := h4 0 (by simp)
        have h7 : vs 0 = .int .i64 m := by
          have h8 : Rep E (vs 0) (.sc (.int .i64 m)) := h6
          generalize vs 0 = u at h8
          cases h8
          rfl
        rw [← h7]
        exact hsee _ _ h5
    exact (Tryd.strings_Index s t m w (by omega) h2).mono fun e w' ⟨he, hw⟩ => ⟨_, he, fun _ => .sc _, by rw [hw]; exact RowKit.Below.refl _ _⟩

set_option maxHeartbeats 4000000 in
set_option maxRecDepth 20000 in
theorem law_places (s : ByteArray) : PCall Tryd.prog 6 [Str s] (SB true) := by
  have aw := awake_c
  have ls := len_list s
  by_cases h1 : 400 < s.size
  · have h1i : (400 : Int) < ((s.size : Nat) : Int) := by omega
    refine Call.enter' (N := 100) (rs := [.tmp 2]) Tryd.func6 rfl rfl rfl (by decide) rfl ?_; simp only [argT]; have hD : (0 : Nat) = 0 := rfl
    repeat' first | (with_reducible refine And.intro (by omega) ?_) | (refine SW.seq_k fun K hK => ?_) | (refine SW.block ?_) | ((first | refine SW.region ?_ | refine SW.regionD (Checked.mixed Tryd.checked) (by kernel_rfl) ?_ | refine SW.cond ?_ | refine SW.skip ?_ | refine SW.exit ?_ | refine SW.ret ?_ | refine Call.of_pure (aw) ?_ | refine ⟨_, aw, ?_⟩ | (refine allF_i fun b hb => ?_; replace hD := And.intro hb hD; clear hb; try simp only [fresh_cons, fresh_nil, and_true, ne_eq, neF] at hD) | simp only [appK, appOsK]); try simp only [go_sem, ↓reduceIte, reduceCtorEq, Nat.reduceAdd, Nat.reduceMul, Nat.reduceSub, Nat.reduceLT, Nat.reduceLeDiff, Nat.reduceEqDiff, Nat.reduceBEq, Nat.reduceBneDiff, Int.reduceToNat, Int.reduceEq, hD, h1i]) | (refine And.intro (by omega) ?_) | (refine ifI (fun hc => ?_) (fun hc => ?_) <;> first | (exfalso; omega) | skip) | (first | (apply hK; clear hK K) | ((iterate 1 (clear hK K)); apply hK; clear hK K) | ((iterate 2 (clear hK K)); apply hK; clear hK K) | ((iterate 3 (clear hK K)); apply hK; clear hK K) | ((iterate 4 (clear hK K)); apply hK; clear hK K) | ((iterate 5 (clear hK K)); apply hK; clear hK K))
    refine ret_pure ?_; simp only [resL_tmp, resL_nil, tupOf, go_sem, ↓reduceIte, reduceCtorEq, Nat.reduceAdd, Nat.reduceMul, Nat.reduceSub, Nat.reduceLT, Nat.reduceLeDiff, Nat.reduceEqDiff, Nat.reduceBEq, Nat.reduceBneDiff, Int.reduceToNat, Int.reduceEq, hD]
  · have h1i : ¬ (400 : Int) < ((s.size : Nat) : Int) := by omega
    have tp := tokens_p s (by omega)
    have hl := tokens_lenP s
    obtain ⟨R, hR⟩ : ∃ R, R = tokensS s := ⟨_, rfl⟩
    have hpl : (R.2.2.2 = 0 → Placed s.data.toList 0 R.1) ∧ (¬ R.2.2.2 = 0 → R.1 = []) := by
      have e : tokensS s = lexF s.size s.data.toList 0 [] := by unfold tokensS; rw [if_neg (by omega)]
      obtain ⟨a, b⟩ := lexF_placed _ _ _ _ R (hR.trans e)
      refine ⟨fun x => ?_, b⟩
      obtain ⟨r, h2, h3⟩ := a x
      rw [h2]
      exact h3
    rw [← hR] at tp hl
    clear hR
    obtain ⟨L, x, y, z⟩ := R
    unfold tokR at tp
    simp only at tp hpl hl
    by_cases hz : z = 0
    · subst hz
      have hp0 := hpl.1 rfl
      clear hpl
      refine Call.enter' (N := 100) (rs := [.tmp 2]) Tryd.func6 rfl rfl rfl (by decide) rfl ?_; simp only [argT]; have hD : (0 : Nat) = 0 := rfl
      repeat' first | (with_reducible refine And.intro (by omega) ?_) | (refine SW.seq_k fun K hK => ?_) | (refine SW.block ?_) | ((first | refine SW.region ?_ | refine SW.regionD (Checked.mixed Tryd.checked) (by kernel_rfl) ?_ | refine SW.cond ?_ | refine SW.skip ?_ | refine SW.exit ?_ | refine SW.ret ?_ | refine Call.of_pure (aw) ?_ | refine ⟨_, aw, ?_⟩ | refine Call.of_pure (tp) ?_ | refine ⟨_, tp, ?_⟩ | (refine allF_i fun b hb => ?_; replace hD := And.intro hb hD; clear hb; try simp only [fresh_cons, fresh_nil, and_true, ne_eq, neF] at hD) | simp only [appK, appOsK]); try simp only [go_sem, ↓reduceIte, reduceCtorEq, Nat.reduceAdd, Nat.reduceMul, Nat.reduceSub, Nat.reduceLT, Nat.reduceLeDiff, Nat.reduceEqDiff, Nat.reduceBEq, Nat.reduceBneDiff, Int.reduceToNat, Int.reduceEq, hD, h1i]) | (refine And.intro (by omega) ?_) | (refine ifI (fun hc => ?_) (fun hc => ?_) <;> first | (exfalso; omega) | skip) | (first | (apply hK; clear hK K) | ((iterate 1 (clear hK K)); apply hK; clear hK K) | ((iterate 2 (clear hK K)); apply hK; clear hK K) | ((iterate 3 (clear hK K)); apply hK; clear hK K) | ((iterate 4 (clear hK K)); apply hK; clear hK K) | ((iterate 5 (clear hK K)); apply hK; clear hK K))
      obtain ⟨I, hI⟩ : ∃ I : Nat → St → Prop, ∀ k S, I k S ↔ (∃ (i o : Nat), k = L.length - i ∧ i ≤ L.length ∧ o ≤ s.size ∧ Placed s.data.toList o (L.drop i) ∧ S = ⟨[(0, Str s), (7, I64 o), (35, TS L), (36, I64 L.length), (37, I64 i)], []⟩) := ⟨fun k S => _, fun _ _ => Iff.rfl⟩
      refine SW.loop' I L.length ((hI _ _).2 ⟨0, 0, rfl, Nat.zero_le _, Nat.zero_le _, hp0, rfl⟩) (by repeat' (first | exact rfl | exact trivial | exact int_eq (by omega) | exact int_eq (by (rw [i64_wrap] <;> omega)) | constructor)) ?_
      clear hp0
      intro k S hIn
      obtain ⟨i, o, rfl, hi, ho, hP, rfl⟩ := (hI _ _).1 hIn
      clear hIn
      have ie : ((i : Nat) : Int).toNat = i := Int.toNat_natCast _
      have i0 : (0 : Int) ≤ ((i : Nat) : Int) := by omega
      have oe : ((o : Nat) : Int).toNat = o := Int.toNat_natCast _
      have o0 : (0 : Int) ≤ ((o : Nat) : Int) := by omega
      have ol : ((o : Nat) : Int) ≤ ((s.size : Nat) : Int) := by omega
      by_cases hlt : i < L.length
      · have hli : ((i : Nat) : Int) < ((L.length : Nat) : Int) := by omega
        have w1 : IntKind.i64.wrap ((i : Int) + 1) = ((i + 1 : Nat) : Int) := by rw [i64_wrap (by omega) (by omega)]; omega
        have hg : L.getD i tok0 = L[i] := by simp [List.getD_eq_getElem?_getD, hlt]
        have hd : L.drop i = L.getD i tok0 :: L.drop (i + 1) := by rw [List.drop_eq_getElem_cons hlt, hg]
        rw [hd] at hP
        obtain ⟨k, t, ⟨a, n, v⟩, ln, cl, ht⟩ : ∃ k s v ln cl, L.getD i tok0 = ⟨k, s, v, ln, cl⟩ := ⟨_, _, _, _, _, rfl⟩
        have tf : tokF L i = [I64 k, Str t, I64 a, I64 n, Str v, I64 ln, I64 cl] := by unfold tokF; rw [ht]; rfl
        rw [ht] at hP
        obtain ⟨p, hop, ⟨⟨x2, hx⟩, hps, hln, hcl, htk⟩, hP2⟩ := hP
        simp only at hx hln hcl htk hP2
        have lt := len_list t
        have hin : (s.data.toList.drop o).drop (p - o) = t.data.toList ++ x2 := by rw [List.drop_drop, show o + (p - o) = p by omega, hx]
        obtain ⟨i1, e1, q1, r1⟩ := index_at ⟨x2, hin⟩ (by rw [List.length_drop]; omega)
        have c1 := idx_c (s.extract o s.size) t (by rw [← len_list, ext_tail, List.length_drop]; omega)
        rw [ext_tail, e1] at c1
        repeat' first | (with_reducible refine And.intro (by omega) ?_) | (refine SW.seq_k fun K hK => ?_) | (refine SW.block ?_) | ((first | refine SW.region ?_ | refine SW.regionZ (id := 10) (Checked.mixed Tryd.checked) ((.one 0 [0, 2, 5, 6] (.one 1 [1, 2, 5, 6] (.one 2 [2, 5, 6] (.one 3 [3, 4, 5, 6] (.one 4 [4, 5, 6] (.one 5 [5, 6] (.one 6 [6] .done))))))) : OZ) (by kernel_rfl) ?_ | refine SW.regionZ (id := 16) (Checked.mixed Tryd.checked) ((.one 0 [0, 5, 8, 9] (.one 1 [1, 3, 4, 5, 8, 9] (.one 2 [2, 3, 4, 5, 8, 9] (.one 3 [3, 4, 5, 8, 9] (.one 4 [4, 5, 8, 9] (.one 5 [5, 8, 9] (.one 6 [6, 7, 8, 9] (.one 7 [7, 8, 9] (.one 8 [8, 9] (.one 9 [9] .done)))))))))) : OZ) (by kernel_rfl) ?_ | refine SW.regionD (Checked.mixed Tryd.checked) (by kernel_rfl) ?_ | refine SW.cond ?_ | refine SW.skip ?_ | refine SW.exit ?_ | refine SW.ret ?_ | refine Call.of_pure (c1) ?_ | refine ⟨_, c1, ?_⟩ | (refine allF_i fun b hb => ?_; replace hD := And.intro hb hD; clear hb; try simp only [fresh_cons, fresh_nil, and_true, ne_eq, neF] at hD) | simp only [appK, appOsK]); try simp only [go_sem, ↓reduceIte, reduceCtorEq, Nat.reduceAdd, Nat.reduceMul, Nat.reduceSub, Nat.reduceLT, Nat.reduceLeDiff, Nat.reduceEqDiff, Nat.reduceBEq, Nat.reduceBneDiff, Int.reduceToNat, Int.reduceEq, hD, hli, ie, i0, w1, tf, oe, o0, ol]) | (refine And.intro (by omega) ?_) | (refine ifI (fun hc => ?_) (fun hc => ?_) <;> first | (exfalso; omega) | skip) | (first | (apply hK; clear hK K) | ((iterate 1 (clear hK K)); apply hK; clear hK K) | ((iterate 2 (clear hK K)); apply hK; clear hK K) | ((iterate 3 (clear hK K)); apply hK; clear hK K) | ((iterate 4 (clear hK K)); apply hK; clear hK K) | ((iterate 5 (clear hK K)); apply hK; clear hK K)) | (refine And.intro ?_ ?_)
        have vp := tvalid_p k t a n v ln cl (by rw [List.length_drop] at r1; omega) (tok_in64 htk)
        rw [show vtok k t (a, n, v) = true from decide_eq_true htk] at vp
        clear c1 ie i0 oe o0 ol tf
        obtain ⟨J, hJ⟩ : ∃ J : Nat → St → Prop, ∀ k' S, J k' S ↔ (∃ (c : Nat), k' = p - o - c ∧ o + c ≤ p ∧ S = ⟨[(10, I64 c), (9, .op b 0), (0, Str s), (7, I64 o), (35, TS L), (36, I64 L.length), (37, I64 i)], [(b, .svs [I64 k, Str t, I64 a, I64 n, Str v, I64 ln, I64 cl])]⟩) := ⟨fun k S => _, fun _ _ => Iff.rfl⟩
        refine SW.loop' J (p - o - i1) ((hJ _ _).2 ⟨i1, rfl, by omega, rfl⟩) (by repeat' (first | exact rfl | exact trivial | exact int_eq (by omega) | exact int_eq (by (rw [i64_wrap] <;> omega)) | constructor)) ?_
        intro k' S hIn
        obtain ⟨c, rfl, hc, rfl⟩ := (hJ _ _).1 hIn
        clear hIn
        have hpt : p + t.size ≤ s.size := by
          have := congrArg List.length hx
          rw [List.length_drop, List.length_append] at this
          omega
        have c0 : (0 : Int) ≤ ((c : Nat) : Int) := by omega
        have c00 : ¬ ((c : Nat) : Int) < 0 := by omega
        have w2 : IntKind.i64.wrap ((o : Int) + (c : Int)) = ((o + c : Nat) : Int) := by rw [i64_wrap (by omega) (by omega)]; omega
        have pp := position_p s (by omega) ((o + c : Nat) : Int)
        unfold posR at pp
        rw [if_neg (by omega), Int.toNat_natCast] at pp
        obtain ⟨Lq, hLq⟩ : ∃ z : Int, z = ((lineS (s.data.toList.take (o + c)) : Nat) : Int) := ⟨_, rfl⟩
        obtain ⟨Cq, hCq⟩ : ∃ z : Int, z = ((1 + tailS (s.data.toList.take (o + c)) : Nat) : Int) := ⟨_, rfl⟩
        rw [← hLq, ← hCq] at pp
        have w3 : IntKind.i64.wrap ((c : Int) + (t.size : Int)) = ((c + t.size : Nat) : Int) := by rw [i64_wrap (by omega) (by omega)]; omega
        have w4 : IntKind.i64.wrap ((o : Int) + ((c + t.size : Nat) : Int)) = ((o + (c + t.size) : Nat) : Int) := by rw [i64_wrap (by omega) (by omega)]; omega
        by_cases hm : Lq = ln ∧ Cq = cl
        · obtain ⟨m1, m2⟩ := hm
          subst m1 m2
          repeat' first | (with_reducible refine And.intro (by omega) ?_) | (refine SW.seq_k fun K hK => ?_) | (refine SW.block ?_) | ((first | refine SW.region ?_ | refine SW.regionZ (id := 10) (Checked.mixed Tryd.checked) ((.one 0 [0, 2, 5, 6] (.one 1 [1, 2, 5, 6] (.one 2 [2, 5, 6] (.one 3 [3, 4, 5, 6] (.one 4 [4, 5, 6] (.one 5 [5, 6] (.one 6 [6] .done))))))) : OZ) (by kernel_rfl) ?_ | refine SW.regionZ (id := 16) (Checked.mixed Tryd.checked) ((.one 0 [0, 5, 8, 9] (.one 1 [1, 3, 4, 5, 8, 9] (.one 2 [2, 3, 4, 5, 8, 9] (.one 3 [3, 4, 5, 8, 9] (.one 4 [4, 5, 8, 9] (.one 5 [5, 8, 9] (.one 6 [6, 7, 8, 9] (.one 7 [7, 8, 9] (.one 8 [8, 9] (.one 9 [9] .done)))))))))) : OZ) (by kernel_rfl) ?_ | refine SW.regionD (Checked.mixed Tryd.checked) (by kernel_rfl) ?_ | refine SW.cond ?_ | refine SW.skip ?_ | refine SW.exit ?_ | refine SW.ret ?_ | refine Call.of_pure (pp) ?_ | refine ⟨_, pp, ?_⟩ | refine Call.of_pure (vp) ?_ | refine ⟨_, vp, ?_⟩ | (refine allF_i fun b hb => ?_; replace hD := And.intro hb hD; clear hb; try simp only [fresh_cons, fresh_nil, and_true, ne_eq, neF] at hD) | simp only [appK, appOsK]); try simp only [go_sem, ↓reduceIte, reduceCtorEq, Nat.reduceAdd, Nat.reduceMul, Nat.reduceSub, Nat.reduceLT, Nat.reduceLeDiff, Nat.reduceEqDiff, Nat.reduceBEq, Nat.reduceBneDiff, Int.reduceToNat, Int.reduceEq, hD, c0, c00, w1, w2, w3, w4]) | (refine And.intro (by omega) ?_) | (refine ifI (fun hc => ?_) (fun hc => ?_) <;> first | (exfalso; omega) | skip) | (first | (apply hK; clear hK K) | ((iterate 1 (clear hK K)); apply hK; clear hK K) | ((iterate 2 (clear hK K)); apply hK; clear hK K) | ((iterate 3 (clear hK K)); apply hK; clear hK K) | ((iterate 4 (clear hK K)); apply hK; clear hK K) | ((iterate 5 (clear hK K)); apply hK; clear hK K)) | (refine And.intro ?_ ?_)
          refine Rnd.le (show (St.mk _ _).le (St.mk _ []) from St.le_sublist (fun x hx => by cases hx) (fun hn => by simp)) ?_
          refine Rnd.sub (L.length - (i + 1)) (by omega) ((hI _ _).2 ⟨i + 1, o + (c + t.size), rfl, by omega, by omega, placed_le (by omega) hP2, rfl⟩) (by repeat' (first | exact rfl | exact trivial | exact int_eq (by omega) | exact int_eq (by (rw [i64_wrap] <;> omega)) | constructor))
        · have hne : o + c < p := by
            rcases Nat.lt_or_ge (o + c) p with h | h
            · exact h
            · exfalso
              have e : o + c = p := by omega
              rw [e] at hLq hCq
              exact hm ⟨hLq.trans hln.symm, hCq.trans hcl.symm⟩
          have hin2 : (s.data.toList.drop (o + c + 1)).drop (p - (o + c + 1)) = t.data.toList ++ x2 := by rw [List.drop_drop, show o + c + 1 + (p - (o + c + 1)) = p by omega, hx]
          obtain ⟨i2, e2, q2, r2⟩ := index_at ⟨x2, hin2⟩ (by rw [List.length_drop]; omega)
          have cc := idx_c (s.extract (o + c + 1) s.size) t (by rw [← len_list, ext_tail, List.length_drop]; omega)
          rw [ext_tail, e2] at cc
          have w5 : IntKind.i64.wrap (((o + c : Nat) : Int) + 1) = ((o + c + 1 : Nat) : Int) := by rw [i64_wrap (by omega) (by omega)]; omega
          have w6 : IntKind.i64.wrap (1 + (i2 : Int)) = ((1 + i2 : Nat) : Int) := by rw [i64_wrap (by omega) (by omega)]; omega
          have w7 : IntKind.i64.wrap ((c : Int) + ((1 + i2 : Nat) : Int)) = ((c + (1 + i2) : Nat) : Int) := by rw [i64_wrap (by omega) (by omega)]; omega
          have s1 : ((o + c + 1 : Nat) : Int).toNat = o + c + 1 := Int.toNat_natCast _
          have s2 : (0 : Int) ≤ ((o + c + 1 : Nat) : Int) := by omega
          have s3 : ((o + c + 1 : Nat) : Int) ≤ ((s.size : Nat) : Int) := by omega
          have s4 : ¬ ((i2 : Nat) : Int) < 0 := by omega
          by_cases m1 : Lq = ln
          · have m2 : ¬ Cq = cl := fun x => hm ⟨m1, x⟩
            repeat' first | (with_reducible refine And.intro (by omega) ?_) | (refine SW.seq_k fun K hK => ?_) | (refine SW.block ?_) | ((first | refine SW.region ?_ | refine SW.regionZ (id := 10) (Checked.mixed Tryd.checked) ((.one 0 [0, 2, 5, 6] (.one 1 [1, 2, 5, 6] (.one 2 [2, 5, 6] (.one 3 [3, 4, 5, 6] (.one 4 [4, 5, 6] (.one 5 [5, 6] (.one 6 [6] .done))))))) : OZ) (by kernel_rfl) ?_ | refine SW.regionZ (id := 16) (Checked.mixed Tryd.checked) ((.one 0 [0, 5, 8, 9] (.one 1 [1, 3, 4, 5, 8, 9] (.one 2 [2, 3, 4, 5, 8, 9] (.one 3 [3, 4, 5, 8, 9] (.one 4 [4, 5, 8, 9] (.one 5 [5, 8, 9] (.one 6 [6, 7, 8, 9] (.one 7 [7, 8, 9] (.one 8 [8, 9] (.one 9 [9] .done)))))))))) : OZ) (by kernel_rfl) ?_ | refine SW.regionD (Checked.mixed Tryd.checked) (by kernel_rfl) ?_ | refine SW.cond ?_ | refine SW.skip ?_ | refine SW.exit ?_ | refine SW.ret ?_ | refine Call.of_pure (pp) ?_ | refine ⟨_, pp, ?_⟩ | refine Call.of_pure (cc) ?_ | refine ⟨_, cc, ?_⟩ | (refine allF_i fun b hb => ?_; replace hD := And.intro hb hD; clear hb; try simp only [fresh_cons, fresh_nil, and_true, ne_eq, neF] at hD) | simp only [appK, appOsK]); try simp only [go_sem, ↓reduceIte, reduceCtorEq, Nat.reduceAdd, Nat.reduceMul, Nat.reduceSub, Nat.reduceLT, Nat.reduceLeDiff, Nat.reduceEqDiff, Nat.reduceBEq, Nat.reduceBneDiff, Int.reduceToNat, Int.reduceEq, hD, c0, c00, w1, w2, w5, w6, w7, s1, s2, s3, s4, m1, m2]) | (refine And.intro (by omega) ?_) | (refine ifI (fun hc => ?_) (fun hc => ?_) <;> first | (exfalso; omega) | skip) | (first | (apply hK; clear hK K) | ((iterate 1 (clear hK K)); apply hK; clear hK K) | ((iterate 2 (clear hK K)); apply hK; clear hK K) | ((iterate 3 (clear hK K)); apply hK; clear hK K) | ((iterate 4 (clear hK K)); apply hK; clear hK K) | ((iterate 5 (clear hK K)); apply hK; clear hK K)) | (refine And.intro ?_ ?_)
            refine Rnd.sub (p - o - (c + (1 + i2))) (by omega) ((hJ _ _).2 ⟨c + (1 + i2), rfl, by omega, rfl⟩) (by repeat' (first | exact rfl | exact trivial | exact int_eq (by omega) | exact int_eq (by (rw [i64_wrap] <;> omega)) | constructor))
          · repeat' first | (with_reducible refine And.intro (by omega) ?_) | (refine SW.seq_k fun K hK => ?_) | (refine SW.block ?_) | ((first | refine SW.region ?_ | refine SW.regionZ (id := 10) (Checked.mixed Tryd.checked) ((.one 0 [0, 2, 5, 6] (.one 1 [1, 2, 5, 6] (.one 2 [2, 5, 6] (.one 3 [3, 4, 5, 6] (.one 4 [4, 5, 6] (.one 5 [5, 6] (.one 6 [6] .done))))))) : OZ) (by kernel_rfl) ?_ | refine SW.regionZ (id := 16) (Checked.mixed Tryd.checked) ((.one 0 [0, 5, 8, 9] (.one 1 [1, 3, 4, 5, 8, 9] (.one 2 [2, 3, 4, 5, 8, 9] (.one 3 [3, 4, 5, 8, 9] (.one 4 [4, 5, 8, 9] (.one 5 [5, 8, 9] (.one 6 [6, 7, 8, 9] (.one 7 [7, 8, 9] (.one 8 [8, 9] (.one 9 [9] .done)))))))))) : OZ) (by kernel_rfl) ?_ | refine SW.regionD (Checked.mixed Tryd.checked) (by kernel_rfl) ?_ | refine SW.cond ?_ | refine SW.skip ?_ | refine SW.exit ?_ | refine SW.ret ?_ | refine Call.of_pure (pp) ?_ | refine ⟨_, pp, ?_⟩ | refine Call.of_pure (cc) ?_ | refine ⟨_, cc, ?_⟩ | (refine allF_i fun b hb => ?_; replace hD := And.intro hb hD; clear hb; try simp only [fresh_cons, fresh_nil, and_true, ne_eq, neF] at hD) | simp only [appK, appOsK]); try simp only [go_sem, ↓reduceIte, reduceCtorEq, Nat.reduceAdd, Nat.reduceMul, Nat.reduceSub, Nat.reduceLT, Nat.reduceLeDiff, Nat.reduceEqDiff, Nat.reduceBEq, Nat.reduceBneDiff, Int.reduceToNat, Int.reduceEq, hD, c0, c00, w1, w2, w5, w6, w7, s1, s2, s3, s4, m1]) | (refine And.intro (by omega) ?_) | (refine ifI (fun hc => ?_) (fun hc => ?_) <;> first | (exfalso; omega) | skip) | (first | (apply hK; clear hK K) | ((iterate 1 (clear hK K)); apply hK; clear hK K) | ((iterate 2 (clear hK K)); apply hK; clear hK K) | ((iterate 3 (clear hK K)); apply hK; clear hK K) | ((iterate 4 (clear hK K)); apply hK; clear hK K) | ((iterate 5 (clear hK K)); apply hK; clear hK K)) | (refine And.intro ?_ ?_)
            refine Rnd.sub (p - o - (c + (1 + i2))) (by omega) ((hJ _ _).2 ⟨c + (1 + i2), rfl, by omega, rfl⟩) (by repeat' (first | exact rfl | exact trivial | exact int_eq (by omega) | exact int_eq (by (rw [i64_wrap] <;> omega)) | constructor))
      · have hli : ¬ ((i : Nat) : Int) < ((L.length : Nat) : Int) := by omega
        repeat' first | (with_reducible refine And.intro (by omega) ?_) | (refine SW.seq_k fun K hK => ?_) | (refine SW.block ?_) | ((first | refine SW.region ?_ | refine SW.regionD (Checked.mixed Tryd.checked) (by kernel_rfl) ?_ | refine SW.cond ?_ | refine SW.skip ?_ | refine SW.exit ?_ | refine SW.ret ?_ | (refine allF_i fun b hb => ?_; replace hD := And.intro hb hD; clear hb; try simp only [fresh_cons, fresh_nil, and_true, ne_eq, neF] at hD) | simp only [appK, appOsK]); try simp only [go_sem, ↓reduceIte, reduceCtorEq, Nat.reduceAdd, Nat.reduceMul, Nat.reduceSub, Nat.reduceLT, Nat.reduceLeDiff, Nat.reduceEqDiff, Nat.reduceBEq, Nat.reduceBneDiff, Int.reduceToNat, Int.reduceEq, hD, hli]) | (refine And.intro (by omega) ?_) | (refine ifI (fun hc => ?_) (fun hc => ?_) <;> first | (exfalso; omega) | skip) | (first | (apply hK; clear hK K) | ((iterate 1 (clear hK K)); apply hK; clear hK K) | ((iterate 2 (clear hK K)); apply hK; clear hK K) | ((iterate 3 (clear hK K)); apply hK; clear hK K) | ((iterate 4 (clear hK K)); apply hK; clear hK K) | ((iterate 5 (clear hK K)); apply hK; clear hK K))
        refine ret_pure ?_; simp only [resL_tmp, resL_nil, tupOf, go_sem, ↓reduceIte, reduceCtorEq, Nat.reduceAdd, Nat.reduceMul, Nat.reduceSub, Nat.reduceLT, Nat.reduceLeDiff, Nat.reduceEqDiff, Nat.reduceBEq, Nat.reduceBneDiff, Int.reduceToNat, Int.reduceEq, hD]
    · have hL := hpl.2 hz
      subst hL
      refine Call.enter' (N := 100) (rs := [.tmp 2]) Tryd.func6 rfl rfl rfl (by decide) rfl ?_; simp only [argT]; have hD : (0 : Nat) = 0 := rfl
      repeat' first | (with_reducible refine And.intro (by omega) ?_) | (refine SW.seq_k fun K hK => ?_) | (refine SW.block ?_) | ((first | refine SW.region ?_ | refine SW.regionD (Checked.mixed Tryd.checked) (by kernel_rfl) ?_ | refine SW.cond ?_ | refine SW.skip ?_ | refine SW.exit ?_ | refine SW.ret ?_ | refine Call.of_pure (aw) ?_ | refine ⟨_, aw, ?_⟩ | refine Call.of_pure (tp) ?_ | refine ⟨_, tp, ?_⟩ | (refine allF_i fun b hb => ?_; replace hD := And.intro hb hD; clear hb; try simp only [fresh_cons, fresh_nil, and_true, ne_eq, neF] at hD) | simp only [appK, appOsK]); try simp only [go_sem, ↓reduceIte, reduceCtorEq, Nat.reduceAdd, Nat.reduceMul, Nat.reduceSub, Nat.reduceLT, Nat.reduceLeDiff, Nat.reduceEqDiff, Nat.reduceBEq, Nat.reduceBneDiff, Int.reduceToNat, Int.reduceEq, hD, h1i, hz]) | (refine And.intro (by omega) ?_) | (refine ifI (fun hc => ?_) (fun hc => ?_) <;> first | (exfalso; omega) | skip) | (first | (apply hK; clear hK K) | ((iterate 1 (clear hK K)); apply hK; clear hK K) | ((iterate 2 (clear hK K)); apply hK; clear hK K) | ((iterate 3 (clear hK K)); apply hK; clear hK K) | ((iterate 4 (clear hK K)); apply hK; clear hK K) | ((iterate 5 (clear hK K)); apply hK; clear hK K))
      refine ret_pure ?_; simp only [resL_tmp, resL_nil, tupOf, go_sem, ↓reduceIte, reduceCtorEq, Nat.reduceAdd, Nat.reduceMul, Nat.reduceSub, Nat.reduceLT, Nat.reduceLeDiff, Nat.reduceEqDiff, Nat.reduceBEq, Nat.reduceBneDiff, Int.reduceToNat, Int.reduceEq, hD]
end Go.Proofs.YtajbifibhgppfaaDoor
