/- Contracts: a histogram. -/
import Derived.Test.YtddkacbcecedaaaGreatDoorH2
set_option linter.unusedSimpArgs false
set_option linter.unusedVariables false
set_option linter.unusedSectionVars false
namespace Go.Ab.A34
open Go Go.Ab Go.Proofs
instance : DecidableEq V3 := inferInstance
/-- One value more. -/
def hAdd (acc : List (V3 × Int)) (v : V3) : List (V3 × Int) := if acc = [] then [(v, 1)] else if (acc.getLastD (v0, 0)).1 = v then acc.dropLast ++ [(v, (acc.getLastD (v0, 0)).2 + 1)] else acc ++ [(v, 1)]
def histS (l : List V3) : List (V3 × Int) := l.foldl hAdd []
def vals (R : List (V3 × Int)) : List V3 := R.map (·.1)
def nums (R : List (V3 × Int)) : List Int := R.map (·.2)
def nC (l : List Int) : List SV := l.map fun n => I64 n
/-- Values and numbers side by side. -/
def HB (x y : SV) (h : Heap) (R : List (V3 × Int)) : Prop := (R = [] ∧ x = .sc (.slice none 0 0) ∧ y = .sc (.slice none 0 0) ∧ h = []) ∨
  (R ≠ [] ∧ ∃ b1 b2, ¬ b1 = b2 ∧ x = .os b1 0 R.length 3 ∧ y = .os b2 0 R.length 1 ∧ h = [(b1, .svs (vCs (vals R))), (b2, .ints .i64 (nums R))])
theorem vCs_last (l : List V3) (v : V3) (n : Nat) (h : l.length = n) : (vCs (l ++ [v])).getD (n * 3) .any = I64 v.1 ∧ (vCs (l ++ [v])).getD (n * 3 + 1) .any = I64 v.2.1 ∧ (vCs (l ++ [v])).getD (n * 3 + 1 + 1) .any = Str v.2.2 := by
  rw [← vCs_snoc]
  have e := vCs_len l
  rw [h] at e
  refine ⟨?_, ?_, ?_⟩
  all_goals
    rw [List.getD_eq_getElem?_getD, List.getElem?_append_right (by omega), ← e]
  · simp
  · rw [show n * 3 + 1 - n * 3 = 1 by omega]
    rfl
  · rw [show n * 3 + 1 + 1 - n * 3 = 2 by omega]
    rfl
theorem str_ne {s t : ByteArray} (h : ¬ s = t) : (s.toList == t.toList) = false := Bool.eq_false_iff.2 fun x => h (barr_eq.1 x)
theorem hAdd_same (R : List (V3 × Int)) (u : V3) (n : Int) : hAdd (R ++ [(u, n)]) u = R ++ [(u, n + 1)] := by
  unfold hAdd
  rw [if_neg (by simp), List.getLastD_concat, if_pos rfl, List.dropLast_concat]
theorem hAdd_new (R : List (V3 × Int)) (u v : V3) (n : Int) (h : ¬ u = v) : hAdd (R ++ [(u, n)]) v = R ++ [(u, n)] ++ [(v, 1)] := by
  unfold hAdd
  rw [if_neg (by simp), List.getLastD_concat, if_neg h]
theorem hAdd_ne (acc : List (V3 × Int)) (v : V3) : hAdd acc v ≠ [] := by
  unfold hAdd
  split
  · simp
  · split <;> simp
theorem hAdd_len (acc : List (V3 × Int)) (v : V3) : (hAdd acc v).length ≤ acc.length + 1 := by
  unfold hAdd
  split
  · simp
  · split
    · simp
    · simp
theorem St.le_two [Gl] {t : List (Nat × SV)} {h : Heap} {b c : Nat} {k m : Blk} (i j : Nat) {n1 s1 n2 s2 : Nat} (hi : look t i = .os b 0 n1 s1) (hj : look t j = .os c 0 n2 s2) (hb : (b, k) ∈ h) (hc : (c, m) ∈ h) (hne : ¬ b = c) : (St.mk t h).le ⟨t, [(b, k), (c, m)]⟩ := St.le_sublist (fun x hx => by
  simp only [List.mem_cons, List.not_mem_nil, or_false] at hx
  rcases hx with rfl | rfl
  · exact hb
  · exact hc) (fun _ => by simp [hne])
end Go.Ab.A34
namespace Go.Proofs.YtddkacbcecedaaaGreatDoor
open Go Go.Ab Go.Ab.A34
variable [Gl] [Tabs]

set_option maxHeartbeats 2000000 in
set_option maxRecDepth 20000 in
theorem histogram_p (l : List V3) (hl : l.length ≤ 1000000) : PCall Tryz.prog 56 [VL l] (.tup [VL (vals (histS l)), ints .i64 (nums (histS l))]) := by
  obtain ⟨X, hX⟩ : ∃ X, X = histS l := ⟨_, rfl⟩
  rw [← hX]
  have hC0 : X = (l.drop 0).foldl hAdd [] := hX
  clear hX
  refine Call.enter' (N := 45) (rs := [.tmp 2, .tmp 3]) Tryz.func56 rfl rfl rfl (by decide) rfl ?_; simp only [argT]; have hD : (0 : Nat) = 0 := rfl
  repeat' first | (with_reducible refine And.intro (by omega) ?_) | (refine SW.seq_k fun K hK => ?_) | (refine SW.block ?_) | ((first | refine SW.region ?_ | refine SW.regionD (Checked.mixed Tryz.checked) (by kernel_rfl) ?_ | refine SW.cond ?_ | refine SW.skip ?_ | refine SW.exit ?_ | refine SW.ret ?_ | (refine allF_i fun b hb => ?_; replace hD := And.intro hb hD; clear hb; try simp only [fresh_cons, fresh_nil, and_true, ne_eq, neF] at hD) | simp only [appK, appOsK]); try simp only [go_sem, hD]) | (refine And.intro (by omega) ?_) | (refine ifI (fun hc => ?_) (fun hc => ?_) <;> first | (exfalso; omega) | skip) | ((first | apply hK | ((iterate 1 (clear hK K)); apply hK) | ((iterate 2 (clear hK K)); apply hK) | ((iterate 3 (clear hK K)); apply hK) | ((iterate 4 (clear hK K)); apply hK) | ((iterate 5 (clear hK K)); apply hK)); clear hK K)
  obtain ⟨I, hI⟩ : ∃ I : Nat → St → Prop, ∀ k S, I k S ↔ (∃ (i : Nat) (R : List (V3 × Int)) (x y : SV) (h : Heap), k = l.length - i ∧ i ≤ l.length ∧ R.length ≤ i ∧ X = (l.drop i).foldl hAdd R ∧ (∀ p ∈ R, 0 ≤ p.2 ∧ p.2 ≤ i) ∧ HB x y h R ∧ S = ⟨[(4, x), (5, y), (9, VL l), (10, I64 l.length), (11, I64 i)], h⟩) := ⟨fun k S => _, fun _ _ => Iff.rfl⟩
  refine SW.loop' I l.length ((hI _ _).2 ⟨0, [], _, _, _, rfl, Nat.zero_le _, Nat.le_refl _, hC0, fun p hp => absurd hp List.not_mem_nil, .inl ⟨rfl, rfl, rfl, rfl⟩, rfl⟩) (by repeat' (first | exact rfl | exact trivial | exact int_eq (by omega) | exact int_eq (by (rw [i64_wrap] <;> omega)) | constructor)) ?_
  clear hC0
  intro k S hIn
  obtain ⟨i, R, x, y, h, rfl, hi, hR, hC, hN, hB, rfl⟩ := (hI _ _).1 hIn
  clear hIn
  have ie : ((i : Nat) : Int).toNat = i := Int.toNat_natCast _
  have i0 : (0 : Int) ≤ ((i : Nat) : Int) := by omega
  by_cases hlt : i < l.length
  · have hli : ((i : Nat) : Int) < ((l.length : Nat) : Int) := by omega
    have w1 : IntKind.i64.wrap ((i : Int) + 1) = ((i + 1 : Nat) : Int) := by rw [i64_wrap (by omega) (by omega)]; omega
    have hg : l.getD i v0 = l[i] := by simp [List.getD_eq_getElem?_getD, hlt]
    have hd : l.drop i = l.getD i v0 :: l.drop (i + 1) := by rw [List.drop_eq_getElem_cons hlt, hg]
    rw [hd, List.foldl_cons] at hC
    obtain ⟨vk, vn, vt, hv⟩ : ∃ k n t, l.getD i v0 = (k, n, t) := ⟨_, _, _, rfl⟩
    have tv : vF l i = [I64 vk, I64 vn, Str vt] := by unfold vF; rw [hv]
    rw [hv] at hC
    have hlen := hAdd_len R (vk, vn, vt)
    have hne := hAdd_ne R (vk, vn, vt)
    rcases hB with ⟨rfl, rfl, rfl, rfl⟩ | ⟨hR0, b1, b2, hb, rfl, rfl, rfl⟩
    · have hA : hAdd [] (vk, vn, vt) = [((vk, vn, vt), 1)] := rfl
      rw [hA] at hC hlen hne
      repeat' first | (with_reducible refine And.intro (by omega) ?_) | (refine SW.seq_k fun K hK => ?_) | (refine SW.block ?_) | ((first | refine SW.region ?_ | refine SW.regionZ (id := 7) (Checked.mixed Tryz.checked) ((.one 0 [0, 1, 2, 3, 4, 5, 6, 7, 8, 9, 10] (.one 1 [1, 2, 3, 4, 5, 6, 7, 8, 9, 10] (.one 2 [2, 3, 4, 5, 6, 7, 8, 9, 10] (.one 3 [3, 6, 7, 9, 10] (.one 4 [4, 5, 6, 7, 9, 10] (.one 5 [5, 6, 7, 9, 10] (.one 6 [6, 7, 9, 10] (.one 7 [7, 9, 10] (.one 8 [8, 9, 10] (.one 9 [9, 10] (.one 10 [10] .done))))))))))) : OZ) (by kernel_rfl) ?_ | refine SW.regionD (Checked.mixed Tryz.checked) (by kernel_rfl) ?_ | refine SW.cond ?_ | refine SW.skip ?_ | refine SW.exit ?_ | refine SW.ret ?_ | (refine allF_i fun b hb => ?_; replace hD := And.intro hb hD; clear hb; try simp only [fresh_cons, fresh_nil, and_true, ne_eq, neF] at hD) | simp only [appK, appOsK]); try simp only [go_sem, hD, hli, ie, i0, w1, tv, true_implies]) | (refine And.intro (by omega) ?_) | (refine ifI (fun hc => ?_) (fun hc => ?_) <;> first | (exfalso; omega) | skip) | ((first | apply hK | ((iterate 1 (clear hK K)); apply hK) | ((iterate 2 (clear hK K)); apply hK) | ((iterate 3 (clear hK K)); apply hK) | ((iterate 4 (clear hK K)); apply hK) | ((iterate 5 (clear hK K)); apply hK)); clear hK K) | (refine And.intro ?_ ?_)
      refine Rnd.le (St.le_two 4 5 rfl rfl (k := .svs (vCs [(vk, vn, vt)])) (m := .ints .i64 [1]) (by repeat (first | exact List.mem_cons_self | apply List.mem_cons_of_mem)) (by repeat (first | exact List.mem_cons_self | apply List.mem_cons_of_mem)) (by simp [hD])) ?_
      refine Rnd.sub (l.length - (i + 1)) (by omega) ((hI _ _).2 ⟨i + 1, _, _, _, _, rfl, by omega, by simp, hC, by simp; omega, .inr ⟨hne, _, _, by simp [hD], rfl, rfl, rfl⟩, rfl⟩) (by repeat' (first | exact rfl | exact trivial | exact int_eq (by omega) | exact int_eq (by (rw [i64_wrap] <;> omega)) | constructor))
    · obtain ⟨R', u, rfl⟩ : ∃ R' u, R = R' ++ [u] := ⟨R.dropLast, R.getLast hR0, (List.dropLast_concat_getLast hR0).symm⟩
      obtain ⟨⟨uk, un, ut⟩, n⟩ := u
      have hl2 : (R' ++ [((uk, un, ut), n)]).length = R'.length + 1 := by simp
      have hv2 : vals (R' ++ [((uk, un, ut), n)]) = vals R' ++ [(uk, un, ut)] := by simp [vals]
      have hn2 : nums (R' ++ [((uk, un, ut), n)]) = nums R' ++ [n] := by simp [nums]
      rw [hl2, hv2, hn2]
      rw [hl2] at hR hlen
      have j0 : (0 : Int) < ((R'.length + 1 : Nat) : Int) := by omega
      have wj : IntKind.i64.wrap (((R'.length + 1 : Nat) : Int) - 1) = ((R'.length : Nat) : Int) := by rw [i64_wrap (by omega) (by omega)]; omega
      have je : ((R'.length : Nat) : Int).toNat = R'.length := Int.toNat_natCast _
      have j1 : (0 : Int) ≤ ((R'.length : Nat) : Int) := by omega
      have j2 : ((R'.length : Nat) : Int) < ((R'.length + 1 : Nat) : Int) := by omega
      have hvl : (vals R').length = R'.length := by simp [vals]
      have hnl : (nums R').length = R'.length := by simp [nums]
      obtain ⟨c1, c2, c3⟩ := vCs_last (vals R') (uk, un, ut) R'.length hvl
      simp only at c1 c2 c3
      have c0 : (vCs (vals R' ++ [(uk, un, ut)])).length = (R'.length + 1) * 3 := by rw [← vCs_len, List.length_append, hvl]; rfl
      have hb2 : ¬ b2 = b1 := fun e => hb e.symm
      have gn : (nums R' ++ [n]).getD R'.length 0 = n := by simp [List.getD_eq_getElem?_getD, hnl]
      have hnn := hN ((uk, un, ut), n) (List.mem_append_right _ (List.mem_singleton.2 rfl))
      simp only at hnn
      have wn : IntKind.i64.wrap (n + 1) = n + 1 := by rw [i64_wrap (by omega) (by omega)]
      by_cases hq : ((uk, un, ut) : V3) = (vk, vn, vt)
      · simp only [Prod.mk.injEq] at hq
        obtain ⟨rfl, rfl, rfl⟩ := hq
        have bq : (ut.toList == ut.toList) = true := by rw [beq_self_eq_true]
        repeat' first | (with_reducible refine And.intro (by omega) ?_) | (refine SW.seq_k fun K hK => ?_) | (refine SW.block ?_) | ((first | refine SW.region ?_ | refine SW.regionZ (id := 7) (Checked.mixed Tryz.checked) ((.one 0 [0, 1, 2, 3, 4, 5, 6, 7, 8, 9, 10] (.one 1 [1, 2, 3, 4, 5, 6, 7, 8, 9, 10] (.one 2 [2, 3, 4, 5, 6, 7, 8, 9, 10] (.one 3 [3, 6, 7, 9, 10] (.one 4 [4, 5, 6, 7, 9, 10] (.one 5 [5, 6, 7, 9, 10] (.one 6 [6, 7, 9, 10] (.one 7 [7, 9, 10] (.one 8 [8, 9, 10] (.one 9 [9, 10] (.one 10 [10] .done))))))))))) : OZ) (by kernel_rfl) ?_ | refine SW.regionD (Checked.mixed Tryz.checked) (by kernel_rfl) ?_ | refine SW.cond ?_ | refine SW.skip ?_ | refine SW.exit ?_ | refine SW.ret ?_ | (refine allF_i fun b hb => ?_; replace hD := And.intro hb hD; clear hb; try simp only [fresh_cons, fresh_nil, and_true, ne_eq, neF] at hD) | simp only [appK, appOsK]); try simp only [go_sem, hD, hli, ie, i0, w1, tv, j0, wj, je, j1, j2, true_implies, c0, hb, hb2, c1, c2, c3, gn, wn, bq]) | (refine And.intro (by omega) ?_) | (refine ifI (fun hc => ?_) (fun hc => ?_) <;> first | (exfalso; omega) | skip) | ((first | apply hK | ((iterate 1 (clear hK K)); apply hK) | ((iterate 2 (clear hK K)); apply hK) | ((iterate 3 (clear hK K)); apply hK) | ((iterate 4 (clear hK K)); apply hK) | ((iterate 5 (clear hK K)); apply hK)); clear hK K) | (refine And.intro ?_ ?_)
        rw [hAdd_same] at hC hlen hne
        refine Rnd.le (St.le_two 4 5 rfl rfl (k := .svs (vCs (vals R' ++ [(uk, un, ut)]))) (m := .ints .i64 ((nums R' ++ [n]).set R'.length (n + 1))) (by repeat (first | exact List.mem_cons_self | apply List.mem_cons_of_mem)) (by repeat (first | exact List.mem_cons_self | apply List.mem_cons_of_mem)) hb) ?_
        refine Rnd.sub (l.length - (i + 1)) (by omega) ((hI _ _).2 ⟨i + 1, R' ++ [((uk, un, ut), n + 1)], .os b1 0 (R'.length + 1) 3, .os b2 0 (R'.length + 1) 1, _, rfl, by omega, by simp; omega, hC, fun p hp => ?_, .inr ⟨hne, b1, b2, hb, by simp, by simp, ?_⟩, rfl⟩) (by repeat' (first | exact rfl | exact trivial | exact int_eq (by omega) | exact int_eq (by (rw [i64_wrap] <;> omega)) | constructor))
        · rcases List.mem_append.1 hp with hp | hp
          · have := hN p (List.mem_append_left _ hp)
            omega
          · rw [List.mem_singleton.1 hp]
            simp only
            omega
        · have e1 : vals (R' ++ [((uk, un, ut), n + 1)]) = vals R' ++ [(uk, un, ut)] := by simp [vals]
          have e2 : nums (R' ++ [((uk, un, ut), n + 1)]) = (nums R' ++ [n]).set R'.length (n + 1) := by
            rw [← hnl, List.set_append_right _ _ (Nat.le_refl _), Nat.sub_self]
            simp [nums]
          rw [e1, e2]
      · have ways : (¬ uk = vk) ∨ (uk = vk ∧ ¬ un = vn) ∨ (uk = vk ∧ un = vn ∧ ¬ ut = vt) := by
          simp only [Prod.mk.injEq] at hq
          by_cases h1 : uk = vk
          · by_cases h2 : un = vn
            · exact .inr (.inr ⟨h1, h2, fun h3 => hq ⟨h1, h2, h3⟩⟩)
            · exact .inr (.inl ⟨h1, h2⟩)
          · exact .inl h1
        rw [hAdd_new _ _ _ _ hq] at hC hlen hne
        have ba : (R'.length + 1 + 1) * 32 ≤ 140737488355328 := by omega
        have bb : (R'.length + 1 + 1) * 8 ≤ 140737488355328 := by omega
        have fin : ∀ b3 b4, ¬ b3 = b4 → HB (.os b3 0 (R'.length + 1 + 1) 3) (.os b4 0 (R'.length + 1 + 1) 1) [(b3, .svs (vCs (vals R' ++ [(uk, un, ut)]) ++ vC (vk, vn, vt))), (b4, .ints .i64 (nums R' ++ [n] ++ [1]))] (R' ++ [((uk, un, ut), n)] ++ [((vk, vn, vt), 1)]) := fun b3 b4 h34 => by
          refine .inr ⟨hne, b3, b4, h34, by simp, by simp, ?_⟩
          have e1 : vals (R' ++ [((uk, un, ut), n)] ++ [((vk, vn, vt), 1)]) = vals R' ++ [(uk, un, ut)] ++ [(vk, vn, vt)] := by simp [vals]
          have e2 : nums (R' ++ [((uk, un, ut), n)] ++ [((vk, vn, vt), 1)]) = nums R' ++ [n] ++ [1] := by simp [nums]
          rw [e1, e2, vCs_snoc]
        have hNN : ∀ p ∈ R' ++ [((uk, un, ut), n)] ++ [((vk, vn, vt), (1 : Int))], 0 ≤ p.2 ∧ p.2 ≤ ((i + 1 : Nat) : Int) := fun p hp => by
          rcases List.mem_append.1 hp with hp | hp
          · have := hN p hp
            omega
          · rw [List.mem_singleton.1 hp]
            simp only
            omega
        rcases ways with q1 | ⟨q0, q1⟩ | ⟨q0, q3, q1⟩
        · repeat' first | (with_reducible refine And.intro (by omega) ?_) | (refine SW.seq_k fun K hK => ?_) | (refine SW.block ?_) | ((first | refine SW.region ?_ | refine SW.regionZ (id := 7) (Checked.mixed Tryz.checked) ((.one 0 [0, 1, 2, 3, 4, 5, 6, 7, 8, 9, 10] (.one 1 [1, 2, 3, 4, 5, 6, 7, 8, 9, 10] (.one 2 [2, 3, 4, 5, 6, 7, 8, 9, 10] (.one 3 [3, 6, 7, 9, 10] (.one 4 [4, 5, 6, 7, 9, 10] (.one 5 [5, 6, 7, 9, 10] (.one 6 [6, 7, 9, 10] (.one 7 [7, 9, 10] (.one 8 [8, 9, 10] (.one 9 [9, 10] (.one 10 [10] .done))))))))))) : OZ) (by kernel_rfl) ?_ | refine SW.regionD (Checked.mixed Tryz.checked) (by kernel_rfl) ?_ | refine SW.cond ?_ | refine SW.skip ?_ | refine SW.exit ?_ | refine SW.ret ?_ | (refine allF_i fun b hb => ?_; replace hD := And.intro hb hD; clear hb; try simp only [fresh_cons, fresh_nil, and_true, ne_eq, neF] at hD) | simp only [appK, appOsK]); try simp only [go_sem, hD, hli, ie, i0, w1, tv, j0, wj, je, j1, j2, true_implies, c0, hb, hb2, c1, c2, c3, q1, ba, bb]) | (refine And.intro (by omega) ?_) | (refine ifI (fun hc => ?_) (fun hc => ?_) <;> first | (exfalso; omega) | skip) | ((first | apply hK | ((iterate 1 (clear hK K)); apply hK) | ((iterate 2 (clear hK K)); apply hK) | ((iterate 3 (clear hK K)); apply hK) | ((iterate 4 (clear hK K)); apply hK) | ((iterate 5 (clear hK K)); apply hK)); clear hK K) | (refine And.intro ?_ ?_)
          refine Rnd.le (St.le_two 4 5 rfl rfl (k := .svs (vCs (vals R' ++ [(uk, un, ut)]) ++ vC (vk, vn, vt))) (m := .ints .i64 (nums R' ++ [n] ++ [1])) ?_ ?_ ?_) ?_
          · repeat (first | exact List.mem_cons_self | apply List.mem_cons_of_mem)
          · repeat (first | exact List.mem_cons_self | apply List.mem_cons_of_mem)
          · simp [hD]
          refine Rnd.sub (l.length - (i + 1)) (by omega) ((hI _ _).2 ⟨i + 1, R' ++ [((uk, un, ut), n)] ++ [((vk, vn, vt), 1)], _, _, _, rfl, by omega, by simp; omega, hC, hNN, fin _ _ (by simp [hD]), rfl⟩) (by repeat' (first | exact rfl | exact trivial | exact int_eq (by omega) | exact int_eq (by (rw [i64_wrap] <;> omega)) | constructor))
        · have p0 := eq_true q0
          repeat' first | (with_reducible refine And.intro (by omega) ?_) | (refine SW.seq_k fun K hK => ?_) | (refine SW.block ?_) | ((first | refine SW.region ?_ | refine SW.regionZ (id := 7) (Checked.mixed Tryz.checked) ((.one 0 [0, 1, 2, 3, 4, 5, 6, 7, 8, 9, 10] (.one 1 [1, 2, 3, 4, 5, 6, 7, 8, 9, 10] (.one 2 [2, 3, 4, 5, 6, 7, 8, 9, 10] (.one 3 [3, 6, 7, 9, 10] (.one 4 [4, 5, 6, 7, 9, 10] (.one 5 [5, 6, 7, 9, 10] (.one 6 [6, 7, 9, 10] (.one 7 [7, 9, 10] (.one 8 [8, 9, 10] (.one 9 [9, 10] (.one 10 [10] .done))))))))))) : OZ) (by kernel_rfl) ?_ | refine SW.regionD (Checked.mixed Tryz.checked) (by kernel_rfl) ?_ | refine SW.cond ?_ | refine SW.skip ?_ | refine SW.exit ?_ | refine SW.ret ?_ | (refine allF_i fun b hb => ?_; replace hD := And.intro hb hD; clear hb; try simp only [fresh_cons, fresh_nil, and_true, ne_eq, neF] at hD) | simp only [appK, appOsK]); try simp only [go_sem, hD, hli, ie, i0, w1, tv, j0, wj, je, j1, j2, true_implies, c0, hb, hb2, c1, c2, c3, p0, q1, ba, bb]) | (refine And.intro (by omega) ?_) | (refine ifI (fun hc => ?_) (fun hc => ?_) <;> first | (exfalso; omega) | skip) | ((first | apply hK | ((iterate 1 (clear hK K)); apply hK) | ((iterate 2 (clear hK K)); apply hK) | ((iterate 3 (clear hK K)); apply hK) | ((iterate 4 (clear hK K)); apply hK) | ((iterate 5 (clear hK K)); apply hK)); clear hK K) | (refine And.intro ?_ ?_)
          refine Rnd.le (St.le_two 4 5 rfl rfl (k := .svs (vCs (vals R' ++ [(uk, un, ut)]) ++ vC (vk, vn, vt))) (m := .ints .i64 (nums R' ++ [n] ++ [1])) ?_ ?_ ?_) ?_
          · repeat (first | exact List.mem_cons_self | apply List.mem_cons_of_mem)
          · repeat (first | exact List.mem_cons_self | apply List.mem_cons_of_mem)
          · simp [hD]
          refine Rnd.sub (l.length - (i + 1)) (by omega) ((hI _ _).2 ⟨i + 1, R' ++ [((uk, un, ut), n)] ++ [((vk, vn, vt), 1)], _, _, _, rfl, by omega, by simp; omega, hC, hNN, fin _ _ (by simp [hD]), rfl⟩) (by repeat' (first | exact rfl | exact trivial | exact int_eq (by omega) | exact int_eq (by (rw [i64_wrap] <;> omega)) | constructor))
        · have q2 := str_ne q1
          have p0 := eq_true q0
          have p3 := eq_true q3
          repeat' first | (with_reducible refine And.intro (by omega) ?_) | (refine SW.seq_k fun K hK => ?_) | (refine SW.block ?_) | ((first | refine SW.region ?_ | refine SW.regionZ (id := 7) (Checked.mixed Tryz.checked) ((.one 0 [0, 1, 2, 3, 4, 5, 6, 7, 8, 9, 10] (.one 1 [1, 2, 3, 4, 5, 6, 7, 8, 9, 10] (.one 2 [2, 3, 4, 5, 6, 7, 8, 9, 10] (.one 3 [3, 6, 7, 9, 10] (.one 4 [4, 5, 6, 7, 9, 10] (.one 5 [5, 6, 7, 9, 10] (.one 6 [6, 7, 9, 10] (.one 7 [7, 9, 10] (.one 8 [8, 9, 10] (.one 9 [9, 10] (.one 10 [10] .done))))))))))) : OZ) (by kernel_rfl) ?_ | refine SW.regionD (Checked.mixed Tryz.checked) (by kernel_rfl) ?_ | refine SW.cond ?_ | refine SW.skip ?_ | refine SW.exit ?_ | refine SW.ret ?_ | (refine allF_i fun b hb => ?_; replace hD := And.intro hb hD; clear hb; try simp only [fresh_cons, fresh_nil, and_true, ne_eq, neF] at hD) | simp only [appK, appOsK]); try simp only [go_sem, hD, hli, ie, i0, w1, tv, j0, wj, je, j1, j2, true_implies, c0, hb, hb2, c1, c2, c3, p0, p3, q2, ba, bb]) | (refine And.intro (by omega) ?_) | (refine ifI (fun hc => ?_) (fun hc => ?_) <;> first | (exfalso; omega) | skip) | ((first | apply hK | ((iterate 1 (clear hK K)); apply hK) | ((iterate 2 (clear hK K)); apply hK) | ((iterate 3 (clear hK K)); apply hK) | ((iterate 4 (clear hK K)); apply hK) | ((iterate 5 (clear hK K)); apply hK)); clear hK K) | (refine And.intro ?_ ?_)
          refine Rnd.le (St.le_two 4 5 rfl rfl (k := .svs (vCs (vals R' ++ [(uk, un, ut)]) ++ vC (vk, vn, vt))) (m := .ints .i64 (nums R' ++ [n] ++ [1])) ?_ ?_ ?_) ?_
          · repeat (first | exact List.mem_cons_self | apply List.mem_cons_of_mem)
          · repeat (first | exact List.mem_cons_self | apply List.mem_cons_of_mem)
          · simp [hD]
          refine Rnd.sub (l.length - (i + 1)) (by omega) ((hI _ _).2 ⟨i + 1, R' ++ [((uk, un, ut), n)] ++ [((vk, vn, vt), 1)], _, _, _, rfl, by omega, by simp; omega, hC, hNN, fin _ _ (by simp [hD]), rfl⟩) (by repeat' (first | exact rfl | exact trivial | exact int_eq (by omega) | exact int_eq (by (rw [i64_wrap] <;> omega)) | constructor))
  · have hli : ¬ ((i : Nat) : Int) < ((l.length : Nat) : Int) := by omega
    obtain rfl : i = l.length := by omega
    rw [List.drop_length, List.foldl_nil] at hC
    subst hC
    rcases hB with ⟨rfl, rfl, rfl, rfl⟩ | ⟨hR0, b1, b2, hb, rfl, rfl, rfl⟩
    · repeat' first | (with_reducible refine And.intro (by omega) ?_) | (refine SW.seq_k fun K hK => ?_) | (refine SW.block ?_) | ((first | refine SW.region ?_ | refine SW.regionD (Checked.mixed Tryz.checked) (by kernel_rfl) ?_ | refine SW.cond ?_ | refine SW.skip ?_ | refine SW.exit ?_ | refine SW.ret ?_ | (refine allF_i fun b hb => ?_; replace hD := And.intro hb hD; clear hb; try simp only [fresh_cons, fresh_nil, and_true, ne_eq, neF] at hD) | simp only [appK, appOsK]); try simp only [go_sem, hD, hli]) | (refine And.intro (by omega) ?_) | (refine ifI (fun hc => ?_) (fun hc => ?_) <;> first | (exfalso; omega) | skip) | ((first | apply hK | ((iterate 1 (clear hK K)); apply hK) | ((iterate 2 (clear hK K)); apply hK) | ((iterate 3 (clear hK K)); apply hK) | ((iterate 4 (clear hK K)); apply hK) | ((iterate 5 (clear hK K)); apply hK)); clear hK K)
      refine retQ_le ((St.le_nil_fl (i := 2) (sz := 3) (f := vF []) rfl).trans (St.le_nil_fl (i := 3) (sz := 1) (f := fun j => [I64 (([] : List Int).getD j 0)]) rfl)) ?_
      simp only [resL_tmp, resL_nil, tupOf, go_sem, hD]
      rfl
    · have e2 := vCs_len (vals X)
      have e3 : (vals X).length = X.length := by simp [vals]
      have e4 : (nums X).length = X.length := by simp [nums]
      rw [e3] at e2
      repeat' first | (with_reducible refine And.intro (by omega) ?_) | (refine SW.seq_k fun K hK => ?_) | (refine SW.block ?_) | ((first | refine SW.region ?_ | refine SW.regionD (Checked.mixed Tryz.checked) (by kernel_rfl) ?_ | refine SW.cond ?_ | refine SW.skip ?_ | refine SW.exit ?_ | refine SW.ret ?_ | (refine allF_i fun b hb => ?_; replace hD := And.intro hb hD; clear hb; try simp only [fresh_cons, fresh_nil, and_true, ne_eq, neF] at hD) | simp only [appK, appOsK]); try simp only [go_sem, hD, hli]) | (refine And.intro (by omega) ?_) | (refine ifI (fun hc => ?_) (fun hc => ?_) <;> first | (exfalso; omega) | skip) | ((first | apply hK | ((iterate 1 (clear hK K)); apply hK) | ((iterate 2 (clear hK K)); apply hK) | ((iterate 3 (clear hK K)); apply hK) | ((iterate 4 (clear hK K)); apply hK) | ((iterate 5 (clear hK K)); apply hK)); clear hK K)
      refine retQ_le ((St.le_acc_fl (i := 2) (n := X.length) (sz := 3) (x := .os b1 0 X.length 3) (h := [(b1, .svs (vCs (vals X))), (b2, .ints .i64 (nums X))]) (h0 := [(b2, .ints .i64 (nums X))]) rfl (.inr ⟨b1, .svs (vCs (vals X)), by simp [fresh_cons, fresh_nil, hb, Ne.symm hb], rfl, e2, rfl, rfl⟩) (vF (vals X)) (fun j hj => vCs_at (vals X) j (by omega))).trans (St.le_acc_fl (i := 3) (n := X.length) (sz := 1) (x := .os b2 0 X.length 1) (h := [(b2, .ints .i64 (nums X))]) (h0 := []) rfl (.inr ⟨b2, .ints .i64 (nums X), by simp [fresh_nil], rfl, by simp [Blk.cells, e4], rfl, rfl⟩) (fun j => [I64 ((nums X).getD j 0)]) (fun j hj => ?_))) ?_
      · have : j < (nums X).length := by omega
        simp only [Blk.cells, Nat.mul_one]
        rw [List.drop_eq_getElem_cons (by rw [List.length_map]; exact this), List.take_succ_cons, List.take_zero, List.getElem_map]
        simp [this]
      · simp only [resL_tmp, resL_nil, tupOf, go_sem, hD]
        unfold VL ints
        rw [e3, e4]
end Go.Proofs.YtddkacbcecedaaaGreatDoor
