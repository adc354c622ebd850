/- AssignmentShift returns true. -/
import Derived.Test.YtockdinjmnkdoaaK4
import Derived.Test.YtockdinjmnkdoaaL6
import Derived.Test.YtockdinjmnkdoaaAz
set_option linter.unusedSimpArgs false
set_option linter.unusedVariables false
namespace Go.Ab
open Go
/-- The rules of guards, not by unfolding: the kernel then takes them one by one. -/
theorem guardB_yes2 {S : St} {b : Bool} {t : Tmp} {A B : St → Prop} : guardB (.sc (.bool b)) t true S A B = if b = true then A (S.put (some t) (.sc (.bool true))) else B (S.put (some t) (.sc (.bool false))) := propext ⟨fun h => h, fun h => h⟩
theorem guardB_no2 {S : St} {b : Bool} {t : Tmp} {A B : St → Prop} : guardB (.sc (.bool b)) t false S A B = if b = true then B (S.put (some t) (.sc (.bool true))) else A (S.put (some t) (.sc (.bool false))) := propext ⟨fun h => h, fun h => h⟩
theorem vcOps_guard2 {P : Program} {N : Nat} {ops r : List Oper} {d : Option Tmp} {ty : TypeId} {ps : String} {af : Array Edge} {K : St → Prop} {S : St} {op : Op} {j : Nat} {want : Bool} : vcOps P N ops (⟨d, op, ty, ps, af, some (j, want)⟩ :: r) K S =
    guardK (gdst ops j) want S (stepK P N ⟨d, op, ty, ps, af, some (j, want)⟩ (vcOps P N ops r K)) (fun S => dstOk N d ∧ vcOps P N ops r K (S.put d (.sc undef))) := propext ⟨fun h => h, fun h => h⟩
end Go.Ab
namespace Go.Ab.A40
open Go

theorem check_min {m : List (List Int)} {cols u v : List Int} (h : checkS m cols u v = true) (h0 : szs m true = 0) : isS m cols false = true ∧ ∀ L, isS m L false = true → sumS m cols ≤ sumS m L := by
  obtain ⟨h1, h2⟩ := check_least h h0
  refine ⟨h1, fun L hL => ?_⟩
  have := ((greatest_spec (m := neg m)).1 (by rw [neg_len]; exact h2)).2 L (by rw [neg_isS]; exact hL)
  rw [sumS, neg_sumTo] at this
  unfold sumS at this ⊢
  omega

/-- A row to which a number is added, or not. -/
def shR (m : List (List Int)) (r : Nat) (b : Int) (i : Nat) : List Int := if i = r then (m.getD i []).map (· + b) else m.getD i []
def shf (m : List (List Int)) (r : Nat) (b : Int) : List (List Int) := (List.range m.length).map (shR m r b)

theorem shf_len (m : List (List Int)) (r : Nat) (b : Int) : (shf m r b).length = m.length := by simp [shf]
theorem shR_len (m : List (List Int)) (r : Nat) (b : Int) (i : Nat) : (shR m r b i).length = (m.getD i []).length := by
  unfold shR; split <;> simp
theorem shf_row (m : List (List Int)) (r : Nat) (b : Int) {i : Nat} (hi : i < m.length) : (shf m r b).getD i [] = shR m r b i := by
  unfold shf
  simp [List.getD_eq_getElem?_getD, List.getElem?_map, List.getElem?_range hi]
theorem shR_get (m : List (List Int)) (r : Nat) (b : Int) (i : Nat) {q : Nat} (hq : q < (m.getD i []).length) : (shR m r b i).getD q 0 = (m.getD i []).getD q 0 + if i = r then b else 0 := by
  unfold shR
  split
  · simp [List.getD_eq_getElem?_getD, List.getElem?_map]
    rw [List.getD_eq_getElem?_getD] at hq
    rw [List.getElem?_eq_getElem hq]; rfl
  · simp
theorem shf_wid (m : List (List Int)) (r : Nat) (b : Int) : wid (shf m r b) = wid m := by
  unfold wid
  by_cases h : 0 < m.length
  · rw [shf_row m r b h, shR_len]
  · rw [getD_ge (by rw [shf_len]; omega), getD_ge (l := m) (by omega)]
theorem shf_isS (m : List (List Int)) (r : Nat) (b : Int) (L : List Int) (none : Bool) : isS (shf m r b) L none = isS m L none := by
  unfold isS okC
  rw [shf_len, shf_wid]

theorem shf_szs {m : List (List Int)} (r : Nat) (b : Int) (h : szs m true = 0) : szs (shf m r b) true = 0 ∨ szs (shf m r b) true = 7 := by
  obtain ⟨hv, hw⟩ := vmat_of h
  have hr := hv.rows
  have h60 := hv.w60
  have hle := hw rfl
  unfold szs
  rw [shf_len, shf_wid, if_neg (by omega), if_neg, if_neg]
  · split
    · exact .inr rfl
    · exact .inl rfl
  · rw [any_none (d := []) (fun i hi => ?_)]
    · decide
    rw [shf_len] at hi
    rw [shf_row m r b hi, good_iff, shR_len, hv.w i hi]
    exact ⟨rfl, fun _ => hle⟩
  · rw [any_none (d := []) (fun i hi => ?_)]
    · decide
    rw [shf_len] at hi
    rw [shf_row m r b hi, shR_len, hv.w i hi, decide_eq_false_iff_not]
    omega

theorem shf_sumTo {m : List (List Int)} (hv : VMat m) (r : Nat) (b : Int) {L : List Int} (hL : ∀ i, i < m.length → 0 ≤ L.getD i 0 ∧ L.getD i 0 < wid m) : ∀ j, j ≤ m.length → sumTo (shf m r b) L j = sumTo m L j + if r < j then b else 0
  | 0, _ => by simp [sumTo]
  | j + 1, hj => by
    have h := hL j (by omega)
    have hw := hv.w j (by omega)
    rw [sumTo, sumTo, shf_sumTo hv r b hL j (by omega), term, term, if_pos h.1, if_pos h.1, shf_row m r b (by omega), shR_get m r b j (by omega)]
    by_cases h1 : j = r
    · subst h1; rw [if_pos rfl, if_neg (by omega), if_pos (by omega)]; omega
    · rw [if_neg h1]
      by_cases h2 : r < j
      · rw [if_pos h2, if_pos (by omega)]; omega
      · rw [if_neg h2, if_neg (by omega)]; omega

theorem isS_cols {m : List (List Int)} {L : List Int} (h : isS m L false = true) (i : Nat) (hi : i < m.length) : 0 ≤ L.getD i 0 ∧ L.getD i 0 < wid m := by
  obtain ⟨hl, h⟩ := isS_iff.1 h
  have := h i (by omega)
  simp only [okC, Bool.and_false, Bool.false_or, Bool.and_eq_true, decide_eq_true_eq] at this
  exact this.1

theorem shf_sum {m : List (List Int)} (hv : VMat m) {r : Nat} (hr : r < m.length) (b : Int) {L : List Int} (hL : isS m L false = true) : sumS (shf m r b) L = sumS m L + b := by
  have hl := (isS_iff.1 hL).1
  rw [sumS, sumS, shf_sumTo hv r b (isS_cols hL) _ (by omega), if_pos (by omega)]

/-- **The least costs.** -/
theorem shift_least {m : List (List Int)} {r : Nat} {b : Int} (hr : r < m.length) {cols u v cols' u' v' : List Int} (h0 : szs m true = 0) (h1 : szs (shf m r b) true = 0) (hc : checkS m cols u v = true) (hc' : checkS (shf m r b) cols' u' v' = true) :
    sumS (shf m r b) cols' = sumS m cols + b := by
  have hv := (vmat_of h0).1
  obtain ⟨i1, l1⟩ := check_min hc h0
  obtain ⟨i2, l2⟩ := check_min hc' h1
  have i3 := i2
  rw [shf_isS] at i3
  have a := l1 _ i3
  have c := l2 cols (by rw [shf_isS]; exact i1)
  rw [shf_sum hv hr b i1] at c
  rw [shf_sum hv hr b i3] at c ⊢
  omega
end Go.Ab.A40
namespace Go.Proofs.Ytockdinjmnkdoaa
open Go Go.Ab Go.Ab.A40

theorem sum_bound {m : List (List Int)} {L : List Int} (hv : VMat m) (h : isS m L false = true) : -60000000000 ≤ sumS m L ∧ sumS m L ≤ 60000000000 := by
  have h1 := sumTo_le hv.small L L.length
  have h2 := (isS_iff.1 h).1
  have h3 := hv.rows
  rw [sumS]
  omega

/-- The inner loop. -/
theorem sh_in (m : List (List Int)) (rw_ dt : Int) (hrw : 0 ≤ rw_ ∧ rw_ ≤ 255) (hdt : -32768 ≤ dt ∧ dt ≤ 32767) {r : Nat} (er : Int.tmod rw_ (m.length : Int) = r) (hv : VMat m) (hrl : r < m.length) {j : Nat} (hj : j < m.length) (x : SV) (h : Heap) (b : Nat) :
    SW Try.prog 111 (blk 2 Try.f8) (nrm fun S => S.le ⟨[(10, .os b 0 (m.getD j []).length 1), (7, x), (8, I64 j), (37, I64 j), (36, I64 m.length), (35, mat .i64 m), (0, mat .i64 m), (1, .sc (.int .u8 rw_)), (2, .sc (.int .i16 dt))], (b, .ints .i64 (shR m r dt j)) :: h⟩)
      ⟨[(47, I64 0), (46, I64 (m.getD j []).length), (10, .os b 0 (m.getD j []).length 1), (7, x), (8, I64 j), (37, I64 j), (36, I64 m.length), (35, mat .i64 m), (0, mat .i64 m), (1, .sc (.int .u8 rw_)), (2, .sc (.int .i16 dt))], (b, .ints .i64 (m.getD j [])) :: h⟩ := by
  have ew1 : IntKind.i64.wrap rw_ = rw_ := i64_wrap (by omega) (by omega)
  have ew2 : IntKind.i64.wrap dt = dt := i64_wrap (by omega) (by omega)
  have hrows := hv.rows
  have hw60 := hv.w60
  have hwj := hv.w j hj
  have hne : ¬ (m.length : Int) = 0 := by omega
  conv => arg 3; whnf
  refine SW.block ?_
  obtain ⟨J, hJ⟩ : ∃ I : Nat → St → Prop, ∀ n S, I n S ↔ (∃ (k : Nat) (l : List Int), n = (m.getD j []).length - k ∧ k ≤ (m.getD j []).length ∧ l.length = (m.getD j []).length ∧ (∀ q, q < k → l.getD q 0 = (shR m r dt j).getD q 0) ∧ (∀ q, k ≤ q → l.getD q 0 = (m.getD j []).getD q 0) ∧
    S = ⟨[(47, I64 k), (46, I64 (m.getD j []).length), (10, .os b 0 (m.getD j []).length 1), (7, x), (8, I64 j), (37, I64 j), (36, I64 m.length), (35, mat .i64 m), (0, mat .i64 m), (1, .sc (.int .u8 rw_)), (2, .sc (.int .i16 dt))], (b, .ints .i64 l) :: h⟩) := ⟨fun n S => _, fun _ _ => Iff.rfl⟩
  refine SW.loop' J (m.getD j []).length ((hJ _ _).2 ⟨0, _, rfl, Nat.zero_le _, rfl, fun q hq => absurd hq (by omega), fun _ _ => rfl, rfl⟩) (by repeat' (first | exact rfl | exact trivial | exact int_eq (by omega) | exact int_eq (by (rw [i64_wrap] <;> omega)) | constructor)) ?_
  intro n S hIn
  obtain ⟨k, l, rfl, hk, hl, h1, h2, rfl⟩ := (hJ _ _).1 hIn
  clear hIn
  have he := hv.small j k
  have h2k := h2 k (Nat.le_refl _)
  have hshk := fun h => shR_get m r dt j (q := k) h
  have en : IntKind.i64.wrap ((m.getD j []).getD k 0 + dt) = (m.getD j []).getD k 0 + dt := by rw [i64_wrap] <;> omega
  repeat' first
    | (refine SW.seq_k fun K hK => ?_)
    | (refine SW.block ?_)
    | (refine SW.region ?_; simp only [go_sem, ↓reduceIte, reduceCtorEq, Nat.reduceAdd, Nat.reduceMul, Nat.reduceSub, Nat.reduceLT, Nat.reduceLeDiff, Nat.reduceEqDiff, Nat.reduceBEq, Nat.reduceBneDiff, Int.reduceToNat, Int.toNat_natCast, ew1,ew2,er,h2k,en])
    | (refine SW.regionD (Checked.mixed Try.checked) (by kernel_rfl) ?_; simp only [go_sem, ↓reduceIte, reduceCtorEq, Nat.reduceAdd, Nat.reduceMul, Nat.reduceSub, Nat.reduceLT, Nat.reduceLeDiff, Nat.reduceEqDiff, Nat.reduceBEq, Nat.reduceBneDiff, Int.reduceToNat, Int.toNat_natCast, ew1,ew2,er,h2k,en])
    | (refine SW.cond ?_; simp only [go_sem, ↓reduceIte, reduceCtorEq, Nat.reduceAdd, Nat.reduceMul, Nat.reduceSub, Nat.reduceLT, Nat.reduceLeDiff, Nat.reduceEqDiff, Nat.reduceBEq, Nat.reduceBneDiff, Int.reduceToNat, Int.toNat_natCast, ew1,ew2,er,h2k,en])
    | (refine SW.skip ?_; try simp only [go_sem, ↓reduceIte, reduceCtorEq, Nat.reduceAdd, Nat.reduceMul, Nat.reduceSub, Nat.reduceLT, Nat.reduceLeDiff, Nat.reduceEqDiff, Nat.reduceBEq, Nat.reduceBneDiff, Int.reduceToNat, Int.toNat_natCast, ew1,ew2,er,h2k,en])
    | (refine SW.exit ?_; try simp only [go_sem, ↓reduceIte, reduceCtorEq, Nat.reduceAdd, Nat.reduceMul, Nat.reduceSub, Nat.reduceLT, Nat.reduceLeDiff, Nat.reduceEqDiff, Nat.reduceBEq, Nat.reduceBneDiff, Int.reduceToNat, Int.toNat_natCast, ew1,ew2,er,h2k,en])
    | (refine SW.ret ?_; try simp only [go_sem, ↓reduceIte, reduceCtorEq, Nat.reduceAdd, Nat.reduceMul, Nat.reduceSub, Nat.reduceLT, Nat.reduceLeDiff, Nat.reduceEqDiff, Nat.reduceBEq, Nat.reduceBneDiff, Int.reduceToNat, Int.toNat_natCast, ew1,ew2,er,h2k,en])
    | (refine And.intro (by omega) ?_)
    | (first | (apply hK; clear hK K) | (clear hK K; apply hK; clear hK K) | (clear hK K; clear hK K; apply hK; clear hK K) | (clear hK K; clear hK K; clear hK K; apply hK; clear hK K) | (clear hK K; clear hK K; clear hK K; clear hK K; apply hK; clear hK K) | (clear hK K; clear hK K; clear hK K; clear hK K; clear hK K; apply hK; clear hK K))
  refine ifI (fun hc => ?_) (fun hc => ?_)
  · have hshk2 := hshk (by omega)
    repeat' first
      | (refine SW.seq_k fun K hK => ?_)
      | (refine SW.block ?_)
      | (refine SW.region ?_; simp only [go_sem, ↓reduceIte, reduceCtorEq, Nat.reduceAdd, Nat.reduceMul, Nat.reduceSub, Nat.reduceLT, Nat.reduceLeDiff, Nat.reduceEqDiff, Nat.reduceBEq, Nat.reduceBneDiff, Int.reduceToNat, Int.toNat_natCast, ew1,ew2,er,h2k,en])
      | (refine SW.regionD (Checked.mixed Try.checked) (by kernel_rfl) ?_; simp only [go_sem, ↓reduceIte, reduceCtorEq, Nat.reduceAdd, Nat.reduceMul, Nat.reduceSub, Nat.reduceLT, Nat.reduceLeDiff, Nat.reduceEqDiff, Nat.reduceBEq, Nat.reduceBneDiff, Int.reduceToNat, Int.toNat_natCast, ew1,ew2,er,h2k,en])
      | (refine SW.cond ?_; simp only [go_sem, ↓reduceIte, reduceCtorEq, Nat.reduceAdd, Nat.reduceMul, Nat.reduceSub, Nat.reduceLT, Nat.reduceLeDiff, Nat.reduceEqDiff, Nat.reduceBEq, Nat.reduceBneDiff, Int.reduceToNat, Int.toNat_natCast, ew1,ew2,er,h2k,en])
      | (refine SW.skip ?_; try simp only [go_sem, ↓reduceIte, reduceCtorEq, Nat.reduceAdd, Nat.reduceMul, Nat.reduceSub, Nat.reduceLT, Nat.reduceLeDiff, Nat.reduceEqDiff, Nat.reduceBEq, Nat.reduceBneDiff, Int.reduceToNat, Int.toNat_natCast, ew1,ew2,er,h2k,en])
      | (refine SW.exit ?_; try simp only [go_sem, ↓reduceIte, reduceCtorEq, Nat.reduceAdd, Nat.reduceMul, Nat.reduceSub, Nat.reduceLT, Nat.reduceLeDiff, Nat.reduceEqDiff, Nat.reduceBEq, Nat.reduceBneDiff, Int.reduceToNat, Int.toNat_natCast, ew1,ew2,er,h2k,en])
      | (refine SW.ret ?_; try simp only [go_sem, ↓reduceIte, reduceCtorEq, Nat.reduceAdd, Nat.reduceMul, Nat.reduceSub, Nat.reduceLT, Nat.reduceLeDiff, Nat.reduceEqDiff, Nat.reduceBEq, Nat.reduceBneDiff, Int.reduceToNat, Int.toNat_natCast, ew1,ew2,er,h2k,en])
      | (refine And.intro (by omega) ?_)
      | (first | (apply hK; clear hK K) | (clear hK K; apply hK; clear hK K) | (clear hK K; clear hK K; apply hK; clear hK K) | (clear hK K; clear hK K; clear hK K; apply hK; clear hK K) | (clear hK K; clear hK K; clear hK K; clear hK K; apply hK; clear hK K) | (clear hK K; clear hK K; clear hK K; clear hK K; clear hK K; apply hK; clear hK K))
    refine ifI (fun hc => ?_) (fun hc => ?_)
    · rw [if_pos (by omega)] at hshk2
      repeat' first
        | (refine SW.seq_k fun K hK => ?_)
        | (refine SW.block ?_)
        | (refine SW.region ?_; simp only [go_sem, ↓reduceIte, reduceCtorEq, Nat.reduceAdd, Nat.reduceMul, Nat.reduceSub, Nat.reduceLT, Nat.reduceLeDiff, Nat.reduceEqDiff, Nat.reduceBEq, Nat.reduceBneDiff, Int.reduceToNat, Int.toNat_natCast, ew1,ew2,er,h2k,en])
        | (refine SW.regionD (Checked.mixed Try.checked) (by kernel_rfl) ?_; simp only [go_sem, ↓reduceIte, reduceCtorEq, Nat.reduceAdd, Nat.reduceMul, Nat.reduceSub, Nat.reduceLT, Nat.reduceLeDiff, Nat.reduceEqDiff, Nat.reduceBEq, Nat.reduceBneDiff, Int.reduceToNat, Int.toNat_natCast, ew1,ew2,er,h2k,en])
        | (refine SW.cond ?_; simp only [go_sem, ↓reduceIte, reduceCtorEq, Nat.reduceAdd, Nat.reduceMul, Nat.reduceSub, Nat.reduceLT, Nat.reduceLeDiff, Nat.reduceEqDiff, Nat.reduceBEq, Nat.reduceBneDiff, Int.reduceToNat, Int.toNat_natCast, ew1,ew2,er,h2k,en])
        | (refine SW.skip ?_; try simp only [go_sem, ↓reduceIte, reduceCtorEq, Nat.reduceAdd, Nat.reduceMul, Nat.reduceSub, Nat.reduceLT, Nat.reduceLeDiff, Nat.reduceEqDiff, Nat.reduceBEq, Nat.reduceBneDiff, Int.reduceToNat, Int.toNat_natCast, ew1,ew2,er,h2k,en])
        | (refine SW.exit ?_; try simp only [go_sem, ↓reduceIte, reduceCtorEq, Nat.reduceAdd, Nat.reduceMul, Nat.reduceSub, Nat.reduceLT, Nat.reduceLeDiff, Nat.reduceEqDiff, Nat.reduceBEq, Nat.reduceBneDiff, Int.reduceToNat, Int.toNat_natCast, ew1,ew2,er,h2k,en])
        | (refine SW.ret ?_; try simp only [go_sem, ↓reduceIte, reduceCtorEq, Nat.reduceAdd, Nat.reduceMul, Nat.reduceSub, Nat.reduceLT, Nat.reduceLeDiff, Nat.reduceEqDiff, Nat.reduceBEq, Nat.reduceBneDiff, Int.reduceToNat, Int.toNat_natCast, ew1,ew2,er,h2k,en])
        | (refine And.intro (by omega) ?_)
        | (refine ifI (fun hc => ?_) (fun hc => ?_) <;> first | (exfalso; omega) | skip)
        | (first | (apply hK; clear hK K) | (clear hK K; apply hK; clear hK K) | (clear hK K; clear hK K; apply hK; clear hK K) | (clear hK K; clear hK K; clear hK K; apply hK; clear hK K) | (clear hK K; clear hK K; clear hK K; clear hK K; apply hK; clear hK K) | (clear hK K; clear hK K; clear hK K; clear hK K; clear hK K; apply hK; clear hK K))
      refine Rnd.sub ((m.getD j []).length - (k + 1)) (by omega) ((hJ _ _).2 ⟨k + 1, l.set k ((m.getD j []).getD k 0 + dt), rfl, by omega, by simpa using hl, fun q hq => ?_, fun q hq => ?_, rfl⟩) (by repeat' (first | exact rfl | exact trivial | exact int_eq (by omega) | exact int_eq (by (rw [i64_wrap] <;> omega)) | constructor))
      · rw [gset (by omega)]
        split
        · rename_i e; rw [← e, hshk2]
        · exact h1 q (by omega)
      · rw [gset (by omega), if_neg (by omega)]
        exact h2 q (by omega)
    · rw [if_neg (by omega), Int.add_zero] at hshk2
      repeat' first
        | (refine SW.seq_k fun K hK => ?_)
        | (refine SW.block ?_)
        | (refine SW.region ?_; simp only [go_sem, ↓reduceIte, reduceCtorEq, Nat.reduceAdd, Nat.reduceMul, Nat.reduceSub, Nat.reduceLT, Nat.reduceLeDiff, Nat.reduceEqDiff, Nat.reduceBEq, Nat.reduceBneDiff, Int.reduceToNat, Int.toNat_natCast, ew1,ew2,er,h2k,en])
        | (refine SW.regionD (Checked.mixed Try.checked) (by kernel_rfl) ?_; simp only [go_sem, ↓reduceIte, reduceCtorEq, Nat.reduceAdd, Nat.reduceMul, Nat.reduceSub, Nat.reduceLT, Nat.reduceLeDiff, Nat.reduceEqDiff, Nat.reduceBEq, Nat.reduceBneDiff, Int.reduceToNat, Int.toNat_natCast, ew1,ew2,er,h2k,en])
        | (refine SW.cond ?_; simp only [go_sem, ↓reduceIte, reduceCtorEq, Nat.reduceAdd, Nat.reduceMul, Nat.reduceSub, Nat.reduceLT, Nat.reduceLeDiff, Nat.reduceEqDiff, Nat.reduceBEq, Nat.reduceBneDiff, Int.reduceToNat, Int.toNat_natCast, ew1,ew2,er,h2k,en])
        | (refine SW.skip ?_; try simp only [go_sem, ↓reduceIte, reduceCtorEq, Nat.reduceAdd, Nat.reduceMul, Nat.reduceSub, Nat.reduceLT, Nat.reduceLeDiff, Nat.reduceEqDiff, Nat.reduceBEq, Nat.reduceBneDiff, Int.reduceToNat, Int.toNat_natCast, ew1,ew2,er,h2k,en])
        | (refine SW.exit ?_; try simp only [go_sem, ↓reduceIte, reduceCtorEq, Nat.reduceAdd, Nat.reduceMul, Nat.reduceSub, Nat.reduceLT, Nat.reduceLeDiff, Nat.reduceEqDiff, Nat.reduceBEq, Nat.reduceBneDiff, Int.reduceToNat, Int.toNat_natCast, ew1,ew2,er,h2k,en])
        | (refine SW.ret ?_; try simp only [go_sem, ↓reduceIte, reduceCtorEq, Nat.reduceAdd, Nat.reduceMul, Nat.reduceSub, Nat.reduceLT, Nat.reduceLeDiff, Nat.reduceEqDiff, Nat.reduceBEq, Nat.reduceBneDiff, Int.reduceToNat, Int.toNat_natCast, ew1,ew2,er,h2k,en])
        | (refine And.intro (by omega) ?_)
        | (refine ifI (fun hc => ?_) (fun hc => ?_) <;> first | (exfalso; omega) | skip)
        | (first | (apply hK; clear hK K) | (clear hK K; apply hK; clear hK K) | (clear hK K; clear hK K; apply hK; clear hK K) | (clear hK K; clear hK K; clear hK K; apply hK; clear hK K) | (clear hK K; clear hK K; clear hK K; clear hK K; apply hK; clear hK K) | (clear hK K; clear hK K; clear hK K; clear hK K; clear hK K; apply hK; clear hK K))
      refine Rnd.sub ((m.getD j []).length - (k + 1)) (by omega) ((hJ _ _).2 ⟨k + 1, l, rfl, by omega, hl, fun q hq => ?_, fun q hq => h2 q (by omega), rfl⟩) (by repeat' (first | exact rfl | exact trivial | exact int_eq (by omega) | exact int_eq (by (rw [i64_wrap] <;> omega)) | constructor))
      by_cases e : q = k
      · rw [e, hshk2, h2k]
      · exact h1 q (by omega)
  · refine SW.exit ?_; try simp only [go_sem, ↓reduceIte, reduceCtorEq, Nat.reduceAdd, Nat.reduceMul, Nat.reduceSub, Nat.reduceLT, Nat.reduceLeDiff, Nat.reduceEqDiff, Nat.reduceBEq, Nat.reduceBneDiff, Int.reduceToNat, Int.toNat_natCast]
    obtain rfl : l = shR m r dt j := by
      refine List.ext_getElem (by rw [hl, shR_len]) (fun q hq1 hq2 => ?_)
      have := h1 q (by omega)
      rw [getD_list _ _ _ hq1, getD_list _ _ _ hq2] at this
      exact this
    exact St.le_sub (by repeat' (first | exact rfl | exact trivial | exact int_eq (by omega) | exact int_eq (by (rw [i64_wrap] <;> omega)) | constructor))

/-- The outer loop. -/
theorem sh_out (m : List (List Int)) (rw_ dt : Int) (hrw : 0 ≤ rw_ ∧ rw_ ≤ 255) (hdt : -32768 ≤ dt ∧ dt ≤ 32767) {r : Nat} (er : Int.tmod rw_ (m.length : Int) = r) (hv : VMat m) (hrl : r < m.length) :
    SW Try.prog 111 (blk 0 Try.f8) (nrm fun S => S.le ⟨[(7, mat .i64 (shf m r dt)), (0, mat .i64 m), (1, .sc (.int .u8 rw_)), (2, .sc (.int .i16 dt))], []⟩) ⟨[(7, .sc (.slice none 0 0)), (37, I64 0), (36, I64 m.length), (35, mat .i64 m), (0, mat .i64 m), (1, .sc (.int .u8 rw_)), (2, .sc (.int .i16 dt))], []⟩ := by
  have hrows := hv.rows
  have hw60 := hv.w60
  conv => arg 3; whnf
  refine SW.block ?_
  obtain ⟨I, hI⟩ : ∃ I : Nat → St → Prop, ∀ n S, I n S ↔ (∃ (j : Nat) (x : SV) (h : Heap), n = m.length - j ∧ j ≤ m.length ∧ Acc 1 x h [] j ((List.range j).map fun i => ints .i64 (shR m r dt i)) ∧ S = ⟨[(7, x), (37, I64 j), (36, I64 m.length), (35, mat .i64 m), (0, mat .i64 m), (1, .sc (.int .u8 rw_)), (2, .sc (.int .i16 dt))], h⟩) := ⟨fun n S => _, fun _ _ => Iff.rfl⟩
  refine SW.loop' I m.length ((hI _ _).2 ⟨0, _, _, rfl, Nat.zero_le _, Acc.nil _ _, rfl⟩) (by repeat' (first | exact rfl | exact trivial | exact int_eq (by omega) | exact int_eq (by (rw [i64_wrap] <;> omega)) | constructor)) ?_
  intro n S hIn
  obtain ⟨j, x, h, rfl, hj, hA, rfl⟩ := (hI _ _).1 hIn
  clear hIn
  have hw := hv.w j
  repeat' first
    | (refine SW.seq_k fun K hK => ?_)
    | (refine SW.block ?_)
    | (refine SW.region ?_; simp only [go_sem, ↓reduceIte, reduceCtorEq, Nat.reduceAdd, Nat.reduceMul, Nat.reduceSub, Nat.reduceLT, Nat.reduceLeDiff, Nat.reduceEqDiff, Nat.reduceBEq, Nat.reduceBneDiff, Int.reduceToNat, Int.toNat_natCast])
    | (refine SW.regionD (Checked.mixed Try.checked) (by kernel_rfl) ?_; simp only [go_sem, ↓reduceIte, reduceCtorEq, Nat.reduceAdd, Nat.reduceMul, Nat.reduceSub, Nat.reduceLT, Nat.reduceLeDiff, Nat.reduceEqDiff, Nat.reduceBEq, Nat.reduceBneDiff, Int.reduceToNat, Int.toNat_natCast])
    | (refine SW.cond ?_; simp only [go_sem, ↓reduceIte, reduceCtorEq, Nat.reduceAdd, Nat.reduceMul, Nat.reduceSub, Nat.reduceLT, Nat.reduceLeDiff, Nat.reduceEqDiff, Nat.reduceBEq, Nat.reduceBneDiff, Int.reduceToNat, Int.toNat_natCast])
    | (refine SW.skip ?_; try simp only [go_sem, ↓reduceIte, reduceCtorEq, Nat.reduceAdd, Nat.reduceMul, Nat.reduceSub, Nat.reduceLT, Nat.reduceLeDiff, Nat.reduceEqDiff, Nat.reduceBEq, Nat.reduceBneDiff, Int.reduceToNat, Int.toNat_natCast])
    | (refine SW.exit ?_; try simp only [go_sem, ↓reduceIte, reduceCtorEq, Nat.reduceAdd, Nat.reduceMul, Nat.reduceSub, Nat.reduceLT, Nat.reduceLeDiff, Nat.reduceEqDiff, Nat.reduceBEq, Nat.reduceBneDiff, Int.reduceToNat, Int.toNat_natCast])
    | (refine SW.ret ?_; try simp only [go_sem, ↓reduceIte, reduceCtorEq, Nat.reduceAdd, Nat.reduceMul, Nat.reduceSub, Nat.reduceLT, Nat.reduceLeDiff, Nat.reduceEqDiff, Nat.reduceBEq, Nat.reduceBneDiff, Int.reduceToNat, Int.toNat_natCast])
    | (refine And.intro (by omega) ?_)
    | (first | (apply hK; clear hK K) | (clear hK K; apply hK; clear hK K) | (clear hK K; clear hK K; apply hK; clear hK K) | (clear hK K; clear hK K; clear hK K; apply hK; clear hK K) | (clear hK K; clear hK K; clear hK K; clear hK K; apply hK; clear hK K) | (clear hK K; clear hK K; clear hK K; clear hK K; clear hK K; apply hK; clear hK K))
  refine ifI (fun hc => ?_) (fun hc => ?_)
  · have hwj := hw (by omega)
    repeat' first
      | (refine SW.seq_k fun K hK => ?_)
      | (refine SW.region ?_; simp only [go_sem, ↓reduceIte, reduceCtorEq, Nat.reduceAdd, Nat.reduceMul, Nat.reduceSub, Nat.reduceLT, Nat.reduceLeDiff, Nat.reduceEqDiff, Nat.reduceBEq, Nat.reduceBneDiff, Int.reduceToNat, Int.toNat_natCast])
      | (refine SW.regionD (Checked.mixed Try.checked) (by kernel_rfl) ?_; simp only [go_sem, ↓reduceIte, reduceCtorEq, Nat.reduceAdd, Nat.reduceMul, Nat.reduceSub, Nat.reduceLT, Nat.reduceLeDiff, Nat.reduceEqDiff, Nat.reduceBEq, Nat.reduceBneDiff, Int.reduceToNat, Int.toNat_natCast])
      | (refine SW.cond ?_; simp only [go_sem, ↓reduceIte, reduceCtorEq, Nat.reduceAdd, Nat.reduceMul, Nat.reduceSub, Nat.reduceLT, Nat.reduceLeDiff, Nat.reduceEqDiff, Nat.reduceBEq, Nat.reduceBneDiff, Int.reduceToNat, Int.toNat_natCast])
      | (refine SW.skip ?_; try simp only [go_sem, ↓reduceIte, reduceCtorEq, Nat.reduceAdd, Nat.reduceMul, Nat.reduceSub, Nat.reduceLT, Nat.reduceLeDiff, Nat.reduceEqDiff, Nat.reduceBEq, Nat.reduceBneDiff, Int.reduceToNat, Int.toNat_natCast])
      | (refine SW.exit ?_; try simp only [go_sem, ↓reduceIte, reduceCtorEq, Nat.reduceAdd, Nat.reduceMul, Nat.reduceSub, Nat.reduceLT, Nat.reduceLeDiff, Nat.reduceEqDiff, Nat.reduceBEq, Nat.reduceBneDiff, Int.reduceToNat, Int.toNat_natCast])
      | (refine SW.ret ?_; try simp only [go_sem, ↓reduceIte, reduceCtorEq, Nat.reduceAdd, Nat.reduceMul, Nat.reduceSub, Nat.reduceLT, Nat.reduceLeDiff, Nat.reduceEqDiff, Nat.reduceBEq, Nat.reduceBneDiff, Int.reduceToNat, Int.toNat_natCast])
      | (refine And.intro (by omega) ?_)
      | (refine ifI (fun hc => ?_) (fun hc => ?_) <;> first | (exfalso; omega) | skip)
      | (first | (apply hK; clear hK K) | (clear hK K; apply hK; clear hK K) | (clear hK K; clear hK K; apply hK; clear hK K) | (clear hK K; clear hK K; clear hK K; apply hK; clear hK K) | (clear hK K; clear hK K; clear hK K; clear hK K; apply hK; clear hK K) | (clear hK K; clear hK K; clear hK K; clear hK K; clear hK K; apply hK; clear hK K))
      | (refine Call.of_pure (awake) ?_; try simp only [go_sem, ↓reduceIte, reduceCtorEq, Nat.reduceAdd, Nat.reduceMul, Nat.reduceSub, Nat.reduceLT, Nat.reduceLeDiff, Nat.reduceEqDiff, Nat.reduceBEq, Nat.reduceBneDiff, Int.reduceToNat, Int.toNat_natCast])
      | (refine ⟨_, awake, ?_⟩; try simp only [go_sem, ↓reduceIte, reduceCtorEq, Nat.reduceAdd, Nat.reduceMul, Nat.reduceSub, Nat.reduceLT, Nat.reduceLeDiff, Nat.reduceEqDiff, Nat.reduceBEq, Nat.reduceBneDiff, Int.reduceToNat, Int.toNat_natCast])
      | (refine allF_i fun b hb => ?_; try simp only [fresh_cons, fresh_nil, and_true, ne_eq, go_sem, ↓reduceIte, reduceCtorEq, Nat.reduceAdd, Nat.reduceMul, Nat.reduceSub, Nat.reduceLT, Nat.reduceLeDiff, Nat.reduceEqDiff, Nat.reduceBEq, Nat.reduceBneDiff, Int.reduceToNat, Int.toNat_natCast] at hb; try simp only [go_sem, ↓reduceIte, reduceCtorEq, Nat.reduceAdd, Nat.reduceMul, Nat.reduceSub, Nat.reduceLT, Nat.reduceLeDiff, Nat.reduceEqDiff, Nat.reduceBEq, Nat.reduceBneDiff, Int.reduceToNat, Int.toNat_natCast, hb])
      | (simp only [appK, appOsK, go_sem, ↓reduceIte, reduceCtorEq, Nat.reduceAdd, Nat.reduceMul, Nat.reduceSub, Nat.reduceLT, Nat.reduceLeDiff, Nat.reduceEqDiff, Nat.reduceBEq, Nat.reduceBneDiff, Int.reduceToNat, Int.toNat_natCast])
      | fail
    refine SW.block ?_
    repeat' first
      | (refine SW.seq_k fun K hK => ?_)
      | (refine SW.region ?_; simp only [go_sem, ↓reduceIte, reduceCtorEq, Nat.reduceAdd, Nat.reduceMul, Nat.reduceSub, Nat.reduceLT, Nat.reduceLeDiff, Nat.reduceEqDiff, Nat.reduceBEq, Nat.reduceBneDiff, Int.reduceToNat, Int.toNat_natCast])
      | (refine SW.regionD (Checked.mixed Try.checked) (by kernel_rfl) ?_; simp only [go_sem, ↓reduceIte, reduceCtorEq, Nat.reduceAdd, Nat.reduceMul, Nat.reduceSub, Nat.reduceLT, Nat.reduceLeDiff, Nat.reduceEqDiff, Nat.reduceBEq, Nat.reduceBneDiff, Int.reduceToNat, Int.toNat_natCast])
      | (refine SW.cond ?_; simp only [go_sem, ↓reduceIte, reduceCtorEq, Nat.reduceAdd, Nat.reduceMul, Nat.reduceSub, Nat.reduceLT, Nat.reduceLeDiff, Nat.reduceEqDiff, Nat.reduceBEq, Nat.reduceBneDiff, Int.reduceToNat, Int.toNat_natCast])
      | (refine SW.skip ?_; try simp only [go_sem, ↓reduceIte, reduceCtorEq, Nat.reduceAdd, Nat.reduceMul, Nat.reduceSub, Nat.reduceLT, Nat.reduceLeDiff, Nat.reduceEqDiff, Nat.reduceBEq, Nat.reduceBneDiff, Int.reduceToNat, Int.toNat_natCast])
      | (refine SW.exit ?_; try simp only [go_sem, ↓reduceIte, reduceCtorEq, Nat.reduceAdd, Nat.reduceMul, Nat.reduceSub, Nat.reduceLT, Nat.reduceLeDiff, Nat.reduceEqDiff, Nat.reduceBEq, Nat.reduceBneDiff, Int.reduceToNat, Int.toNat_natCast])
      | (refine SW.ret ?_; try simp only [go_sem, ↓reduceIte, reduceCtorEq, Nat.reduceAdd, Nat.reduceMul, Nat.reduceSub, Nat.reduceLT, Nat.reduceLeDiff, Nat.reduceEqDiff, Nat.reduceBEq, Nat.reduceBneDiff, Int.reduceToNat, Int.toNat_natCast])
      | (refine And.intro (by omega) ?_)
      | (refine ifI (fun hc => ?_) (fun hc => ?_) <;> first | (exfalso; omega) | skip)
      | (first | (apply hK; clear hK K) | (clear hK K; apply hK; clear hK K) | (clear hK K; clear hK K; apply hK; clear hK K) | (clear hK K; clear hK K; clear hK K; apply hK; clear hK K) | (clear hK K; clear hK K; clear hK K; clear hK K; apply hK; clear hK K) | (clear hK K; clear hK K; clear hK K; clear hK K; clear hK K; apply hK; clear hK K))
      | (refine Call.of_pure (awake) ?_; try simp only [go_sem, ↓reduceIte, reduceCtorEq, Nat.reduceAdd, Nat.reduceMul, Nat.reduceSub, Nat.reduceLT, Nat.reduceLeDiff, Nat.reduceEqDiff, Nat.reduceBEq, Nat.reduceBneDiff, Int.reduceToNat, Int.toNat_natCast])
      | (refine ⟨_, awake, ?_⟩; try simp only [go_sem, ↓reduceIte, reduceCtorEq, Nat.reduceAdd, Nat.reduceMul, Nat.reduceSub, Nat.reduceLT, Nat.reduceLeDiff, Nat.reduceEqDiff, Nat.reduceBEq, Nat.reduceBneDiff, Int.reduceToNat, Int.toNat_natCast])
      | (refine allF_i fun b hb => ?_; try simp only [fresh_cons, fresh_nil, and_true, ne_eq, go_sem, ↓reduceIte, reduceCtorEq, Nat.reduceAdd, Nat.reduceMul, Nat.reduceSub, Nat.reduceLT, Nat.reduceLeDiff, Nat.reduceEqDiff, Nat.reduceBEq, Nat.reduceBneDiff, Int.reduceToNat, Int.toNat_natCast] at hb; try simp only [go_sem, ↓reduceIte, reduceCtorEq, Nat.reduceAdd, Nat.reduceMul, Nat.reduceSub, Nat.reduceLT, Nat.reduceLeDiff, Nat.reduceEqDiff, Nat.reduceBEq, Nat.reduceBneDiff, Int.reduceToNat, Int.toNat_natCast, hb])
      | (simp only [appK, appOsK, go_sem, ↓reduceIte, reduceCtorEq, Nat.reduceAdd, Nat.reduceMul, Nat.reduceSub, Nat.reduceLT, Nat.reduceLeDiff, Nat.reduceEqDiff, Nat.reduceBEq, Nat.reduceBneDiff, Int.reduceToNat, Int.toNat_natCast])
      | fail
    refine SW.le (St.le_blk (k := .svs (List.map (fun n => SV.sc (Value.int IntKind.i64 n)) (m.getD j []))) (b := b) (k' := .ints .i64 (m.getD j [])) (by rw [find_cons, if_pos rfl]) rfl) ?_
    rw [upd_cons, if_pos rfl]
    refine SW.cut _ (SW.le (St.le_sub (by repeat' (first | exact rfl | exact trivial | exact int_eq (by omega) | exact int_eq (by (rw [i64_wrap] <;> omega)) | constructor))) (sh_in m rw_ dt hrw hdt er hv hrl (by omega) x h b)) ?_
    intro S' hle
    try simp only [go_sem, ↓reduceIte, reduceCtorEq, Nat.reduceAdd, Nat.reduceMul, Nat.reduceSub, Nat.reduceLT, Nat.reduceLeDiff, Nat.reduceEqDiff, Nat.reduceBEq, Nat.reduceBneDiff, Int.reduceToNat, Int.toNat_natCast]
    first | (apply hK; clear hK K) | (clear hK K; apply hK; clear hK K) | (clear hK K; clear hK K; apply hK; clear hK K) | (clear hK K; clear hK K; clear hK K; apply hK; clear hK K) | (clear hK K; clear hK K; clear hK K; clear hK K; apply hK; clear hK K) | (clear hK K; clear hK K; clear hK K; clear hK K; clear hK K; apply hK; clear hK K)
    refine SW.le hle ?_
    clear hle
    refine SW.le (St.le_ints (i := 10) (b := b) .i64 (shR m r dt j) rfl (by rw [shR_len]) (by rw [find_cons, if_pos rfl]) rfl) ?_
    rw [del_head]
    repeat' first
      | (refine SW.seq_k fun K hK => ?_)
      | (refine SW.block ?_)
      | (refine SW.region ?_; simp only [go_sem, ↓reduceIte, reduceCtorEq, Nat.reduceAdd, Nat.reduceMul, Nat.reduceSub, Nat.reduceLT, Nat.reduceLeDiff, Nat.reduceEqDiff, Nat.reduceBEq, Nat.reduceBneDiff, Int.reduceToNat, Int.toNat_natCast])
      | (refine SW.regionD (Checked.mixed Try.checked) (by kernel_rfl) ?_; simp only [go_sem, ↓reduceIte, reduceCtorEq, Nat.reduceAdd, Nat.reduceMul, Nat.reduceSub, Nat.reduceLT, Nat.reduceLeDiff, Nat.reduceEqDiff, Nat.reduceBEq, Nat.reduceBneDiff, Int.reduceToNat, Int.toNat_natCast])
      | (refine SW.cond ?_; simp only [go_sem, ↓reduceIte, reduceCtorEq, Nat.reduceAdd, Nat.reduceMul, Nat.reduceSub, Nat.reduceLT, Nat.reduceLeDiff, Nat.reduceEqDiff, Nat.reduceBEq, Nat.reduceBneDiff, Int.reduceToNat, Int.toNat_natCast])
      | (refine SW.skip ?_; try simp only [go_sem, ↓reduceIte, reduceCtorEq, Nat.reduceAdd, Nat.reduceMul, Nat.reduceSub, Nat.reduceLT, Nat.reduceLeDiff, Nat.reduceEqDiff, Nat.reduceBEq, Nat.reduceBneDiff, Int.reduceToNat, Int.toNat_natCast])
      | (refine SW.exit ?_; try simp only [go_sem, ↓reduceIte, reduceCtorEq, Nat.reduceAdd, Nat.reduceMul, Nat.reduceSub, Nat.reduceLT, Nat.reduceLeDiff, Nat.reduceEqDiff, Nat.reduceBEq, Nat.reduceBneDiff, Int.reduceToNat, Int.toNat_natCast])
      | (refine SW.ret ?_; try simp only [go_sem, ↓reduceIte, reduceCtorEq, Nat.reduceAdd, Nat.reduceMul, Nat.reduceSub, Nat.reduceLT, Nat.reduceLeDiff, Nat.reduceEqDiff, Nat.reduceBEq, Nat.reduceBneDiff, Int.reduceToNat, Int.toNat_natCast])
      | (refine And.intro (by omega) ?_)
      | (refine ifI (fun hc => ?_) (fun hc => ?_) <;> first | (exfalso; omega) | skip)
      | (first | (apply hK; clear hK K) | (clear hK K; apply hK; clear hK K) | (clear hK K; clear hK K; apply hK; clear hK K) | (clear hK K; clear hK K; clear hK K; apply hK; clear hK K) | (clear hK K; clear hK K; clear hK K; clear hK K; apply hK; clear hK K) | (clear hK K; clear hK K; clear hK K; clear hK K; clear hK K; apply hK; clear hK K))
    intro b2 hb2
    refine appK_acc hA hb2 rfl rfl rfl (by decide) rfl (by omega) (by omega) fun x' b blk f1 f2 f3 f4 f5 f6 h'' hh => ?_
    obtain ⟨h3, hA', hle⟩ := Acc.after f1 f4 f5 f6 hh
    clear f1 f2 f3 f4 f5 f6 hh
    simp only [go_sem, ↓reduceIte, reduceCtorEq, Nat.reduceAdd, Nat.reduceMul, Nat.reduceSub, Nat.reduceLT, Nat.reduceLeDiff, Nat.reduceEqDiff, Nat.reduceBEq, Nat.reduceBneDiff, Int.reduceToNat, Int.toNat_natCast]
    first | (apply hK; clear hK K) | (clear hK K; apply hK; clear hK K) | (clear hK K; clear hK K; apply hK; clear hK K) | (clear hK K; clear hK K; clear hK K; apply hK; clear hK K) | (clear hK K; clear hK K; clear hK K; clear hK K; apply hK; clear hK K) | (clear hK K; clear hK K; clear hK K; clear hK K; clear hK K; apply hK; clear hK K)
    refine SW.le (hle _) ?_
    clear hle
    repeat' first
      | (refine SW.seq_k fun K hK => ?_)
      | (refine SW.block ?_)
      | (refine SW.region ?_; simp only [go_sem, ↓reduceIte, reduceCtorEq, Nat.reduceAdd, Nat.reduceMul, Nat.reduceSub, Nat.reduceLT, Nat.reduceLeDiff, Nat.reduceEqDiff, Nat.reduceBEq, Nat.reduceBneDiff, Int.reduceToNat, Int.toNat_natCast])
      | (refine SW.regionD (Checked.mixed Try.checked) (by kernel_rfl) ?_; simp only [go_sem, ↓reduceIte, reduceCtorEq, Nat.reduceAdd, Nat.reduceMul, Nat.reduceSub, Nat.reduceLT, Nat.reduceLeDiff, Nat.reduceEqDiff, Nat.reduceBEq, Nat.reduceBneDiff, Int.reduceToNat, Int.toNat_natCast])
      | (refine SW.cond ?_; simp only [go_sem, ↓reduceIte, reduceCtorEq, Nat.reduceAdd, Nat.reduceMul, Nat.reduceSub, Nat.reduceLT, Nat.reduceLeDiff, Nat.reduceEqDiff, Nat.reduceBEq, Nat.reduceBneDiff, Int.reduceToNat, Int.toNat_natCast])
      | (refine SW.skip ?_; try simp only [go_sem, ↓reduceIte, reduceCtorEq, Nat.reduceAdd, Nat.reduceMul, Nat.reduceSub, Nat.reduceLT, Nat.reduceLeDiff, Nat.reduceEqDiff, Nat.reduceBEq, Nat.reduceBneDiff, Int.reduceToNat, Int.toNat_natCast])
      | (refine SW.exit ?_; try simp only [go_sem, ↓reduceIte, reduceCtorEq, Nat.reduceAdd, Nat.reduceMul, Nat.reduceSub, Nat.reduceLT, Nat.reduceLeDiff, Nat.reduceEqDiff, Nat.reduceBEq, Nat.reduceBneDiff, Int.reduceToNat, Int.toNat_natCast])
      | (refine SW.ret ?_; try simp only [go_sem, ↓reduceIte, reduceCtorEq, Nat.reduceAdd, Nat.reduceMul, Nat.reduceSub, Nat.reduceLT, Nat.reduceLeDiff, Nat.reduceEqDiff, Nat.reduceBEq, Nat.reduceBneDiff, Int.reduceToNat, Int.toNat_natCast])
      | (refine And.intro (by omega) ?_)
      | (refine ifI (fun hc => ?_) (fun hc => ?_) <;> first | (exfalso; omega) | skip)
      | (first | (apply hK; clear hK K) | (clear hK K; apply hK; clear hK K) | (clear hK K; clear hK K; apply hK; clear hK K) | (clear hK K; clear hK K; clear hK K; apply hK; clear hK K) | (clear hK K; clear hK K; clear hK K; clear hK K; apply hK; clear hK K) | (clear hK K; clear hK K; clear hK K; clear hK K; clear hK K; apply hK; clear hK K))
    refine Rnd.sub (m.length - (j + 1)) (by omega) ((hI _ _).2 ⟨j + 1, x', h3, rfl, by omega, ?_, rfl⟩) (by repeat' (first | exact rfl | exact trivial | exact int_eq (by omega) | exact int_eq (by (rw [i64_wrap] <;> omega)) | constructor))
    rw [List.range_succ, List.map_append]
    exact hA'
  · refine SW.exit ?_; try simp only [go_sem, ↓reduceIte, reduceCtorEq, Nat.reduceAdd, Nat.reduceMul, Nat.reduceSub, Nat.reduceLT, Nat.reduceLeDiff, Nat.reduceEqDiff, Nat.reduceBEq, Nat.reduceBneDiff, Int.reduceToNat, Int.toNat_natCast]
    obtain rfl : j = m.length := by omega
    exact (St.le_acc_mat (i := 7) (x := x) (k := .i64) rfl (l := shf m r dt) (by rw [shf_len]; simpa [shf, Function.comp_def] using hA)).trans (St.le_sub (by repeat' (first | exact rfl | exact trivial | exact int_eq (by omega) | exact int_eq (by (rw [i64_wrap] <;> omega)) | constructor)))

set_option maxHeartbeats 4000000 in
theorem law8 (m : List (List Int)) (rw_ dt : Int) (hrw : 0 ≤ rw_ ∧ rw_ ≤ 255) (hdt : -32768 ≤ dt ∧ dt ≤ 32767) (hm : m.length ≤ 9223372036854775807) (hr : ∀ i, (m.getD i []).length ≤ 9223372036854775807) :
    PCall Try.prog 8 [mat .i64 m, .sc (.int .u8 rw_), .sc (.int .i16 dt)] (SB true) := by
  have ew2 : IntKind.i64.wrap dt = dt := i64_wrap (by omega) (by omega)
  refine Call.enter' (N := 111) (rs := [.tmp 6]) Try.func8 rfl rfl rfl (by decide) rfl ?_; simp only [argT]
  repeat' first
    | (refine SW.seq_k fun K hK => ?_)
    | (refine SW.region ?_; simp only [go_sem, ↓reduceIte, reduceCtorEq, Nat.reduceAdd, Nat.reduceMul, Nat.reduceSub, Nat.reduceLT, Nat.reduceLeDiff, Nat.reduceEqDiff, Nat.reduceBEq, Nat.reduceBneDiff, Int.reduceToNat, Int.toNat_natCast])
    | (refine SW.regionD (Checked.mixed Try.checked) (by kernel_rfl) ?_; simp only [go_sem, ↓reduceIte, reduceCtorEq, Nat.reduceAdd, Nat.reduceMul, Nat.reduceSub, Nat.reduceLT, Nat.reduceLeDiff, Nat.reduceEqDiff, Nat.reduceBEq, Nat.reduceBneDiff, Int.reduceToNat, Int.toNat_natCast])
    | (refine SW.cond ?_; simp only [go_sem, ↓reduceIte, reduceCtorEq, Nat.reduceAdd, Nat.reduceMul, Nat.reduceSub, Nat.reduceLT, Nat.reduceLeDiff, Nat.reduceEqDiff, Nat.reduceBEq, Nat.reduceBneDiff, Int.reduceToNat, Int.toNat_natCast])
    | (refine SW.skip ?_; try simp only [go_sem, ↓reduceIte, reduceCtorEq, Nat.reduceAdd, Nat.reduceMul, Nat.reduceSub, Nat.reduceLT, Nat.reduceLeDiff, Nat.reduceEqDiff, Nat.reduceBEq, Nat.reduceBneDiff, Int.reduceToNat, Int.toNat_natCast])
    | (refine SW.exit ?_; try simp only [go_sem, ↓reduceIte, reduceCtorEq, Nat.reduceAdd, Nat.reduceMul, Nat.reduceSub, Nat.reduceLT, Nat.reduceLeDiff, Nat.reduceEqDiff, Nat.reduceBEq, Nat.reduceBneDiff, Int.reduceToNat, Int.toNat_natCast])
    | (refine SW.ret ?_; try simp only [go_sem, ↓reduceIte, reduceCtorEq, Nat.reduceAdd, Nat.reduceMul, Nat.reduceSub, Nat.reduceLT, Nat.reduceLeDiff, Nat.reduceEqDiff, Nat.reduceBEq, Nat.reduceBneDiff, Int.reduceToNat, Int.toNat_natCast])
    | (refine And.intro (by omega) ?_)
    | (refine ifI (fun hc => ?_) (fun hc => ?_) <;> first | (exfalso; omega) | skip)
    | (first | (apply hK; clear hK K) | (clear hK K; apply hK; clear hK K) | (clear hK K; clear hK K; apply hK; clear hK K) | (clear hK K; clear hK K; clear hK K; apply hK; clear hK K) | (clear hK K; clear hK K; clear hK K; clear hK K; apply hK; clear hK K) | (clear hK K; clear hK K; clear hK K; clear hK K; clear hK K; apply hK; clear hK K))
    | (refine Call.of_pure (awake) ?_; try simp only [go_sem, ↓reduceIte, reduceCtorEq, Nat.reduceAdd, Nat.reduceMul, Nat.reduceSub, Nat.reduceLT, Nat.reduceLeDiff, Nat.reduceEqDiff, Nat.reduceBEq, Nat.reduceBneDiff, Int.reduceToNat, Int.toNat_natCast])
    | (refine ⟨_, awake, ?_⟩; try simp only [go_sem, ↓reduceIte, reduceCtorEq, Nat.reduceAdd, Nat.reduceMul, Nat.reduceSub, Nat.reduceLT, Nat.reduceLeDiff, Nat.reduceEqDiff, Nat.reduceBEq, Nat.reduceBneDiff, Int.reduceToNat, Int.toNat_natCast])
    | (refine Call.of_pure (right_law m hm hr) ?_; try simp only [go_sem, ↓reduceIte, reduceCtorEq, Nat.reduceAdd, Nat.reduceMul, Nat.reduceSub, Nat.reduceLT, Nat.reduceLeDiff, Nat.reduceEqDiff, Nat.reduceBEq, Nat.reduceBneDiff, Int.reduceToNat, Int.toNat_natCast])
    | (refine ⟨_, right_law m hm hr, ?_⟩; try simp only [go_sem, ↓reduceIte, reduceCtorEq, Nat.reduceAdd, Nat.reduceMul, Nat.reduceSub, Nat.reduceLT, Nat.reduceLeDiff, Nat.reduceEqDiff, Nat.reduceBEq, Nat.reduceBneDiff, Int.reduceToNat, Int.toNat_natCast])
    | fail
  · refine ret_pure ?_; simp only [resL_tmp, resL_nil, tupOf, go_sem, ↓reduceIte, reduceCtorEq, Nat.reduceAdd, Nat.reduceMul, Nat.reduceSub, Nat.reduceLT, Nat.reduceLeDiff, Nat.reduceEqDiff, Nat.reduceBEq, Nat.reduceBneDiff, Int.reduceToNat, Int.toNat_natCast]
  · refine ret_pure ?_; simp only [resL_tmp, resL_nil, tupOf, go_sem, ↓reduceIte, reduceCtorEq, Nat.reduceAdd, Nat.reduceMul, Nat.reduceSub, Nat.reduceLT, Nat.reduceLeDiff, Nat.reduceEqDiff, Nat.reduceBEq, Nat.reduceBneDiff, Int.reduceToNat, Int.toNat_natCast]
  have h0 : szs m true = 0 := by
    have := ‹¬ (decide (szs m true = 0) && (decide (m.length ≤ 5) && decide (wid m ≤ 6))) = false›
    simp only [Bool.not_eq_false, Bool.and_eq_true, decide_eq_true_eq] at this
    exact this.1
  have hv := (vmat_of h0).1
  obtain ⟨r, er⟩ : ∃ r : Nat, Int.tmod rw_ (m.length : Int) = r := ⟨(Int.tmod rw_ (m.length : Int)).toNat, by
    rw [Int.toNat_of_nonneg]; exact Int.tmod_nonneg _ hrw.1⟩
  have hrl : r < m.length := by
    have := Int.tmod_lt_of_pos rw_ (b := (m.length : Int)) (by omega)
    omega
  refine SW.cut _ (SW.le (St.le_sub (by repeat' (first | exact rfl | exact trivial | exact int_eq (by omega) | exact int_eq (by (rw [i64_wrap] <;> omega)) | constructor))) (sh_out m rw_ dt hrw hdt er hv hrl)) ?_
  intro S' hle
  try simp only [go_sem, ↓reduceIte, reduceCtorEq, Nat.reduceAdd, Nat.reduceMul, Nat.reduceSub, Nat.reduceLT, Nat.reduceLeDiff, Nat.reduceEqDiff, Nat.reduceBEq, Nat.reduceBneDiff, Int.reduceToNat, Int.toNat_natCast]
  first | (apply hK; clear hK K) | (clear hK K; apply hK; clear hK K) | (clear hK K; clear hK K; apply hK; clear hK K) | (clear hK K; clear hK K; clear hK K; apply hK; clear hK K) | (clear hK K; clear hK K; clear hK K; clear hK K; apply hK; clear hK K) | (clear hK K; clear hK K; clear hK K; clear hK K; clear hK K; apply hK; clear hK K)
  refine SW.le hle ?_
  clear hle
  have hm2 : (shf m r dt).length ≤ 9223372036854775807 := by rw [shf_len]; exact hm
  have hr2 : ∀ i, ((shf m r dt).getD i []).length ≤ 9223372036854775807 := fun i => by
    by_cases hi : i < m.length
    · rw [shf_row m r dt hi, shR_len]; exact hr i
    · rw [getD_ge (by rw [shf_len]; omega)]; simp
  repeat' first
    | (refine SW.seq_k fun K hK => ?_)
    | (refine SW.block ?_)
    | (refine SW.region ?_; simp only [go_sem, ↓reduceIte, reduceCtorEq, Nat.reduceAdd, Nat.reduceMul, Nat.reduceSub, Nat.reduceLT, Nat.reduceLeDiff, Nat.reduceEqDiff, Nat.reduceBEq, Nat.reduceBneDiff, Int.reduceToNat, Int.toNat_natCast])
    | (refine SW.regionD (Checked.mixed Try.checked) (by kernel_rfl) ?_; simp only [go_sem, ↓reduceIte, reduceCtorEq, Nat.reduceAdd, Nat.reduceMul, Nat.reduceSub, Nat.reduceLT, Nat.reduceLeDiff, Nat.reduceEqDiff, Nat.reduceBEq, Nat.reduceBneDiff, Int.reduceToNat, Int.toNat_natCast])
    | (refine SW.cond ?_; simp only [go_sem, ↓reduceIte, reduceCtorEq, Nat.reduceAdd, Nat.reduceMul, Nat.reduceSub, Nat.reduceLT, Nat.reduceLeDiff, Nat.reduceEqDiff, Nat.reduceBEq, Nat.reduceBneDiff, Int.reduceToNat, Int.toNat_natCast])
    | (refine SW.skip ?_; try simp only [go_sem, ↓reduceIte, reduceCtorEq, Nat.reduceAdd, Nat.reduceMul, Nat.reduceSub, Nat.reduceLT, Nat.reduceLeDiff, Nat.reduceEqDiff, Nat.reduceBEq, Nat.reduceBneDiff, Int.reduceToNat, Int.toNat_natCast])
    | (refine SW.exit ?_; try simp only [go_sem, ↓reduceIte, reduceCtorEq, Nat.reduceAdd, Nat.reduceMul, Nat.reduceSub, Nat.reduceLT, Nat.reduceLeDiff, Nat.reduceEqDiff, Nat.reduceBEq, Nat.reduceBneDiff, Int.reduceToNat, Int.toNat_natCast])
    | (refine SW.ret ?_; try simp only [go_sem, ↓reduceIte, reduceCtorEq, Nat.reduceAdd, Nat.reduceMul, Nat.reduceSub, Nat.reduceLT, Nat.reduceLeDiff, Nat.reduceEqDiff, Nat.reduceBEq, Nat.reduceBneDiff, Int.reduceToNat, Int.toNat_natCast])
    | (refine And.intro (by omega) ?_)
    | (refine ifI (fun hc => ?_) (fun hc => ?_) <;> first | (exfalso; omega) | skip)
    | (first | (apply hK; clear hK K) | (clear hK K; apply hK; clear hK K) | (clear hK K; clear hK K; apply hK; clear hK K) | (clear hK K; clear hK K; clear hK K; apply hK; clear hK K) | (clear hK K; clear hK K; clear hK K; clear hK K; apply hK; clear hK K) | (clear hK K; clear hK K; clear hK K; clear hK K; clear hK K; apply hK; clear hK K))
  refine Ab.Call.mono (Solve_asg m hm hr) ?_
  rintro r1 h' ⟨rfl, hq⟩
  rcases hq with ⟨hz, _⟩ | ⟨_, cols, u, v, hch, rfl⟩
  · exact absurd h0 hz
  simp only [go_sem, ↓reduceIte, reduceCtorEq, Nat.reduceAdd, Nat.reduceMul, Nat.reduceSub, Nat.reduceLT, Nat.reduceLeDiff, Nat.reduceEqDiff, Nat.reduceBEq, Nat.reduceBneDiff, Int.reduceToNat, Int.toNat_natCast, List.length_cons, List.length_nil, List.getD_cons_zero, List.getD_cons_succ]
  repeat' first
    | (refine SW.seq_k fun K hK => ?_)
    | (refine SW.block ?_)
    | (refine SW.region ?_; simp only [go_sem, ↓reduceIte, reduceCtorEq, Nat.reduceAdd, Nat.reduceMul, Nat.reduceSub, Nat.reduceLT, Nat.reduceLeDiff, Nat.reduceEqDiff, Nat.reduceBEq, Nat.reduceBneDiff, Int.reduceToNat, Int.toNat_natCast, List.length_cons,List.length_nil,List.getD_cons_zero,List.getD_cons_succ,eq_self,decide_true,decide_false,Int.reduceEq,guardB_yes2,guardB_no2,vcOps_guard2])
    | (refine SW.regionD (Checked.mixed Try.checked) (by kernel_rfl) ?_; simp only [go_sem, ↓reduceIte, reduceCtorEq, Nat.reduceAdd, Nat.reduceMul, Nat.reduceSub, Nat.reduceLT, Nat.reduceLeDiff, Nat.reduceEqDiff, Nat.reduceBEq, Nat.reduceBneDiff, Int.reduceToNat, Int.toNat_natCast, List.length_cons,List.length_nil,List.getD_cons_zero,List.getD_cons_succ,eq_self,decide_true,decide_false,Int.reduceEq,guardB_yes2,guardB_no2,vcOps_guard2])
    | (refine SW.cond ?_; simp only [go_sem, ↓reduceIte, reduceCtorEq, Nat.reduceAdd, Nat.reduceMul, Nat.reduceSub, Nat.reduceLT, Nat.reduceLeDiff, Nat.reduceEqDiff, Nat.reduceBEq, Nat.reduceBneDiff, Int.reduceToNat, Int.toNat_natCast, List.length_cons,List.length_nil,List.getD_cons_zero,List.getD_cons_succ,eq_self,decide_true,decide_false,Int.reduceEq,guardB_yes2,guardB_no2,vcOps_guard2])
    | (refine SW.skip ?_; try simp only [go_sem, ↓reduceIte, reduceCtorEq, Nat.reduceAdd, Nat.reduceMul, Nat.reduceSub, Nat.reduceLT, Nat.reduceLeDiff, Nat.reduceEqDiff, Nat.reduceBEq, Nat.reduceBneDiff, Int.reduceToNat, Int.toNat_natCast, List.length_cons,List.length_nil,List.getD_cons_zero,List.getD_cons_succ,eq_self,decide_true,decide_false,Int.reduceEq,guardB_yes2,guardB_no2,vcOps_guard2])
    | (refine SW.exit ?_; try simp only [go_sem, ↓reduceIte, reduceCtorEq, Nat.reduceAdd, Nat.reduceMul, Nat.reduceSub, Nat.reduceLT, Nat.reduceLeDiff, Nat.reduceEqDiff, Nat.reduceBEq, Nat.reduceBneDiff, Int.reduceToNat, Int.toNat_natCast, List.length_cons,List.length_nil,List.getD_cons_zero,List.getD_cons_succ,eq_self,decide_true,decide_false,Int.reduceEq,guardB_yes2,guardB_no2,vcOps_guard2])
    | (refine SW.ret ?_; try simp only [go_sem, ↓reduceIte, reduceCtorEq, Nat.reduceAdd, Nat.reduceMul, Nat.reduceSub, Nat.reduceLT, Nat.reduceLeDiff, Nat.reduceEqDiff, Nat.reduceBEq, Nat.reduceBneDiff, Int.reduceToNat, Int.toNat_natCast, List.length_cons,List.length_nil,List.getD_cons_zero,List.getD_cons_succ,eq_self,decide_true,decide_false,Int.reduceEq,guardB_yes2,guardB_no2,vcOps_guard2])
    | (refine And.intro (by omega) ?_)
    | (refine ifI (fun hc => ?_) (fun hc => ?_) <;> first | (exfalso; omega) | skip)
    | (first | (apply hK; clear hK K) | (clear hK K; apply hK; clear hK K) | (clear hK K; clear hK K; apply hK; clear hK K) | (clear hK K; clear hK K; clear hK K; apply hK; clear hK K) | (clear hK K; clear hK K; clear hK K; clear hK K; apply hK; clear hK K) | (clear hK K; clear hK K; clear hK K; clear hK K; clear hK K; apply hK; clear hK K))
  have hb1 := sum_bound hv (check_min hch h0).1
  refine Ab.Call.mono (Solve_asg (shf m r dt) hm2 hr2) ?_
  rintro r1 h' ⟨rfl, hq⟩
  rcases hq with ⟨hz, rfl⟩ | ⟨hz, cols', u', v', hch', rfl⟩
  · have h7 : szs (shf m r dt) true = 7 := (shf_szs r dt h0).resolve_left hz
    have hvr := Valid_ref (shf m r dt) hm2 hr2
    rw [h7] at hvr ⊢
    simp only [go_sem, ↓reduceIte, reduceCtorEq, Nat.reduceAdd, Nat.reduceMul, Nat.reduceSub, Nat.reduceLT, Nat.reduceLeDiff, Nat.reduceEqDiff, Nat.reduceBEq, Nat.reduceBneDiff, Int.reduceToNat, Int.toNat_natCast, List.length_cons, List.length_nil, List.getD_cons_zero, List.getD_cons_succ]
    repeat' first
      | (refine SW.seq_k fun K hK => ?_)
      | (refine SW.block ?_)
      | (refine SW.region ?_; simp only [go_sem, ↓reduceIte, reduceCtorEq, Nat.reduceAdd, Nat.reduceMul, Nat.reduceSub, Nat.reduceLT, Nat.reduceLeDiff, Nat.reduceEqDiff, Nat.reduceBEq, Nat.reduceBneDiff, Int.reduceToNat, Int.toNat_natCast, List.length_cons,List.length_nil,List.getD_cons_zero,List.getD_cons_succ,eq_self,decide_true,decide_false,Int.reduceEq,guardB_yes2,guardB_no2,vcOps_guard2])
      | (refine SW.regionD (Checked.mixed Try.checked) (by kernel_rfl) ?_; simp only [go_sem, ↓reduceIte, reduceCtorEq, Nat.reduceAdd, Nat.reduceMul, Nat.reduceSub, Nat.reduceLT, Nat.reduceLeDiff, Nat.reduceEqDiff, Nat.reduceBEq, Nat.reduceBneDiff, Int.reduceToNat, Int.toNat_natCast, List.length_cons,List.length_nil,List.getD_cons_zero,List.getD_cons_succ,eq_self,decide_true,decide_false,Int.reduceEq,guardB_yes2,guardB_no2,vcOps_guard2])
      | (refine SW.cond ?_; simp only [go_sem, ↓reduceIte, reduceCtorEq, Nat.reduceAdd, Nat.reduceMul, Nat.reduceSub, Nat.reduceLT, Nat.reduceLeDiff, Nat.reduceEqDiff, Nat.reduceBEq, Nat.reduceBneDiff, Int.reduceToNat, Int.toNat_natCast, List.length_cons,List.length_nil,List.getD_cons_zero,List.getD_cons_succ,eq_self,decide_true,decide_false,Int.reduceEq,guardB_yes2,guardB_no2,vcOps_guard2])
      | (refine SW.skip ?_; try simp only [go_sem, ↓reduceIte, reduceCtorEq, Nat.reduceAdd, Nat.reduceMul, Nat.reduceSub, Nat.reduceLT, Nat.reduceLeDiff, Nat.reduceEqDiff, Nat.reduceBEq, Nat.reduceBneDiff, Int.reduceToNat, Int.toNat_natCast, List.length_cons,List.length_nil,List.getD_cons_zero,List.getD_cons_succ,eq_self,decide_true,decide_false,Int.reduceEq,guardB_yes2,guardB_no2,vcOps_guard2])
      | (refine SW.exit ?_; try simp only [go_sem, ↓reduceIte, reduceCtorEq, Nat.reduceAdd, Nat.reduceMul, Nat.reduceSub, Nat.reduceLT, Nat.reduceLeDiff, Nat.reduceEqDiff, Nat.reduceBEq, Nat.reduceBneDiff, Int.reduceToNat, Int.toNat_natCast, List.length_cons,List.length_nil,List.getD_cons_zero,List.getD_cons_succ,eq_self,decide_true,decide_false,Int.reduceEq,guardB_yes2,guardB_no2,vcOps_guard2])
      | (refine SW.ret ?_; try simp only [go_sem, ↓reduceIte, reduceCtorEq, Nat.reduceAdd, Nat.reduceMul, Nat.reduceSub, Nat.reduceLT, Nat.reduceLeDiff, Nat.reduceEqDiff, Nat.reduceBEq, Nat.reduceBneDiff, Int.reduceToNat, Int.toNat_natCast, List.length_cons,List.length_nil,List.getD_cons_zero,List.getD_cons_succ,eq_self,decide_true,decide_false,Int.reduceEq,guardB_yes2,guardB_no2,vcOps_guard2])
      | (refine And.intro (by omega) ?_)
      | (refine ifI (fun hc => ?_) (fun hc => ?_) <;> first | (exfalso; omega) | skip)
      | (first | (apply hK; clear hK K) | (clear hK K; apply hK; clear hK K) | (clear hK K; clear hK K; apply hK; clear hK K) | (clear hK K; clear hK K; clear hK K; apply hK; clear hK K) | (clear hK K; clear hK K; clear hK K; clear hK K; apply hK; clear hK K) | (clear hK K; clear hK K; clear hK K; clear hK K; clear hK K; apply hK; clear hK K))
    refine Call.of_pure hvr ?_
    try simp only [go_sem, ↓reduceIte, reduceCtorEq, Nat.reduceAdd, Nat.reduceMul, Nat.reduceSub, Nat.reduceLT, Nat.reduceLeDiff, Nat.reduceEqDiff, Nat.reduceBEq, Nat.reduceBneDiff, Int.reduceToNat, Int.toNat_natCast]
    repeat' first
      | (refine SW.seq_k fun K hK => ?_)
      | (refine SW.block ?_)
      | (refine SW.region ?_; simp only [go_sem, ↓reduceIte, reduceCtorEq, Nat.reduceAdd, Nat.reduceMul, Nat.reduceSub, Nat.reduceLT, Nat.reduceLeDiff, Nat.reduceEqDiff, Nat.reduceBEq, Nat.reduceBneDiff, Int.reduceToNat, Int.toNat_natCast, eq_self,decide_true,decide_false,Int.reduceEq,guardB_yes2,guardB_no2,vcOps_guard2])
      | (refine SW.regionD (Checked.mixed Try.checked) (by kernel_rfl) ?_; simp only [go_sem, ↓reduceIte, reduceCtorEq, Nat.reduceAdd, Nat.reduceMul, Nat.reduceSub, Nat.reduceLT, Nat.reduceLeDiff, Nat.reduceEqDiff, Nat.reduceBEq, Nat.reduceBneDiff, Int.reduceToNat, Int.toNat_natCast, eq_self,decide_true,decide_false,Int.reduceEq,guardB_yes2,guardB_no2,vcOps_guard2])
      | (refine SW.cond ?_; simp only [go_sem, ↓reduceIte, reduceCtorEq, Nat.reduceAdd, Nat.reduceMul, Nat.reduceSub, Nat.reduceLT, Nat.reduceLeDiff, Nat.reduceEqDiff, Nat.reduceBEq, Nat.reduceBneDiff, Int.reduceToNat, Int.toNat_natCast, eq_self,decide_true,decide_false,Int.reduceEq,guardB_yes2,guardB_no2,vcOps_guard2])
      | (refine SW.skip ?_; try simp only [go_sem, ↓reduceIte, reduceCtorEq, Nat.reduceAdd, Nat.reduceMul, Nat.reduceSub, Nat.reduceLT, Nat.reduceLeDiff, Nat.reduceEqDiff, Nat.reduceBEq, Nat.reduceBneDiff, Int.reduceToNat, Int.toNat_natCast, eq_self,decide_true,decide_false,Int.reduceEq,guardB_yes2,guardB_no2,vcOps_guard2])
      | (refine SW.exit ?_; try simp only [go_sem, ↓reduceIte, reduceCtorEq, Nat.reduceAdd, Nat.reduceMul, Nat.reduceSub, Nat.reduceLT, Nat.reduceLeDiff, Nat.reduceEqDiff, Nat.reduceBEq, Nat.reduceBneDiff, Int.reduceToNat, Int.toNat_natCast, eq_self,decide_true,decide_false,Int.reduceEq,guardB_yes2,guardB_no2,vcOps_guard2])
      | (refine SW.ret ?_; try simp only [go_sem, ↓reduceIte, reduceCtorEq, Nat.reduceAdd, Nat.reduceMul, Nat.reduceSub, Nat.reduceLT, Nat.reduceLeDiff, Nat.reduceEqDiff, Nat.reduceBEq, Nat.reduceBneDiff, Int.reduceToNat, Int.toNat_natCast, eq_self,decide_true,decide_false,Int.reduceEq,guardB_yes2,guardB_no2,vcOps_guard2])
      | (refine And.intro (by omega) ?_)
      | (refine ifI (fun hc => ?_) (fun hc => ?_) <;> first | (exfalso; omega) | skip)
      | (first | (apply hK; clear hK K) | (clear hK K; apply hK; clear hK K) | (clear hK K; clear hK K; apply hK; clear hK K) | (clear hK K; clear hK K; clear hK K; apply hK; clear hK K) | (clear hK K; clear hK K; clear hK K; clear hK K; apply hK; clear hK K) | (clear hK K; clear hK K; clear hK K; clear hK K; clear hK K; apply hK; clear hK K))
    refine ret_pure ?_; simp only [resL_tmp, resL_nil, tupOf, go_sem, ↓reduceIte, reduceCtorEq, Nat.reduceAdd, Nat.reduceMul, Nat.reduceSub, Nat.reduceLT, Nat.reduceLeDiff, Nat.reduceEqDiff, Nat.reduceBEq, Nat.reduceBneDiff, Int.reduceToNat, Int.toNat_natCast]
  · have hs := shift_least hrl h0 hz hch hch'
    have en : IntKind.i64.wrap (sumS m cols + dt) = sumS m cols + dt := by rw [i64_wrap] <;> omega
    rw [hs]
    simp only [go_sem, ↓reduceIte, reduceCtorEq, Nat.reduceAdd, Nat.reduceMul, Nat.reduceSub, Nat.reduceLT, Nat.reduceLeDiff, Nat.reduceEqDiff, Nat.reduceBEq, Nat.reduceBneDiff, Int.reduceToNat, Int.toNat_natCast, List.length_cons, List.length_nil, List.getD_cons_zero, List.getD_cons_succ]
    repeat' first
      | (refine SW.seq_k fun K hK => ?_)
      | (refine SW.block ?_)
      | (refine SW.region ?_; simp only [go_sem, ↓reduceIte, reduceCtorEq, Nat.reduceAdd, Nat.reduceMul, Nat.reduceSub, Nat.reduceLT, Nat.reduceLeDiff, Nat.reduceEqDiff, Nat.reduceBEq, Nat.reduceBneDiff, Int.reduceToNat, Int.toNat_natCast, List.length_cons,List.length_nil,List.getD_cons_zero,List.getD_cons_succ,ew2,en,eq_self,decide_true,decide_false,Int.reduceEq,guardB_yes2,guardB_no2,vcOps_guard2])
      | (refine SW.regionD (Checked.mixed Try.checked) (by kernel_rfl) ?_; simp only [go_sem, ↓reduceIte, reduceCtorEq, Nat.reduceAdd, Nat.reduceMul, Nat.reduceSub, Nat.reduceLT, Nat.reduceLeDiff, Nat.reduceEqDiff, Nat.reduceBEq, Nat.reduceBneDiff, Int.reduceToNat, Int.toNat_natCast, List.length_cons,List.length_nil,List.getD_cons_zero,List.getD_cons_succ,ew2,en,eq_self,decide_true,decide_false,Int.reduceEq,guardB_yes2,guardB_no2,vcOps_guard2])
      | (refine SW.cond ?_; simp only [go_sem, ↓reduceIte, reduceCtorEq, Nat.reduceAdd, Nat.reduceMul, Nat.reduceSub, Nat.reduceLT, Nat.reduceLeDiff, Nat.reduceEqDiff, Nat.reduceBEq, Nat.reduceBneDiff, Int.reduceToNat, Int.toNat_natCast, List.length_cons,List.length_nil,List.getD_cons_zero,List.getD_cons_succ,ew2,en,eq_self,decide_true,decide_false,Int.reduceEq,guardB_yes2,guardB_no2,vcOps_guard2])
      | (refine SW.skip ?_; try simp only [go_sem, ↓reduceIte, reduceCtorEq, Nat.reduceAdd, Nat.reduceMul, Nat.reduceSub, Nat.reduceLT, Nat.reduceLeDiff, Nat.reduceEqDiff, Nat.reduceBEq, Nat.reduceBneDiff, Int.reduceToNat, Int.toNat_natCast, List.length_cons,List.length_nil,List.getD_cons_zero,List.getD_cons_succ,ew2,en,eq_self,decide_true,decide_false,Int.reduceEq,guardB_yes2,guardB_no2,vcOps_guard2])
      | (refine SW.exit ?_; try simp only [go_sem, ↓reduceIte, reduceCtorEq, Nat.reduceAdd, Nat.reduceMul, Nat.reduceSub, Nat.reduceLT, Nat.reduceLeDiff, Nat.reduceEqDiff, Nat.reduceBEq, Nat.reduceBneDiff, Int.reduceToNat, Int.toNat_natCast, List.length_cons,List.length_nil,List.getD_cons_zero,List.getD_cons_succ,ew2,en,eq_self,decide_true,decide_false,Int.reduceEq,guardB_yes2,guardB_no2,vcOps_guard2])
      | (refine SW.ret ?_; try simp only [go_sem, ↓reduceIte, reduceCtorEq, Nat.reduceAdd, Nat.reduceMul, Nat.reduceSub, Nat.reduceLT, Nat.reduceLeDiff, Nat.reduceEqDiff, Nat.reduceBEq, Nat.reduceBneDiff, Int.reduceToNat, Int.toNat_natCast, List.length_cons,List.length_nil,List.getD_cons_zero,List.getD_cons_succ,ew2,en,eq_self,decide_true,decide_false,Int.reduceEq,guardB_yes2,guardB_no2,vcOps_guard2])
      | (refine And.intro (by omega) ?_)
      | (refine ifI (fun hc => ?_) (fun hc => ?_) <;> first | (exfalso; omega) | skip)
      | (first | (apply hK; clear hK K) | (clear hK K; apply hK; clear hK K) | (clear hK K; clear hK K; apply hK; clear hK K) | (clear hK K; clear hK K; clear hK K; apply hK; clear hK K) | (clear hK K; clear hK K; clear hK K; clear hK K; apply hK; clear hK K) | (clear hK K; clear hK K; clear hK K; clear hK K; clear hK K; apply hK; clear hK K))
    refine ret_pure ?_; simp only [resL_tmp, resL_nil, tupOf, go_sem, ↓reduceIte, reduceCtorEq, Nat.reduceAdd, Nat.reduceMul, Nat.reduceSub, Nat.reduceLT, Nat.reduceLeDiff, Nat.reduceEqDiff, Nat.reduceBEq, Nat.reduceBneDiff, Int.reduceToNat, Int.toNat_natCast]

theorem rd_u8 : Rd Try.prog 5 (fun n : Int => [.sc (.int .u8 n)]) (Go.Ab.fits .u8) := Rd.int Try.underlying5
theorem rd_i16 : Rd Try.prog 42 (fun n : Int => [.sc (.int .i16 n)]) (Go.Ab.fits .i16) := Rd.int Try.underlying42
theorem u8_le {n : Int} (h : Go.Ab.fits .u8 n) : 0 ≤ n ∧ n ≤ 255 := by
  simp [Go.Ab.fits, Lit.wf, IntKind.min, IntKind.max, IntKind.signed, IntKind.bits] at h
  omega
theorem i16_le {n : Int} (h : Go.Ab.fits .i16 n) : -32768 ≤ n ∧ n ≤ 32767 := by
  simp [Go.Ab.fits, Lit.wf, IntKind.min, IntKind.max, IntKind.signed, IntKind.bits] at h
  omega
end Go.Proofs.Ytockdinjmnkdoaa
