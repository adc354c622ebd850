/- Contracts: minimal edges. -/
import Derived.Test.YtmcmphmhjikgkaaDoorV2
set_option linter.unusedSimpArgs false
set_option linter.unusedVariables false
set_option linter.unusedSectionVars false
namespace Go.Ab.A20
open Go Go.Ab
theorem redL_snoc : ∀ (r out : List Nat) (e : Nat), redL (r ++ [e]) out = if (redL r out).any (fun f => decide (f &&& e = f)) = true then redL r out else redL r out ++ [e]
  | [], out, e => rfl
  | x :: r, out, e => by
    rw [List.cons_append, redL, redL]
    exact redL_snoc r _ e
theorem redL_len : ∀ (r out : List Nat), (redL r out).length ≤ out.length + r.length
  | [], out => Nat.le_refl _
  | x :: r, out => by
    rw [redL]
    have := redL_len r (if out.any (fun f => decide (f &&& x = f)) = true then out else out ++ [x])
    refine Nat.le_trans this ?_
    split
    · simp only [List.length_cons]; omega
    · simp only [List.length_append, List.length_cons, List.length_nil]; omega
theorem redL_sm {r out : List Nat} (hr : Sm r) (ho : Sm out) : Sm (redL r out) := by
  induction r generalizing out with
  | nil => exact ho
  | cons x r ih =>
    rw [redL]
    refine ih (fun y hy => hr y (List.mem_cons_of_mem _ hy)) ?_
    split
    · exact ho
    · intro y hy
      rcases List.mem_append.1 hy with hy | hy
      · exact ho y hy
      · rw [List.mem_singleton.1 hy]; exact hr x List.mem_cons_self
theorem ordN_sm {l : List Nat} (h : Sm l) : Sm (ordN l) := fun x hx => h x ((ordN_perm h).mem_iff.1 hx)
/-- Minimal sets, in order. -/
def minL (l : List Nat) : List Nat := redL (ordN l) []
theorem minL_len {l : List Nat} (h : Sm l) : (minL l).length ≤ l.length := by
  have := redL_len (ordN l) []
  rw [ordN_len h] at this
  simpa [minL] using this
theorem minL_sm {l : List Nat} (h : Sm l) : Sm (minL l) := redL_sm (ordN_sm h) (fun x hx => by cases hx)
/-- The place of the first member that fits, as a number. -/
def idxI (p : Nat → Bool) (l : List Nat) : Int := match l.findIdx? p with | some i => (i : Int) | none => -1
theorem idxI_any (p : Nat → Bool) (l : List Nat) : decide (0 ≤ idxI p l) = l.any p := by
  unfold idxI
  cases h : l.findIdx? p with
  | none =>
    have := List.findIdx?_eq_none_iff.1 h
    rw [Bool.eq_iff_iff]
    simp only [decide_eq_true_eq, List.any_eq_true]
    constructor
    · intro x; omega
    · rintro ⟨x, hx, hp⟩
      rw [this x hx] at hp
      cases hp
  | some i =>
    obtain ⟨hi, hp, _⟩ := List.findIdx?_eq_some_iff_getElem.1 h
    rw [Bool.eq_iff_iff]
    simp only [decide_eq_true_eq, List.any_eq_true]
    exact ⟨fun _ => ⟨_, List.getElem_mem hi, hp⟩, fun _ => by omega⟩
theorem fC_get {l : List Nat} {i : Nat} (h : i < l.length) : (fC sC1 l).getD i .any = U32 (l.getD i 0) := by
  have := fC_at sC1_len 0 l i h
  rw [Nat.mul_one] at this
  have h2 : i < (fC sC1 l).length := by have := fC_len sC1_len l; omega
  rw [List.drop_eq_getElem_cons h2, List.take_succ_cons, List.take_zero] at this
  rw [List.getD_eq_getElem?_getD, List.getElem?_eq_getElem h2]
  exact (List.cons.inj this).1.symm
end Go.Ab.A20
namespace Go.Proofs.YtmcmphmhjikgkaaDoor
open Go Go.Ab Go.Ab.A20
variable [Gl]

set_option maxHeartbeats 1000000 in
set_option maxRecDepth 20000 in
theorem index_p (g : FuncId) (caps : List SV) (p : Nat → Bool) (l : List Nat) (hF : ∀ x ∈ l, PCall Tryd.prog g (U32 x :: caps) (SB (p x))) (h64 : l.length ≤ 1000000000) : PCall Tryd.prog 55 [SS l, .fn (.func g) [] caps] (I64 (idxI p l)) := by
  obtain ⟨X, hX⟩ : ∃ X : Int, X = idxI p l := ⟨_, rfl⟩
  rw [← hX]
  have hall : (∀ i, (∃ hi : i < l.length, p l[i] = true ∧ ∀ j (hj : j < i), p (l[j]'(by omega)) = false) → X = i) ∧ ((∀ i (hi : i < l.length), p l[i] = false) → X = -1) := by
    constructor
    · rintro i ⟨hi, h1, h2⟩
      have : l.findIdx? p = some i := List.findIdx?_eq_some_iff_getElem.2 ⟨hi, h1, fun j hj => by simp [h2 j hj]⟩
      rw [hX, idxI, this]
    · intro h
      have : l.findIdx? p = none := List.findIdx?_eq_none_iff.2 fun x hx => by
        obtain ⟨i, hi, rfl⟩ := List.getElem_of_mem hx
        simp [h i hi]
      rw [hX, idxI, this]
  clear hX
  refine Call.enter' (N := 19) (rs := [.tmp 4]) Tryd.func55 rfl rfl rfl (by decide) rfl ?_; simp only [argT]; have hD : (0 : Nat) = 0 := rfl
  repeat' first | (with_reducible refine And.intro (by omega) ?_) | (refine SW.seq_k fun K hK => ?_) | (refine SW.block ?_) | ((first | refine SW.region ?_ | refine SW.regionD (Checked.mixed Tryd.checked) (by kernel_rfl) ?_ | refine SW.cond ?_ | refine SW.skip ?_ | refine SW.exit ?_ | refine SW.ret ?_ | (refine allF_i fun b hb => ?_; replace hD := And.intro hb hD; clear hb; try simp only [fresh_cons, fresh_nil, and_true, ne_eq, neF] at hD) | simp only [appK, appOsK]); try simp only [go_sem, hD]) | (refine And.intro (by omega) ?_) | (refine ifI (fun hc => ?_) (fun hc => ?_) <;> first | (exfalso; omega) | skip) | ((first | apply hK | ((iterate 1 (clear hK K)); apply hK) | ((iterate 2 (clear hK K)); apply hK) | ((iterate 3 (clear hK K)); apply hK) | ((iterate 4 (clear hK K)); apply hK) | ((iterate 5 (clear hK K)); apply hK)); clear hK K)
  obtain ⟨I, hI⟩ : ∃ I : Nat → St → Prop, ∀ k S, I k S ↔ (∃ (i : Nat) , k = l.length - i ∧ i ≤ l.length ∧ (∀ j (hj : j < l.length), j < i → p l[j] = false) ∧ S = ⟨[(0, SS l), (1, .fn (.func g) [] caps), (7, I64 l.length), (8, I64 i)], []⟩) := ⟨fun k S => _, fun _ _ => Iff.rfl⟩
  refine SW.loop' I (l.length) ((hI _ _).2 ⟨0, rfl, Nat.zero_le _, (fun j hj h => absurd h (by omega)), rfl⟩) (by repeat' (first | exact rfl | exact trivial | exact int_eq (by omega) | exact int_eq (by (rw [i64_wrap] <;> omega)) | constructor)) ?_
  intro k S hIn
  obtain ⟨i, rfl, hi, hN, rfl⟩ := (hI _ _).1 hIn
  clear hIn
  have ie : ((i : Nat) : Int).toNat = i := Int.toNat_natCast _
  have i0 : (0 : Int) ≤ ((i : Nat) : Int) := by omega
  by_cases hlt : i < l.length
  · have hli : ((i : Nat) : Int) < (((l.length) : Nat) : Int) := by omega
    have w1 : IntKind.i64.wrap ((i : Int) + 1) = ((i + 1 : Nat) : Int) := by rw [i64_wrap (by omega) (by omega)]; omega
    have hm := hF _ (getD_mem 0 hlt)
    have hgi := getD_in 0 hlt
    have tf : sF l i = [U32 (l.getD i 0)] := rfl
    have hnx : p l[i] = false → ∀ j (hj : j < l.length), j < i + 1 → p l[j] = false := fun h j hj hji => by
      rcases Nat.lt_or_ge j i with h1 | h1
      · exact hN j hj h1
      · obtain rfl : j = i := by omega
        exact h
    generalize l.getD i 0 = x at *
    cases hp : p x with
    | true =>
      rw [hp] at hm
      have hXe := hall.1 i ⟨hlt, by rw [← hgi]; exact hp, fun j hj => hN j (by omega) hj⟩
      repeat' first | (with_reducible refine And.intro (by omega) ?_) | (refine SW.seq_k fun K hK => ?_) | (refine SW.block ?_) | ((first | refine SW.region ?_ | refine SW.regionD (Checked.mixed Tryd.checked) (by kernel_rfl) ?_ | refine SW.cond ?_ | refine SW.skip ?_ | refine SW.exit ?_ | refine SW.ret ?_ | refine Call.of_pure (hm) ?_ | refine ⟨_, hm, ?_⟩ | (refine allF_i fun b hb => ?_; replace hD := And.intro hb hD; clear hb; try simp only [fresh_cons, fresh_nil, and_true, ne_eq, neF] at hD) | simp only [appK, appOsK]); try simp only [go_sem, hD, hli, ie, i0, w1, tf]) | (refine And.intro (by omega) ?_) | (refine ifI (fun hc => ?_) (fun hc => ?_) <;> first | (exfalso; omega) | skip) | ((first | apply hK | ((iterate 1 (clear hK K)); apply hK) | ((iterate 2 (clear hK K)); apply hK) | ((iterate 3 (clear hK K)); apply hK) | ((iterate 4 (clear hK K)); apply hK) | ((iterate 5 (clear hK K)); apply hK)); clear hK K)
      refine ret_pure ?_; simp only [resL_tmp, resL_nil, tupOf, go_sem, hD]
      rw [hXe]
    | false =>
      rw [hp] at hm
      repeat' first | (with_reducible refine And.intro (by omega) ?_) | (refine SW.seq_k fun K hK => ?_) | (refine SW.block ?_) | ((first | refine SW.region ?_ | refine SW.regionD (Checked.mixed Tryd.checked) (by kernel_rfl) ?_ | refine SW.cond ?_ | refine SW.skip ?_ | refine SW.exit ?_ | refine SW.ret ?_ | refine Call.of_pure (hm) ?_ | refine ⟨_, hm, ?_⟩ | (refine allF_i fun b hb => ?_; replace hD := And.intro hb hD; clear hb; try simp only [fresh_cons, fresh_nil, and_true, ne_eq, neF] at hD) | simp only [appK, appOsK]); try simp only [go_sem, hD, hli, ie, i0, w1, tf]) | (refine And.intro (by omega) ?_) | (refine ifI (fun hc => ?_) (fun hc => ?_) <;> first | (exfalso; omega) | skip) | ((first | apply hK | ((iterate 1 (clear hK K)); apply hK) | ((iterate 2 (clear hK K)); apply hK) | ((iterate 3 (clear hK K)); apply hK) | ((iterate 4 (clear hK K)); apply hK) | ((iterate 5 (clear hK K)); apply hK)); clear hK K)
      refine Rnd.le St.le_drop (Rnd.sub (l.length - (i + 1)) (by omega) ((hI _ _).2 ⟨i + 1, rfl, by omega, hnx (by rw [← hgi]; exact hp), rfl⟩) (by repeat' (first | exact rfl | exact trivial | exact int_eq (by omega) | exact int_eq (by (rw [i64_wrap] <;> omega)) | constructor)))
  · have hli : ¬ ((i : Nat) : Int) < (((l.length) : Nat) : Int) := by omega
    have hXe := hall.2 fun j hj => hN j hj (by omega)
    repeat' first | (with_reducible refine And.intro (by omega) ?_) | (refine SW.seq_k fun K hK => ?_) | (refine SW.block ?_) | ((first | refine SW.region ?_ | refine SW.regionD (Checked.mixed Tryd.checked) (by kernel_rfl) ?_ | refine SW.cond ?_ | refine SW.skip ?_ | refine SW.exit ?_ | refine SW.ret ?_ | (refine allF_i fun b hb => ?_; replace hD := And.intro hb hD; clear hb; try simp only [fresh_cons, fresh_nil, and_true, ne_eq, neF] at hD) | simp only [appK, appOsK]); try simp only [go_sem, hD, hli]) | (refine And.intro (by omega) ?_) | (refine ifI (fun hc => ?_) (fun hc => ?_) <;> first | (exfalso; omega) | skip) | ((first | apply hK | ((iterate 1 (clear hK K)); apply hK) | ((iterate 2 (clear hK K)); apply hK) | ((iterate 3 (clear hK K)); apply hK) | ((iterate 4 (clear hK K)); apply hK) | ((iterate 5 (clear hK K)); apply hK)); clear hK K)
    refine ret_pure ?_; simp only [resL_tmp, resL_nil, tupOf, go_sem, hD]
    rw [hXe]
theorem contains_p (g : FuncId) (caps : List SV) (p : Nat → Bool) (l : List Nat) (hF : ∀ x ∈ l, PCall Tryd.prog g (U32 x :: caps) (SB (p x))) (h64 : l.length ≤ 1000000000) : PCall Tryd.prog 41 [SS l, .fn (.func g) [] caps] (SB (l.any p)) := by
  have ix := index_p g caps p l hF h64
  have e := idxI_any p l
  generalize idxI p l = X at *
  refine Call.enter' (N := 9) (rs := [.tmp 4]) Tryd.func41 rfl rfl rfl (by decide) rfl ?_; simp only [argT]; have hD : (0 : Nat) = 0 := rfl
  repeat' first | (with_reducible refine And.intro (by omega) ?_) | (refine SW.seq_k fun K hK => ?_) | (refine SW.block ?_) | ((first | refine SW.region ?_ | refine SW.regionD (Checked.mixed Tryd.checked) (by kernel_rfl) ?_ | refine SW.cond ?_ | refine SW.skip ?_ | refine SW.exit ?_ | refine SW.ret ?_ | refine Call.of_pure (ix) ?_ | refine ⟨_, ix, ?_⟩ | (refine allF_i fun b hb => ?_; replace hD := And.intro hb hD; clear hb; try simp only [fresh_cons, fresh_nil, and_true, ne_eq, neF] at hD) | simp only [appK, appOsK]); try simp only [go_sem, hD, e]) | (refine And.intro (by omega) ?_) | (refine ifI (fun hc => ?_) (fun hc => ?_) <;> first | (exfalso; omega) | skip) | ((first | apply hK | ((iterate 1 (clear hK K)); apply hK) | ((iterate 2 (clear hK K)); apply hK) | ((iterate 3 (clear hK K)); apply hK) | ((iterate 4 (clear hK K)); apply hK) | ((iterate 5 (clear hK K)); apply hK)); clear hK K)
  refine ret_pure ?_; simp only [resL_tmp, resL_nil, tupOf, go_sem, hD]

set_option maxHeartbeats 1000000 in
set_option maxRecDepth 20000 in
/-- .. at a list that is owned. -/
theorem index_o (b : Nat) (g : FuncId) (caps : List SV) (p : Nat → Bool) (l : List Nat) (hF : ∀ x ∈ l, PCall Tryd.prog g (U32 x :: caps) (SB (p x))) (h64 : l.length ≤ 1000000000) : Ab.Call Tryd.prog 55 [.os b 0 l.length 1, .fn (.func g) [] caps] [(b, .svs (fC sC1 l))] (fun r h' => r = I64 (idxI p l) ∧ h' = [(b, .svs (fC sC1 l))]) := by
  obtain ⟨X, hX⟩ : ∃ X : Int, X = idxI p l := ⟨_, rfl⟩
  rw [← hX]
  have hall : (∀ i, (∃ hi : i < l.length, p l[i] = true ∧ ∀ j (hj : j < i), p (l[j]'(by omega)) = false) → X = i) ∧ ((∀ i (hi : i < l.length), p l[i] = false) → X = -1) := by
    constructor
    · rintro i ⟨hi, h1, h2⟩
      have : l.findIdx? p = some i := List.findIdx?_eq_some_iff_getElem.2 ⟨hi, h1, fun j hj => by simp [h2 j hj]⟩
      rw [hX, idxI, this]
    · intro h
      have : l.findIdx? p = none := List.findIdx?_eq_none_iff.2 fun x hx => by
        obtain ⟨i, hi, rfl⟩ := List.getElem_of_mem hx
        simp [h i hi]
      rw [hX, idxI, this]
  clear hX
  have hfl := fC_len sC1_len l
  rw [Nat.mul_one] at hfl
  refine Call.enter' (N := 19) (rs := [.tmp 4]) Tryd.func55 rfl rfl rfl (by decide) rfl ?_; simp only [argT]; have hD : (0 : Nat) = 0 := rfl
  repeat' first | (with_reducible refine And.intro (by omega) ?_) | (refine SW.seq_k fun K hK => ?_) | (refine SW.block ?_) | ((first | refine SW.region ?_ | refine SW.regionD (Checked.mixed Tryd.checked) (by kernel_rfl) ?_ | refine SW.cond ?_ | refine SW.skip ?_ | refine SW.exit ?_ | refine SW.ret ?_ | (refine allF_i fun b hb => ?_; replace hD := And.intro hb hD; clear hb; try simp only [fresh_cons, fresh_nil, and_true, ne_eq, neF] at hD) | simp only [appK, appOsK]); try simp only [go_sem, hD]) | (refine And.intro (by omega) ?_) | (refine ifI (fun hc => ?_) (fun hc => ?_) <;> first | (exfalso; omega) | skip) | ((first | apply hK | ((iterate 1 (clear hK K)); apply hK) | ((iterate 2 (clear hK K)); apply hK) | ((iterate 3 (clear hK K)); apply hK) | ((iterate 4 (clear hK K)); apply hK) | ((iterate 5 (clear hK K)); apply hK)); clear hK K)
  obtain ⟨I, hI⟩ : ∃ I : Nat → St → Prop, ∀ k S, I k S ↔ (∃ (i : Nat) , k = l.length - i ∧ i ≤ l.length ∧ (∀ j (hj : j < l.length), j < i → p l[j] = false) ∧ S = ⟨[(0, .os b 0 l.length 1), (1, .fn (.func g) [] caps), (7, I64 l.length), (8, I64 i)], [(b, .svs (fC sC1 l))]⟩) := ⟨fun k S => _, fun _ _ => Iff.rfl⟩
  refine SW.loop' I (l.length) ((hI _ _).2 ⟨0, rfl, Nat.zero_le _, (fun j hj h => absurd h (by omega)), rfl⟩) (by repeat' (first | exact rfl | exact trivial | exact int_eq (by omega) | exact int_eq (by (rw [i64_wrap] <;> omega)) | constructor)) ?_
  intro k S hIn
  obtain ⟨i, rfl, hi, hN, rfl⟩ := (hI _ _).1 hIn
  clear hIn
  have ie : ((i : Nat) : Int).toNat = i := Int.toNat_natCast _
  have i0 : (0 : Int) ≤ ((i : Nat) : Int) := by omega
  by_cases hlt : i < l.length
  · have hli : ((i : Nat) : Int) < (((l.length) : Nat) : Int) := by omega
    have w1 : IntKind.i64.wrap ((i : Int) + 1) = ((i + 1 : Nat) : Int) := by rw [i64_wrap (by omega) (by omega)]; omega
    have hm := hF _ (getD_mem 0 hlt)
    have hgi := getD_in 0 hlt
    have tf := fC_get hlt
    have lf : i < (fC sC1 l).length := by omega
    have z1 : 0 + i * 1 = i := by omega
    have hnx : p l[i] = false → ∀ j (hj : j < l.length), j < i + 1 → p l[j] = false := fun h j hj hji => by
      rcases Nat.lt_or_ge j i with h1 | h1
      · exact hN j hj h1
      · obtain rfl : j = i := by omega
        exact h
    generalize l.getD i 0 = x at *
    cases hp : p x with
    | true =>
      rw [hp] at hm
      have hXe := hall.1 i ⟨hlt, by rw [← hgi]; exact hp, fun j hj => hN j (by omega) hj⟩
      repeat' first | (with_reducible refine And.intro (by omega) ?_) | (refine SW.seq_k fun K hK => ?_) | (refine SW.block ?_) | ((first | refine SW.region ?_ | refine SW.regionD (Checked.mixed Tryd.checked) (by kernel_rfl) ?_ | refine SW.cond ?_ | refine SW.skip ?_ | refine SW.exit ?_ | refine SW.ret ?_ | refine Call.of_pure (hm) ?_ | refine ⟨_, hm, ?_⟩ | (refine allF_i fun b hb => ?_; replace hD := And.intro hb hD; clear hb; try simp only [fresh_cons, fresh_nil, and_true, ne_eq, neF] at hD) | simp only [appK, appOsK]); try simp only [go_sem, hD, hli, ie, i0, w1, z1, tf, lf]) | (refine And.intro (by omega) ?_) | (refine ifI (fun hc => ?_) (fun hc => ?_) <;> first | (exfalso; omega) | skip) | ((first | apply hK | ((iterate 1 (clear hK K)); apply hK) | ((iterate 2 (clear hK K)); apply hK) | ((iterate 3 (clear hK K)); apply hK) | ((iterate 4 (clear hK K)); apply hK) | ((iterate 5 (clear hK K)); apply hK)); clear hK K)
      refine retQ_le (fun M w0 D N a w r => r) ?_
      simp only [resL_tmp, resL_nil, tupOf, go_sem, hD]
      rw [hXe]
      all_goals exact ⟨rfl, rfl⟩
    | false =>
      rw [hp] at hm
      repeat' first | (with_reducible refine And.intro (by omega) ?_) | (refine SW.seq_k fun K hK => ?_) | (refine SW.block ?_) | ((first | refine SW.region ?_ | refine SW.regionD (Checked.mixed Tryd.checked) (by kernel_rfl) ?_ | refine SW.cond ?_ | refine SW.skip ?_ | refine SW.exit ?_ | refine SW.ret ?_ | refine Call.of_pure (hm) ?_ | refine ⟨_, hm, ?_⟩ | (refine allF_i fun b hb => ?_; replace hD := And.intro hb hD; clear hb; try simp only [fresh_cons, fresh_nil, and_true, ne_eq, neF] at hD) | simp only [appK, appOsK]); try simp only [go_sem, hD, hli, ie, i0, w1, z1, tf, lf]) | (refine And.intro (by omega) ?_) | (refine ifI (fun hc => ?_) (fun hc => ?_) <;> first | (exfalso; omega) | skip) | ((first | apply hK | ((iterate 1 (clear hK K)); apply hK) | ((iterate 2 (clear hK K)); apply hK) | ((iterate 3 (clear hK K)); apply hK) | ((iterate 4 (clear hK K)); apply hK) | ((iterate 5 (clear hK K)); apply hK)); clear hK K)
      refine Rnd.sub (l.length - (i + 1)) (by omega) ((hI _ _).2 ⟨i + 1, rfl, by omega, hnx (by rw [← hgi]; exact hp), rfl⟩) (by repeat' (first | exact rfl | exact trivial | exact int_eq (by omega) | exact int_eq (by (rw [i64_wrap] <;> omega)) | constructor))
  · have hli : ¬ ((i : Nat) : Int) < (((l.length) : Nat) : Int) := by omega
    have hXe := hall.2 fun j hj => hN j hj (by omega)
    repeat' first | (with_reducible refine And.intro (by omega) ?_) | (refine SW.seq_k fun K hK => ?_) | (refine SW.block ?_) | ((first | refine SW.region ?_ | refine SW.regionD (Checked.mixed Tryd.checked) (by kernel_rfl) ?_ | refine SW.cond ?_ | refine SW.skip ?_ | refine SW.exit ?_ | refine SW.ret ?_ | (refine allF_i fun b hb => ?_; replace hD := And.intro hb hD; clear hb; try simp only [fresh_cons, fresh_nil, and_true, ne_eq, neF] at hD) | simp only [appK, appOsK]); try simp only [go_sem, hD, hli]) | (refine And.intro (by omega) ?_) | (refine ifI (fun hc => ?_) (fun hc => ?_) <;> first | (exfalso; omega) | skip) | ((first | apply hK | ((iterate 1 (clear hK K)); apply hK) | ((iterate 2 (clear hK K)); apply hK) | ((iterate 3 (clear hK K)); apply hK) | ((iterate 4 (clear hK K)); apply hK) | ((iterate 5 (clear hK K)); apply hK)); clear hK K)
    refine retQ_le (fun M w0 D N a w r => r) ?_
    simp only [resL_tmp, resL_nil, tupOf, go_sem, hD]
    rw [hXe]
    all_goals exact ⟨rfl, rfl⟩
theorem contains_o (b : Nat) (g : FuncId) (caps : List SV) (p : Nat → Bool) (l : List Nat) (hF : ∀ x ∈ l, PCall Tryd.prog g (U32 x :: caps) (SB (p x))) (h64 : l.length ≤ 1000000000) : Ab.Call Tryd.prog 41 [.os b 0 l.length 1, .fn (.func g) [] caps] [(b, .svs (fC sC1 l))] (fun r h' => r = SB (l.any p) ∧ h' = [(b, .svs (fC sC1 l))]) := by
  have ix := index_o b g caps p l hF h64
  have e := idxI_any p l
  refine Call.enter' (N := 9) (rs := [.tmp 4]) Tryd.func41 rfl rfl rfl (by decide) rfl ?_; simp only [argT]; have hD : (0 : Nat) = 0 := rfl
  repeat' first | (with_reducible refine And.intro (by omega) ?_) | (refine SW.seq_k fun K hK => ?_) | (refine SW.block ?_) | ((first | refine SW.region ?_ | refine SW.regionD (Checked.mixed Tryd.checked) (by kernel_rfl) ?_ | refine SW.cond ?_ | refine SW.skip ?_ | refine SW.exit ?_ | refine SW.ret ?_ | (refine allF_i fun b hb => ?_; replace hD := And.intro hb hD; clear hb; try simp only [fresh_cons, fresh_nil, and_true, ne_eq, neF] at hD) | simp only [appK, appOsK]); try simp only [go_sem, hD]) | (refine And.intro (by omega) ?_) | (refine ifI (fun hc => ?_) (fun hc => ?_) <;> first | (exfalso; omega) | skip) | ((first | apply hK | ((iterate 1 (clear hK K)); apply hK) | ((iterate 2 (clear hK K)); apply hK) | ((iterate 3 (clear hK K)); apply hK) | ((iterate 4 (clear hK K)); apply hK) | ((iterate 5 (clear hK K)); apply hK)); clear hK K)
  refine Call.mono ix ?_
  intro r h' hx
  obtain ⟨rfl, rfl⟩ := hx
  simp only [go_sem, hD, e]
  (first | apply hK | ((iterate 1 (clear hK K)); apply hK) | ((iterate 2 (clear hK K)); apply hK) | ((iterate 3 (clear hK K)); apply hK) | ((iterate 4 (clear hK K)); apply hK) | ((iterate 5 (clear hK K)); apply hK)); clear hK K
  repeat' first | (with_reducible refine And.intro (by omega) ?_) | (refine SW.seq_k fun K hK => ?_) | (refine SW.block ?_) | ((first | refine SW.region ?_ | refine SW.regionD (Checked.mixed Tryd.checked) (by kernel_rfl) ?_ | refine SW.cond ?_ | refine SW.skip ?_ | refine SW.exit ?_ | refine SW.ret ?_ | (refine allF_i fun b hb => ?_; replace hD := And.intro hb hD; clear hb; try simp only [fresh_cons, fresh_nil, and_true, ne_eq, neF] at hD) | simp only [appK, appOsK]); try simp only [go_sem, hD]) | (refine And.intro (by omega) ?_) | (refine ifI (fun hc => ?_) (fun hc => ?_) <;> first | (exfalso; omega) | skip) | ((first | apply hK | ((iterate 1 (clear hK K)); apply hK) | ((iterate 2 (clear hK K)); apply hK) | ((iterate 3 (clear hK K)); apply hK) | ((iterate 4 (clear hK K)); apply hK) | ((iterate 5 (clear hK K)); apply hK)); clear hK K)
  refine retQ_le (fun M w0 D N a w r => r) ?_
  simp only [resL_tmp, resL_nil, tupOf, go_sem, hD]
  all_goals exact ⟨rfl, rfl⟩
theorem red1_p (f e : Nat) (hf : f < 4294967296) (he : e < 4294967296) : PCall Tryd.prog 46 [U32 f, .fp [U32 e]] (SB (decide (f &&& e = f))) := by
  have ea := and32 f e hf he
  refine Call.enter' (N := 9) (rs := [.tmp 3]) Tryd.func46 rfl rfl rfl (by decide) rfl ?_; simp only [argT]; have hD : (0 : Nat) = 0 := rfl
  repeat' first | (with_reducible refine And.intro (by omega) ?_) | (refine SW.seq_k fun K hK => ?_) | (refine SW.block ?_) | ((first | refine SW.region ?_ | refine SW.regionD (Checked.mixed Tryd.checked) (by kernel_rfl) ?_ | refine SW.cond ?_ | refine SW.skip ?_ | refine SW.exit ?_ | refine SW.ret ?_ | (refine allF_i fun b hb => ?_; replace hD := And.intro hb hD; clear hb; try simp only [fresh_cons, fresh_nil, and_true, ne_eq, neF] at hD) | simp only [appK, appOsK]); try simp only [go_sem, hD, ea]) | (refine And.intro (by omega) ?_) | (refine ifI (fun hc => ?_) (fun hc => ?_) <;> first | (exfalso; omega) | skip) | ((first | apply hK | ((iterate 1 (clear hK K)); apply hK) | ((iterate 2 (clear hK K)); apply hK) | ((iterate 3 (clear hK K)); apply hK) | ((iterate 4 (clear hK K)); apply hK) | ((iterate 5 (clear hK K)); apply hK)); clear hK K)
  refine ret_pure ?_; simp only [resL_tmp, resL_nil, tupOf, go_sem, hD]
  refine bool_eq ?_
  rw [decide_eq_decide]
  omega
theorem val1_p (n e : Nat) (hn : n ≤ 6) (he : e < 2 ^ n) : PCall Tryd.prog 42 [U32 e, .fp [I64 n]] (SB false) := by
  have nn0 : (0 : Int) ≤ ((n : Nat) : Int) := by omega
  have ne : ((n : Nat) : Int).toNat = n := Int.toNat_natCast _
  have nm : min n 32 = n := by omega
  have sh := shr32 e n
  have hz : ((e / 2 ^ n : Nat) : Int) = 0 := by rw [Nat.div_eq_of_lt he]; rfl
  rw [hz] at sh
  refine Call.enter' (N := 8) (rs := [.tmp 3]) Tryd.func42 rfl rfl rfl (by decide) rfl ?_; simp only [argT]; have hD : (0 : Nat) = 0 := rfl
  repeat' first | (with_reducible refine And.intro (by omega) ?_) | (refine SW.seq_k fun K hK => ?_) | (refine SW.block ?_) | ((first | refine SW.region ?_ | refine SW.regionD (Checked.mixed Tryd.checked) (by kernel_rfl) ?_ | refine SW.cond ?_ | refine SW.skip ?_ | refine SW.exit ?_ | refine SW.ret ?_ | (refine allF_i fun b hb => ?_; replace hD := And.intro hb hD; clear hb; try simp only [fresh_cons, fresh_nil, and_true, ne_eq, neF] at hD) | simp only [appK, appOsK]); try simp only [go_sem, hD, nn0, ne, nm, sh]) | (refine And.intro (by omega) ?_) | (refine ifI (fun hc => ?_) (fun hc => ?_) <;> first | (exfalso; omega) | skip) | ((first | apply hK | ((iterate 1 (clear hK K)); apply hK) | ((iterate 2 (clear hK K)); apply hK) | ((iterate 3 (clear hK K)); apply hK) | ((iterate 4 (clear hK K)); apply hK) | ((iterate 5 (clear hK K)); apply hK)); clear hK K)
  refine ret_pure ?_; simp only [resL_tmp, resL_nil, tupOf, go_sem, hD]
end Go.Proofs.YtmcmphmhjikgkaaDoor
