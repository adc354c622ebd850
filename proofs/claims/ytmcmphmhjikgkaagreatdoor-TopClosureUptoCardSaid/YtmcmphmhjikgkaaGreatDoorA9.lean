/- Contracts: lists of sets in order. -/
import Derived.Test.YtmcmphmhjikgkaaGreatDoorA8
import Derived.Test.YtmcmphmhjikgkaaGreatDoorA7
import Derived.Test.YtmcmphmhjikgkaaGreatDoorB2
import Derived.Test.YtmcmphmhjikgkaaGreatDoorS3
set_option linter.unusedSimpArgs false
set_option linter.unusedVariables false
set_option linter.unusedSectionVars false
namespace Go.Ab.A20
open Go Go.Ab Go.Proofs Go.Sort Go.RowKit
def cmpO (a c : Nat) : Int := if cmpN (popN a) (popN c) = 0 then cmpN a c else cmpN (popN a) (popN c)
abbrev S64 := Fin 64
def cfO (x y : S64) : Int := cmpO x.val y.val
def keyO (x : S64) : Nat := popN x.val * 64 + x.val
theorem cfO_key (x y : S64) : cfO x y = cmpN (keyO x) (keyO y) := by
  have hx := x.isLt
  have hy := y.isLt
  unfold cfO cmpO keyO cmpN
  generalize popN x.val = p
  generalize popN y.val = q
  repeat' split
  all_goals first | rfl | omega
theorem lt_key (x y : S64) : ltOf cfO x y = decide (keyO x < keyO y) := by
  unfold ltOf
  rw [cfO_key, decide_eq_decide]
  unfold cmpN
  repeat' split
  all_goals omega
theorem keyO_inj {x y : S64} (h : keyO x = keyO y) : x = y := by
  have hx := x.isLt
  have hy := y.isLt
  unfold keyO at h
  exact Fin.ext (by omega)
theorem swoO : SWO (ltOf cfO) where
  irrefl x := by rw [lt_key]; simp
  trans x y z h1 h2 := by
    rw [lt_key, decide_eq_true_eq] at *
    omega
  ntrans x y z h1 h2 := by
    rw [lt_key, decide_eq_false_iff_not] at *
    omega
theorem totO (x y : S64) (h1 : ltOf cfO x y = false) (h2 : ltOf cfO y x = false) : x = y := by
  rw [lt_key, decide_eq_false_iff_not] at *
  exact keyO_inj (by omega)
def encS (x : S64) : Value := .int .u32 x.val
/-- In order. -/
def ordF (l : List S64) : List S64 := l.mergeSort fun x y => !(ltOf cfO) y x
def natS (l : List S64) : List Nat := l.map (·.val)
theorem natS_len (l : List S64) : (natS l).length = l.length := List.length_map _
theorem ordF_len (l : List S64) : (ordF l).length = l.length := List.length_mergeSort _
theorem ordF_perm (l : List S64) : (ordF l).Perm l := List.mergeSort_perm _ _
theorem enc_fC (l : List S64) : (l.map fun x => SV.sc (encS x)) = fC sC1 (natS l) := by
  unfold fC natS
  induction l with
  | nil => rfl
  | cons x r ih => rw [List.map_cons, ih, List.map_cons, List.flatMap_cons]; rfl
theorem natS_nodup {l : List S64} (h : l.Nodup) : (natS l).Nodup := List.Pairwise.map _ (fun a b hab e => hab (Fin.ext e)) h
end Go.Ab.A20
namespace Go.Ab.A20
open Go Go.Ab Go.Proofs Go.Sort Go.RowKit
/-- Sets of a list, in order. -/
def toS (l : List Nat) : List S64 := l.map fun x => ⟨x % 64, Nat.mod_lt _ (by decide)⟩
theorem natS_toS {l : List Nat} (h : Sm l) : natS (toS l) = l := by
  unfold natS toS
  rw [List.map_map]
  conv => rhs; rw [← List.map_id l]
  refine List.map_congr_left fun x hx => ?_
  exact Nat.mod_eq_of_lt (h x hx)
def ordN (l : List Nat) : List Nat := natS (ordF (toS l))
theorem ordN_perm {l : List Nat} (h : Sm l) : (ordN l).Perm l := by
  have := (ordF_perm (toS l)).map (·.val)
  exact this.trans (by rw [show (toS l).map (·.val) = l from natS_toS h])
theorem ordN_len {l : List Nat} (h : Sm l) : (ordN l).length = l.length := (ordN_perm h).length_eq
theorem ordN_le {l : List Nat} (h : Sm l) : (ordN l).Pairwise fun a b => keyN a ≤ keyN b := by
  unfold ordN natS
  refine List.Pairwise.map _ (R := fun x y : S64 => keyO x ≤ keyO y) (fun a b hab => hab) ?_
  have := List.pairwise_mergeSort (le := fun x y : S64 => !(ltOf cfO) y x) (fun a b c h1 h2 => ?_) (fun a b => ?_) (toS l)
  · refine List.Pairwise.imp ?_ this
    intro a b hab
    rw [lt_key, Bool.not_eq_true', decide_eq_false_iff_not] at hab
    omega
  · rw [lt_key, Bool.not_eq_true', decide_eq_false_iff_not] at *
    omega
  · rw [lt_key, lt_key, Bool.or_eq_true, Bool.not_eq_true', Bool.not_eq_true', decide_eq_false_iff_not, decide_eq_false_iff_not]
    omega
end Go.Ab.A20
namespace Go.Proofs.YtmcmphmhjikgkaaGreatDoor
open Go Go.Ab Go.Ab.A20 Go.Sort Go.RowKit
variable [Gl]

set_option maxHeartbeats 1000000 in
theorem compare_p (a c : Nat) (ha : a < 64) (hc : c < 64) : PCall Tryz.prog 91 [U32 a, U32 c] (I64 (cmpO a c)) := by
  have s1 := size_p a ha
  have s2 := size_p c hc
  have c1 := cmpI_p (popN a) (popN c)
  have c2 := cmpS_p a c
  unfold cmpO
  generalize cmpN (popN a) (popN c) = u at *
  generalize cmpN a c = v at *
  have o := or_p u v
  refine Call.enter' (N := 15) (rs := [.tmp 4]) Tryz.func91 rfl rfl rfl (by decide) rfl ?_; simp only [argT]; have hD : (0 : Nat) = 0 := rfl
  repeat' first | (with_reducible refine And.intro (by omega) ?_) | (refine SW.seq_k fun K hK => ?_) | (refine SW.block ?_) | ((first | refine SW.region ?_ | refine SW.regionD (Checked.mixed Tryz.checked) (by kernel_rfl) ?_ | refine SW.cond ?_ | refine SW.skip ?_ | refine SW.exit ?_ | refine SW.ret ?_ | refine Call.of_pure (s1) ?_ | refine ⟨_, s1, ?_⟩ | refine Call.of_pure (s2) ?_ | refine ⟨_, s2, ?_⟩ | refine Call.of_pure (c1) ?_ | refine ⟨_, c1, ?_⟩ | refine Call.of_pure (c2) ?_ | refine ⟨_, c2, ?_⟩ | (refine allF_i fun b hb => ?_; replace hD := And.intro hb hD; clear hb; try simp only [fresh_cons, fresh_nil, and_true, ne_eq, neF] at hD) | simp only [appK, appOsK]); try simp only [go_sem, hD]) | (refine And.intro (by omega) ?_) | (refine ifI (fun hc => ?_) (fun hc => ?_) <;> first | (exfalso; omega) | skip) | ((first | apply hK | ((iterate 1 (clear hK K)); apply hK) | ((iterate 2 (clear hK K)); apply hK) | ((iterate 3 (clear hK K)); apply hK) | ((iterate 4 (clear hK K)); apply hK) | ((iterate 5 (clear hK K)); apply hK)); clear hK K)
  refine Call.freeze_ints 0 .i64 [u, v] (by simp) rfl rfl (by rw [find_cons, if_pos rfl]) rfl (Call.of_pure o ?_)
  (first | apply hK | ((iterate 1 (clear hK K)); apply hK) | ((iterate 2 (clear hK K)); apply hK) | ((iterate 3 (clear hK K)); apply hK) | ((iterate 4 (clear hK K)); apply hK) | ((iterate 5 (clear hK K)); apply hK)); clear hK K
  repeat' first | (with_reducible refine And.intro (by omega) ?_) | (refine SW.seq_k fun K hK => ?_) | (refine SW.block ?_) | ((first | refine SW.region ?_ | refine SW.regionD (Checked.mixed Tryz.checked) (by kernel_rfl) ?_ | refine SW.cond ?_ | refine SW.skip ?_ | refine SW.exit ?_ | refine SW.ret ?_ | (refine allF_i fun b hb => ?_; replace hD := And.intro hb hD; clear hb; try simp only [fresh_cons, fresh_nil, and_true, ne_eq, neF] at hD) | simp only [appK, appOsK]); try simp only [go_sem, hD]) | (refine And.intro (by omega) ?_) | (refine ifI (fun hc => ?_) (fun hc => ?_) <;> first | (exfalso; omega) | skip) | ((first | apply hK | ((iterate 1 (clear hK K)); apply hK) | ((iterate 2 (clear hK K)); apply hK) | ((iterate 3 (clear hK K)); apply hK) | ((iterate 4 (clear hK K)); apply hK) | ((iterate 5 (clear hK K)); apply hK)); clear hK K)
  refine ret_pure ?_; simp only [resL_tmp, resL_nil, tupOf, go_sem, hD]



theorem sort_s (b : Nat) (l : List S64) (hl : l.length < 4611686018427387904) :
    Ab.Call Tryz.prog 90 [.os b 0 l.length 1, .fn (.func 91) [] []] [(b, .svs (fC sC1 (natS l)))] (fun r h' => r = .tup [] ∧ h' = [(b, .svs (fC sC1 (natS (ordF l))))]) := by
  have := Call.sort1 (P := Tryz.prog) (ρ := Tryz.sortT_ren) Tryz.sortT ⟨_, Tryz.func90, by kernel_rfl, by kernel_rfl⟩ encS (fun _ => rfl) cfO swoO totO 91 (Go.Proofs.enters_of Tryz.func91 (by kernel_rfl) rfl) (fun x y => compare_p _ _ x.isLt y.isLt) b l hl
  rw [enc_fC] at this
  refine Call.mono this fun r h' ⟨e1, e2⟩ => ⟨e1, ?_⟩
  rw [e2, enc_fC]
  rfl





theorem sort_z : PCall Tryz.prog 90 [.sc (.slice none 0 0), .fn (.func 91) [] []] (.tup []) :=
  Call.sortQ0 (P := Tryz.prog) (ρ := Tryz.sortS_ren) Tryz.sortS ⟨_, Tryz.func90, by kernel_rfl, by kernel_rfl⟩ 91

theorem fl_sC (l : List Nat) : flCells (sF l) l.length = fC sC1 l := by
  have e : l = (List.range l.length).map fun i => l.getD i 0 := by
    refine List.ext_getElem (by simp) fun i h1 h2 => ?_
    simp [List.getD_eq_getElem?_getD, h1]
  unfold flCells fC
  conv => rhs; rw [e]
  rw [List.flatMap_map]
  rfl

set_option maxHeartbeats 1000000 in
set_option maxRecDepth 20000 in
theorem clone_s (l : List Nat) (hl : l.length ≤ 1000000000) : Ab.Call Tryz.prog 89 [SS l] [] (fun r h' => (l = [] ∧ r = .sc (.slice none 0 0) ∧ h' = []) ∨ ∃ b, r = .os b 0 l.length 1 ∧ h' = [(b, .svs (fC sC1 l))]) := by
  refine Call.enter' (N := 8) (rs := [.tmp 2]) Tryz.func89 rfl rfl rfl (by decide) rfl ?_; simp only [argT]; have hD : (0 : Nat) = 0 := rfl
  refine SW.seq_k fun K0 hK0 => ?_
  refine SW.region ?_
  simp only [go_sem, hD]
  refine hK0 _ ?_
  clear hK0 K0
  refine SW.seq_k fun K hK => ?_
  refine SW.seq_k fun K2 hK2 => ?_
  refine SW.region_nil (i := 0) (j := 3) (k := 4) rfl rfl rfl rfl rfl rfl Tryz.underlying33 rfl (by decide) (by decide) (fun hn => ?_) ?_
  · refine hK2 _ ?_
    clear hK2 K2
    have hl0 : l = [] := List.eq_nil_of_length_eq_zero hn
    subst hl0
    repeat' first | (with_reducible refine And.intro (by omega) ?_) | (refine SW.seq_k fun K hK => ?_) | (refine SW.block ?_) | ((first | refine SW.region ?_ | refine SW.regionD (Checked.mixed Tryz.checked) (by kernel_rfl) ?_ | refine SW.cond ?_ | refine SW.skip ?_ | refine SW.exit ?_ | refine SW.ret ?_ | (refine allF_i fun b hb => ?_; replace hD := And.intro hb hD; clear hb; try simp only [fresh_cons, fresh_nil, and_true, ne_eq, neF] at hD) | simp only [appK, appOsK]); try simp only [go_sem, hD]) | (refine And.intro (by omega) ?_) | (refine ifI (fun hc => ?_) (fun hc => ?_) <;> first | (exfalso; omega) | skip) | ((first | apply hK | ((iterate 1 (clear hK K)); apply hK) | ((iterate 2 (clear hK K)); apply hK) | ((iterate 3 (clear hK K)); apply hK) | ((iterate 4 (clear hK K)); apply hK) | ((iterate 5 (clear hK K)); apply hK)); clear hK K)
    refine retQ_le (fun M w0 D N a w r => r) ?_
    simp only [resL_tmp, resL_nil, tupOf, go_sem, hD]
    try exact .inl ⟨rfl, rfl, rfl⟩
  · refine hK2 _ ?_
    clear hK2 K2
    repeat' first | (with_reducible refine And.intro (by omega) ?_) | (refine SW.seq_k fun K hK => ?_) | (refine SW.block ?_) | ((first | refine SW.region ?_ | refine SW.regionD (Checked.mixed Tryz.checked) (by kernel_rfl) ?_ | refine SW.cond ?_ | refine SW.skip ?_ | refine SW.exit ?_ | refine SW.ret ?_ | (refine allF_i fun b hb => ?_; replace hD := And.intro hb hD; clear hb; try simp only [fresh_cons, fresh_nil, and_true, ne_eq, neF] at hD) | simp only [appK, appOsK]); try simp only [go_sem, hD]) | (refine And.intro (by omega) ?_) | (refine ifI (fun hc => ?_) (fun hc => ?_) <;> first | (exfalso; omega) | skip) | ((first | apply hK | ((iterate 1 (clear hK K)); apply hK) | ((iterate 2 (clear hK K)); apply hK) | ((iterate 3 (clear hK K)); apply hK) | ((iterate 4 (clear hK K)); apply hK) | ((iterate 5 (clear hK K)); apply hK)); clear hK K)
    rw [fl_sC]
    refine ⟨?_, by omega, by omega, allF_i fun b' hb' => ?_⟩
    · rw [List.all_eq_true]
      intro x hx
      obtain ⟨r, _, hr⟩ := List.mem_flatMap.1 hx
      rw [List.mem_singleton.1 hr]
      rfl
    · apply hK
      clear hK K
      repeat' first | (with_reducible refine And.intro (by omega) ?_) | (refine SW.seq_k fun K hK => ?_) | (refine SW.block ?_) | ((first | refine SW.region ?_ | refine SW.regionD (Checked.mixed Tryz.checked) (by kernel_rfl) ?_ | refine SW.cond ?_ | refine SW.skip ?_ | refine SW.exit ?_ | refine SW.ret ?_ | (refine allF_i fun b hb => ?_; replace hD := And.intro hb hD; clear hb; try simp only [fresh_cons, fresh_nil, and_true, ne_eq, neF] at hD) | simp only [appK, appOsK]); try simp only [go_sem, hD]) | (refine And.intro (by omega) ?_) | (refine ifI (fun hc => ?_) (fun hc => ?_) <;> first | (exfalso; omega) | skip) | ((first | apply hK | ((iterate 1 (clear hK K)); apply hK) | ((iterate 2 (clear hK K)); apply hK) | ((iterate 3 (clear hK K)); apply hK) | ((iterate 4 (clear hK K)); apply hK) | ((iterate 5 (clear hK K)); apply hK)); clear hK K)
      refine retQ_le (fun M w0 D N a w r => r) ?_
      simp only [resL_tmp, resL_nil, tupOf, go_sem, hD]
      exact .inr ⟨_, rfl, rfl⟩

set_option maxHeartbeats 1000000 in
set_option maxRecDepth 20000 in
theorem order_p (l : List S64) (hn : l.Nodup) (hl : l.length ≤ 1000000) : PCall Tryz.prog 60 [SS (natS l)] (SS (natS (ordF l))) := by
  have cl := clone_s (natS l) (by rw [natS_len]; omega)
  have hod : Diff (natS (ordF l)) := diff_of_nodup (natS_nodup ((ordF_perm l).nodup_iff.2 hn))
  have hlo : (natS (ordF l)).length = l.length := by rw [natS_len, ordF_len]
  have cp := compactS (natS (ordF l)) hod (by rw [hlo]; omega)
  refine Call.enter' (N := 10) (rs := [.tmp 2]) Tryz.func60 rfl rfl rfl (by decide) rfl ?_; simp only [argT]; have hD : (0 : Nat) = 0 := rfl
  repeat' first | (with_reducible refine And.intro (by omega) ?_) | (refine SW.seq_k fun K hK => ?_) | (refine SW.block ?_) | ((first | refine SW.region ?_ | refine SW.regionD (Checked.mixed Tryz.checked) (by kernel_rfl) ?_ | refine SW.cond ?_ | refine SW.skip ?_ | refine SW.exit ?_ | refine SW.ret ?_ | (refine allF_i fun b hb => ?_; replace hD := And.intro hb hD; clear hb; try simp only [fresh_cons, fresh_nil, and_true, ne_eq, neF] at hD) | simp only [appK, appOsK]); try simp only [go_sem, hD]) | (refine And.intro (by omega) ?_) | (refine ifI (fun hc => ?_) (fun hc => ?_) <;> first | (exfalso; omega) | skip) | ((first | apply hK | ((iterate 1 (clear hK K)); apply hK) | ((iterate 2 (clear hK K)); apply hK) | ((iterate 3 (clear hK K)); apply hK) | ((iterate 4 (clear hK K)); apply hK) | ((iterate 5 (clear hK K)); apply hK)); clear hK K)
  refine Call.mono cl ?_
  intro r h' hx
  rcases hx with ⟨e, rfl, rfl⟩ | ⟨g, rfl, rfl⟩
  · have hl0 : l = [] := List.eq_nil_of_length_eq_zero (by rw [← natS_len, e]; rfl)
    subst hl0
    have e0 : ordF [] = [] := by simp [ordF]
    have e1 : natS ([] : List S64) = [] := rfl
    rw [e0, e1] at cp
    (first | apply hK | ((iterate 1 (clear hK K)); apply hK) | ((iterate 2 (clear hK K)); apply hK) | ((iterate 3 (clear hK K)); apply hK) | ((iterate 4 (clear hK K)); apply hK) | ((iterate 5 (clear hK K)); apply hK)); clear hK K
    repeat' first | (with_reducible refine And.intro (by omega) ?_) | (refine SW.seq_k fun K hK => ?_) | (refine SW.block ?_) | ((first | refine SW.region ?_ | refine SW.regionD (Checked.mixed Tryz.checked) (by kernel_rfl) ?_ | refine SW.cond ?_ | refine SW.skip ?_ | refine SW.exit ?_ | refine SW.ret ?_ | refine Call.of_pure (sort_z) ?_ | refine ⟨_, sort_z, ?_⟩ | (refine allF_i fun b hb => ?_; replace hD := And.intro hb hD; clear hb; try simp only [fresh_cons, fresh_nil, and_true, ne_eq, neF] at hD) | simp only [appK, appOsK]); try simp only [go_sem, hD]) | (refine And.intro (by omega) ?_) | (refine ifI (fun hc => ?_) (fun hc => ?_) <;> first | (exfalso; omega) | skip) | ((first | apply hK | ((iterate 1 (clear hK K)); apply hK) | ((iterate 2 (clear hK K)); apply hK) | ((iterate 3 (clear hK K)); apply hK) | ((iterate 4 (clear hK K)); apply hK) | ((iterate 5 (clear hK K)); apply hK)); clear hK K)
    refine Call.nil_fl 0 (sz := 1) (sF []) (by simp) rfl (Call.of_pure cp ?_)
    (first | apply hK | ((iterate 1 (clear hK K)); apply hK) | ((iterate 2 (clear hK K)); apply hK) | ((iterate 3 (clear hK K)); apply hK) | ((iterate 4 (clear hK K)); apply hK) | ((iterate 5 (clear hK K)); apply hK)); clear hK K
    repeat' first | (with_reducible refine And.intro (by omega) ?_) | (refine SW.seq_k fun K hK => ?_) | (refine SW.block ?_) | ((first | refine SW.region ?_ | refine SW.regionD (Checked.mixed Tryz.checked) (by kernel_rfl) ?_ | refine SW.cond ?_ | refine SW.skip ?_ | refine SW.exit ?_ | refine SW.ret ?_ | (refine allF_i fun b hb => ?_; replace hD := And.intro hb hD; clear hb; try simp only [fresh_cons, fresh_nil, and_true, ne_eq, neF] at hD) | simp only [appK, appOsK]); try simp only [go_sem, hD]) | (refine And.intro (by omega) ?_) | (refine ifI (fun hc => ?_) (fun hc => ?_) <;> first | (exfalso; omega) | skip) | ((first | apply hK | ((iterate 1 (clear hK K)); apply hK) | ((iterate 2 (clear hK K)); apply hK) | ((iterate 3 (clear hK K)); apply hK) | ((iterate 4 (clear hK K)); apply hK) | ((iterate 5 (clear hK K)); apply hK)); clear hK K)
    refine ret_pure ?_; simp only [resL_tmp, resL_nil, tupOf, go_sem, hD]
    rw [e0]
    rfl
  · (first | apply hK | ((iterate 1 (clear hK K)); apply hK) | ((iterate 2 (clear hK K)); apply hK) | ((iterate 3 (clear hK K)); apply hK) | ((iterate 4 (clear hK K)); apply hK) | ((iterate 5 (clear hK K)); apply hK)); clear hK K
    repeat' first | (with_reducible refine And.intro (by omega) ?_) | (refine SW.seq_k fun K hK => ?_) | (refine SW.block ?_) | ((first | refine SW.region ?_ | refine SW.regionD (Checked.mixed Tryz.checked) (by kernel_rfl) ?_ | refine SW.cond ?_ | refine SW.skip ?_ | refine SW.exit ?_ | refine SW.ret ?_ | (refine allF_i fun b hb => ?_; replace hD := And.intro hb hD; clear hb; try simp only [fresh_cons, fresh_nil, and_true, ne_eq, neF] at hD) | simp only [appK, appOsK]); try simp only [go_sem, hD]) | (refine And.intro (by omega) ?_) | (refine ifI (fun hc => ?_) (fun hc => ?_) <;> first | (exfalso; omega) | skip) | ((first | apply hK | ((iterate 1 (clear hK K)); apply hK) | ((iterate 2 (clear hK K)); apply hK) | ((iterate 3 (clear hK K)); apply hK) | ((iterate 4 (clear hK K)); apply hK) | ((iterate 5 (clear hK K)); apply hK)); clear hK K)
    rw [natS_len]
    refine Call.mono (sort_s g l (by omega)) ?_
    intro r h' hx
    obtain ⟨rfl, rfl⟩ := hx
    (first | apply hK | ((iterate 1 (clear hK K)); apply hK) | ((iterate 2 (clear hK K)); apply hK) | ((iterate 3 (clear hK K)); apply hK) | ((iterate 4 (clear hK K)); apply hK) | ((iterate 5 (clear hK K)); apply hK)); clear hK K
    repeat' first | (with_reducible refine And.intro (by omega) ?_) | (refine SW.seq_k fun K hK => ?_) | (refine SW.block ?_) | ((first | refine SW.region ?_ | refine SW.regionD (Checked.mixed Tryz.checked) (by kernel_rfl) ?_ | refine SW.cond ?_ | refine SW.skip ?_ | refine SW.exit ?_ | refine SW.ret ?_ | (refine allF_i fun b hb => ?_; replace hD := And.intro hb hD; clear hb; try simp only [fresh_cons, fresh_nil, and_true, ne_eq, neF] at hD) | simp only [appK, appOsK]); try simp only [go_sem, hD]) | (refine And.intro (by omega) ?_) | (refine ifI (fun hc => ?_) (fun hc => ?_) <;> first | (exfalso; omega) | skip) | ((first | apply hK | ((iterate 1 (clear hK K)); apply hK) | ((iterate 2 (clear hK K)); apply hK) | ((iterate 3 (clear hK K)); apply hK) | ((iterate 4 (clear hK K)); apply hK) | ((iterate 5 (clear hK K)); apply hK)); clear hK K)
    refine freeze_fC 0 sC1_len 0 (natS (ordF l)) (by simp) rfl hlo.symm (by rw [find_cons, if_pos rfl]) rfl ?_
    rw [del_head]
    refine Call.of_pure cp ?_
    (first | apply hK | ((iterate 1 (clear hK K)); apply hK) | ((iterate 2 (clear hK K)); apply hK) | ((iterate 3 (clear hK K)); apply hK) | ((iterate 4 (clear hK K)); apply hK) | ((iterate 5 (clear hK K)); apply hK)); clear hK K
    repeat' first | (with_reducible refine And.intro (by omega) ?_) | (refine SW.seq_k fun K hK => ?_) | (refine SW.block ?_) | ((first | refine SW.region ?_ | refine SW.regionD (Checked.mixed Tryz.checked) (by kernel_rfl) ?_ | refine SW.cond ?_ | refine SW.skip ?_ | refine SW.exit ?_ | refine SW.ret ?_ | (refine allF_i fun b hb => ?_; replace hD := And.intro hb hD; clear hb; try simp only [fresh_cons, fresh_nil, and_true, ne_eq, neF] at hD) | simp only [appK, appOsK]); try simp only [go_sem, hD]) | (refine And.intro (by omega) ?_) | (refine ifI (fun hc => ?_) (fun hc => ?_) <;> first | (exfalso; omega) | skip) | ((first | apply hK | ((iterate 1 (clear hK K)); apply hK) | ((iterate 2 (clear hK K)); apply hK) | ((iterate 3 (clear hK K)); apply hK) | ((iterate 4 (clear hK K)); apply hK) | ((iterate 5 (clear hK K)); apply hK)); clear hK K)
    refine ret_pure ?_; simp only [resL_tmp, resL_nil, tupOf, go_sem, hD]
theorem order_n (l : List Nat) (hs : Sm l) (hn : l.Nodup) (hl : l.length ≤ 1000000) : PCall Tryz.prog 60 [SS l] (SS (ordN l)) := by
  have e := natS_toS hs
  have h1 : (toS l).Nodup := by
    have : (natS (toS l)).Nodup := by rw [e]; exact hn
    exact List.Pairwise.of_map _ (fun a b h x => h (by rw [x])) this
  have := order_p (toS l) h1 (by unfold toS; rw [List.length_map]; exact hl)
  rw [e] at this
  exact this
end Go.Proofs.YtmcmphmhjikgkaaGreatDoor
