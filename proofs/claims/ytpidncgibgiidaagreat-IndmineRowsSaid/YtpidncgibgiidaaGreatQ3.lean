/- Several texts in one: UA, UB, NR, YA, YB, YC, UC, R2, KA, KB, KC, KD, E2, P5, HA, HB, HC. -/
import Derived.Test.YtpidncgibgiidaaGreatQ2
import Derived.Test.YtpidncgibgiidaaGreatZ18
import Derived.Test.YtpidncgibgiidaaGreatB1
import Derived.Test.YtpidncgibgiidaaGreatZ5
import Derived.Test.YtpidncgibgiidaaGreatZ7
import Derived.Laws.Externs
import Derived.Shelf.Spec.BitsCarry
import Derived.Test.YtpidncgibgiidaaGreatQ1
import Derived.Lib.Bytealg
import Derived.Test.YtpidncgibgiidaaGreatZ3
import Derived.Laws.Bits64
import Derived.Test.YtpidncgibgiidaaGreatZ10
import Derived.Test.YtpidncgibgiidaaGreatE1
set_option linter.unusedSimpArgs false
set_option linter.unusedVariables false
set_option linter.unusedSectionVars false
set_option maxHeartbeats 4000000
set_option maxRecDepth 20000
namespace Go.Ab.A15
open Go Go.Ab Go.Ab.A34
theorem fl_str (l : List ByteArray) : flCells (sF l) l.length = l.map Str := by
  have e : l = (List.range l.length).map fun i => l.getD i ⟨#[]⟩ := by
    refine List.ext_getElem (by simp) fun i h1 h2 => ?_
    simp [List.getD_eq_getElem?_getD, h1]
  unfold flCells
  conv => rhs; rw [e]
  rw [List.map_map]
  unfold sF
  induction (List.range l.length) with
  | nil => rfl
  | cons x r ih => rw [List.flatMap_cons, List.map_cons, ih]; rfl
theorem str_at {l : List ByteArray} {j : Nat} (h : j < l.length) : sF l j = ((l.map Str).drop j).take 1 := by
  have hl : j < (l.map Str).length := by rw [List.length_map]; exact h
  rw [List.drop_eq_getElem_cons hl, List.take_succ_cons, List.take_zero, List.getElem_map]
  unfold sF
  simp [List.getD_eq_getElem?_getD, h]
theorem fl_vCs (l : List V3) : flCells (vF l) l.length = vCs l := by
  have e : l = (List.range l.length).map fun i => l.getD i v0 := by
    refine List.ext_getElem (by simp) fun i h1 h2 => ?_
    simp [List.getD_eq_getElem?_getD, h1]
  unfold flCells
  conv => rhs; rw [e]
  unfold vCs
  rw [List.flatMap_map]
  rfl
theorem vCs_all (l : List V3) : (vCs l).all single = true := by
  rw [List.all_eq_true]
  intro x hx
  obtain ⟨v, _, hv⟩ := List.mem_flatMap.1 hx
  simp only [encV, List.map_cons, List.map_nil, List.mem_cons, List.not_mem_nil, or_false] at hv
  rcases hv with rfl | rfl | rfl <;> rfl
end Go.Ab.A15
namespace Go.Proofs.YtpidncgibgiidaaGreat
open Go Go.Ab Go.Ab.A34 Go.Ab.A15
variable [Gl] [Tabs]
theorem clone_s (l : List ByteArray) (hl : l.length ≤ 1000) : PCall Tryz.prog 142 [SL l] (SL l) := by
  have hfm := fl_str l
  refine Call.enter' (N := 8) (rs := [.tmp 2]) Tryz.func142 rfl rfl rfl (by decide) rfl ?_; simp only [argT]; have hD : (0 : Nat) = 0 := rfl
  refine SW.seq_k fun K0 hK0 => ?_
  refine SW.region ?_
  simp only [go_sem, hD]
  refine hK0 _ ?_
  clear hK0 K0
  refine SW.seq_k fun K hK => ?_
  refine SW.seq_k fun K2 hK2 => ?_
  refine SW.region_nil (i := 0) (j := 3) (k := 4) rfl rfl rfl rfl rfl rfl Tryz.underlying69 rfl (by decide) (by decide) (fun hn => ?_) ?_
  · refine hK2 _ ?_
    clear hK2 K2
    have hl0 : l = [] := List.eq_nil_of_length_eq_zero hn
    subst hl0
    repeat' first | (with_reducible refine And.intro (by omega) ?_) | (refine SW.seq_k fun K hK => ?_) | (refine SW.block ?_) | ((first | refine SW.region ?_ | refine SW.regionD (Checked.mixed Tryz.checked) (by kernel_rfl) ?_ | refine SW.cond ?_ | refine SW.skip ?_ | refine SW.exit ?_ | refine SW.ret ?_ | (refine allF_i fun b hb => ?_; replace hD := And.intro hb hD; clear hb; try simp only [fresh_cons, fresh_nil, and_true, ne_eq, neF] at hD) | simp only [appK, appOsK]); try simp only [go_sem, hD]) | (refine And.intro (by omega) ?_) | (refine ifI (fun hc => ?_) (fun hc => ?_) <;> first | (exfalso; omega) | skip) | (apply hK; clear hK K) | (clear hK K; apply hK; clear hK K) | (clear hK K; clear hK K; apply hK; clear hK K) | (clear hK K; clear hK K; clear hK K; apply hK; clear hK K) | (clear hK K; clear hK K; clear hK K; clear hK K; apply hK; clear hK K) | (clear hK K; clear hK K; clear hK K; clear hK K; clear hK K; apply hK; clear hK K)
    refine retQ_le (St.le_nil_fl (i := 2) (sz := 1) (f := sF []) rfl) ?_
    simp only [resL_tmp, resL_nil, tupOf, go_sem, hD]
    all_goals first | exact ⟨rfl, rfl⟩ | rfl
  · refine hK2 _ ?_
    clear hK2 K2
    repeat' first | (with_reducible refine And.intro (by omega) ?_) | (refine SW.seq_k fun K hK => ?_) | (refine SW.block ?_) | ((first | refine SW.region ?_ | refine SW.regionD (Checked.mixed Tryz.checked) (by kernel_rfl) ?_ | refine SW.cond ?_ | refine SW.skip ?_ | refine SW.exit ?_ | refine SW.ret ?_ | (refine allF_i fun b hb => ?_; replace hD := And.intro hb hD; clear hb; try simp only [fresh_cons, fresh_nil, and_true, ne_eq, neF] at hD) | simp only [appK, appOsK]); try simp only [go_sem, hD]) | (refine And.intro (by omega) ?_) | (refine ifI (fun hc => ?_) (fun hc => ?_) <;> first | (exfalso; omega) | skip) | (apply hK; clear hK K) | (clear hK K; apply hK; clear hK K) | (clear hK K; clear hK K; apply hK; clear hK K) | (clear hK K; clear hK K; clear hK K; apply hK; clear hK K) | (clear hK K; clear hK K; clear hK K; clear hK K; apply hK; clear hK K) | (clear hK K; clear hK K; clear hK K; clear hK K; clear hK K; apply hK; clear hK K)
    rw [hfm]
    refine ⟨?_, by omega, by omega, allF_i fun b' hb' => ?_⟩
    · rw [List.all_eq_true]
      intro x hx
      obtain ⟨r, _, rfl⟩ := List.mem_map.1 hx
      rfl
    · apply hK
      clear hK K
      repeat' first | (with_reducible refine And.intro (by omega) ?_) | (refine SW.seq_k fun K hK => ?_) | (refine SW.block ?_) | ((first | refine SW.region ?_ | refine SW.regionD (Checked.mixed Tryz.checked) (by kernel_rfl) ?_ | refine SW.cond ?_ | refine SW.skip ?_ | refine SW.exit ?_ | refine SW.ret ?_ | (refine allF_i fun b hb => ?_; replace hD := And.intro hb hD; clear hb; try simp only [fresh_cons, fresh_nil, and_true, ne_eq, neF] at hD) | simp only [appK, appOsK]); try simp only [go_sem, hD]) | (refine And.intro (by omega) ?_) | (refine ifI (fun hc => ?_) (fun hc => ?_) <;> first | (exfalso; omega) | skip) | (apply hK; clear hK K) | (clear hK K; apply hK; clear hK K) | (clear hK K; clear hK K; apply hK; clear hK K) | (clear hK K; clear hK K; clear hK K; apply hK; clear hK K) | (clear hK K; clear hK K; clear hK K; clear hK K; apply hK; clear hK K) | (clear hK K; clear hK K; clear hK K; clear hK K; clear hK K; apply hK; clear hK K)
      refine retQ_le (St.le_freeze (i := 2) (b := b') (off := 0) (len := l.length) (sz := 1) (k := .svs (l.map Str)) rfl (by rw [find_cons, if_pos rfl]) (by rw [Blk.len_svs, List.length_map]; omega) (sF l) (fun j hj => by
        rw [getN_take _ _ _ (by rw [Blk.len_svs, List.length_map]; omega), Nat.zero_add, Nat.mul_one]
        exact str_at hj)) ?_
      rw [del_head]
      simp only [resL_tmp, resL_nil, tupOf, go_sem, hD]
      all_goals first | exact ⟨rfl, rfl⟩ | rfl
theorem clone_v (l : List V3) (hl : l.length ≤ 1000) : PCall Tryz.prog 183 [VL l] (VL l) := by
  have hfm := fl_vCs l
  have hvl := vCs_len l
  refine Call.enter' (N := 8) (rs := [.tmp 2]) Tryz.func183 rfl rfl rfl (by decide) rfl ?_; simp only [argT]; have hD : (0 : Nat) = 0 := rfl
  refine SW.seq_k fun K0 hK0 => ?_
  refine SW.region ?_
  simp only [go_sem, hD]
  refine hK0 _ ?_
  clear hK0 K0
  refine SW.seq_k fun K hK => ?_
  refine SW.seq_k fun K2 hK2 => ?_
  refine SW.region_nil (i := 0) (j := 3) (k := 4) rfl rfl rfl rfl rfl rfl Tryz.underlying76 rfl (by decide) (by decide) (fun hn => ?_) ?_
  · refine hK2 _ ?_
    clear hK2 K2
    have hl0 : l = [] := List.eq_nil_of_length_eq_zero hn
    subst hl0
    repeat' first | (with_reducible refine And.intro (by omega) ?_) | (refine SW.seq_k fun K hK => ?_) | (refine SW.block ?_) | ((first | refine SW.region ?_ | refine SW.regionD (Checked.mixed Tryz.checked) (by kernel_rfl) ?_ | refine SW.cond ?_ | refine SW.skip ?_ | refine SW.exit ?_ | refine SW.ret ?_ | (refine allF_i fun b hb => ?_; replace hD := And.intro hb hD; clear hb; try simp only [fresh_cons, fresh_nil, and_true, ne_eq, neF] at hD) | simp only [appK, appOsK]); try simp only [go_sem, hD]) | (refine And.intro (by omega) ?_) | (refine ifI (fun hc => ?_) (fun hc => ?_) <;> first | (exfalso; omega) | skip) | (apply hK; clear hK K) | (clear hK K; apply hK; clear hK K) | (clear hK K; clear hK K; apply hK; clear hK K) | (clear hK K; clear hK K; clear hK K; apply hK; clear hK K) | (clear hK K; clear hK K; clear hK K; clear hK K; apply hK; clear hK K) | (clear hK K; clear hK K; clear hK K; clear hK K; clear hK K; apply hK; clear hK K)
    refine retQ_le (St.le_nil_fl (i := 2) (sz := 3) (f := vF []) rfl) ?_
    simp only [resL_tmp, resL_nil, tupOf, go_sem, hD]
    all_goals first | exact ⟨rfl, rfl⟩ | rfl
  · refine hK2 _ ?_
    clear hK2 K2
    repeat' first | (with_reducible refine And.intro (by omega) ?_) | (refine SW.seq_k fun K hK => ?_) | (refine SW.block ?_) | ((first | refine SW.region ?_ | refine SW.regionD (Checked.mixed Tryz.checked) (by kernel_rfl) ?_ | refine SW.cond ?_ | refine SW.skip ?_ | refine SW.exit ?_ | refine SW.ret ?_ | (refine allF_i fun b hb => ?_; replace hD := And.intro hb hD; clear hb; try simp only [fresh_cons, fresh_nil, and_true, ne_eq, neF] at hD) | simp only [appK, appOsK]); try simp only [go_sem, hD]) | (refine And.intro (by omega) ?_) | (refine ifI (fun hc => ?_) (fun hc => ?_) <;> first | (exfalso; omega) | skip) | (apply hK; clear hK K) | (clear hK K; apply hK; clear hK K) | (clear hK K; clear hK K; apply hK; clear hK K) | (clear hK K; clear hK K; clear hK K; apply hK; clear hK K) | (clear hK K; clear hK K; clear hK K; clear hK K; apply hK; clear hK K) | (clear hK K; clear hK K; clear hK K; clear hK K; clear hK K; apply hK; clear hK K)
    rw [hfm]
    refine ⟨vCs_all l, by omega, by omega, allF_i fun b' hb' => ?_⟩
    apply hK
    clear hK K
    repeat' first | (with_reducible refine And.intro (by omega) ?_) | (refine SW.seq_k fun K hK => ?_) | (refine SW.block ?_) | ((first | refine SW.region ?_ | refine SW.regionD (Checked.mixed Tryz.checked) (by kernel_rfl) ?_ | refine SW.cond ?_ | refine SW.skip ?_ | refine SW.exit ?_ | refine SW.ret ?_ | (refine allF_i fun b hb => ?_; replace hD := And.intro hb hD; clear hb; try simp only [fresh_cons, fresh_nil, and_true, ne_eq, neF] at hD) | simp only [appK, appOsK]); try simp only [go_sem, hD]) | (refine And.intro (by omega) ?_) | (refine ifI (fun hc => ?_) (fun hc => ?_) <;> first | (exfalso; omega) | skip) | (apply hK; clear hK K) | (clear hK K; apply hK; clear hK K) | (clear hK K; clear hK K; apply hK; clear hK K) | (clear hK K; clear hK K; clear hK K; apply hK; clear hK K) | (clear hK K; clear hK K; clear hK K; clear hK K; apply hK; clear hK K) | (clear hK K; clear hK K; clear hK K; clear hK K; clear hK K; apply hK; clear hK K)
    refine retQ_le (St.le_freeze (i := 2) (b := b') (off := 0) (len := l.length) (sz := 3) (k := .svs (vCs l)) rfl (by rw [find_cons, if_pos rfl]) (by rw [Blk.len_svs, ← hvl]; omega) (vF l) (fun j hj => by
      rw [getN_take _ _ _ (by rw [Blk.len_svs, ← hvl]; omega), Nat.zero_add]
      exact vCs_at l j hj)) ?_
    rw [del_head]
    simp only [resL_tmp, resL_nil, tupOf, go_sem, hD]
    all_goals first | exact ⟨rfl, rfl⟩ | rfl
theorem copied_p (r : R3) (hl : r.2.length ≤ 1000) : PCall Tryz.prog 143 [.agg (rC r)] (.agg (rC r)) := by
  have cv := clone_v r.2 hl
  obtain ⟨r1, r2⟩ := r
  show PCall Tryz.prog 143 [.agg [I64 r1, VL r2]] (.agg [I64 r1, VL r2])
  refine Call.enter' (N := 9) (rs := [.cell 2 78]) Tryz.func143 rfl rfl rfl (by decide) rfl ?_; simp only [argT]; have hD : (0 : Nat) = 0 := rfl
  repeat' first | (with_reducible refine And.intro (by omega) ?_) | (refine SW.seq_k fun K hK => ?_) | (refine SW.block ?_) | ((first | refine SW.region ?_ | refine SW.regionZ (id := 1) (Checked.mixed Tryz.checked) ((.one 0 [0, 1, 5, 6] (.one 1 [1, 5, 6] (.one 2 [2, 3, 4, 5, 6] (.one 3 [3, 4, 5, 6] (.one 4 [4, 5, 6] (.one 5 [5, 6] (.alt 6 .done .nil))))))) : OZ) (by kernel_rfl) ?_ | refine SW.regionD (Checked.mixed Tryz.checked) (by kernel_rfl) ?_ | refine SW.cond ?_ | refine SW.skip ?_ | refine SW.exit ?_ | refine SW.ret ?_ | refine Call.of_pure (cv) ?_ | refine ⟨_, cv, ?_⟩ | (refine allF_i fun b hb => ?_; replace hD := And.intro hb hD; clear hb; try simp only [fresh_cons, fresh_nil, and_true, ne_eq, neF] at hD) | simp only [appK, appOsK]); try simp only [go_sem, hD, true_implies]) | (refine And.intro (by omega) ?_) | (refine ifI (fun hc => ?_) (fun hc => ?_) <;> first | (exfalso; omega) | skip) | (apply hK; clear hK K) | (clear hK K; apply hK; clear hK K) | (clear hK K; clear hK K; apply hK; clear hK K) | (clear hK K; clear hK K; clear hK K; apply hK; clear hK K) | (clear hK K; clear hK K; clear hK K; clear hK K; apply hK; clear hK K) | (clear hK K; clear hK K; clear hK K; clear hK K; clear hK K; apply hK; clear hK K) | (refine And.intro ?_ ?_)
  all_goals
    apply ret_cell (i := 2) (n := 2); exact rfl; (simp only [go_sem, hD]; try rfl); (first | exact Nat.le_refl _ | decide); simp only [resL_tmp, resL_cellE, resC_ok, resL_nil, tupOf, getN, go_sem, hD]
end Go.Proofs.YtpidncgibgiidaaGreat
namespace Go.Ab.A15
open Go Go.Ab Go.Ab.A34
theorem takeR_succ {l : List R3} {i : Nat} (h : i < l.length) : l.take (i + 1) = l.take i ++ [l.getD i r0] := by
  rw [List.take_succ_eq_append_getElem h, show l.getD i r0 = l[i] by simp [List.getD_eq_getElem?_getD, h]]
theorem takeR_len {l : List R3} {i : Nat} (h : i ≤ l.length) : (l.take i).length = i := by
  rw [List.length_take]; omega
def WB (tb rb : Nat) (tn : ByteArray) (ta : List ByteArray) (L : List R3) (h : Heap) : Prop :=
  (L = [] ∧ h = [(tb, .svs [Str tn, SL ta, SN]), (rb, .svs [Str ⟨#[]⟩, SN, SN])]) ∨
  (0 < L.length ∧ ∃ g, ¬ g = tb ∧ ¬ tb = g ∧ ¬ g = rb ∧ ¬ rb = g ∧ h = [(g, .svs (fC rC L)), (tb, .svs [Str tn, SL ta, .os g 0 L.length 2]), (rb, .svs [Str ⟨#[]⟩, SN, SN])])
theorem wB_le [Gl] {t : List (Nat × SV)} {tb rb : Nat} {tn : ByteArray} {ta : List ByteArray} {L : List R3} {h : Heap} (hB : WB tb rb tn ta L h) : (St.mk t h).le ⟨t, [(tb, .svs [Str tn, SL ta, RL L]), (rb, .svs [Str ⟨#[]⟩, SN, SN])]⟩ := by
  rcases hB with ⟨rfl, rfl⟩ | ⟨h0, g, u1, u2, u3, u4, rfl⟩
  · have := St.le_nilC (t := t) (h := [(tb, .svs [Str tn, SL ta, SN]), (rb, .svs [Str ⟨#[]⟩, SN, SN])]) (c := tb) (j := 2) (sz := 2) (f := rF []) (by rw [find_cons, if_pos rfl]) (by show 2 < 3; omega) rfl
    rw [upd_cons, if_pos rfl] at this
    exact this
  · have := St.le_accC (t := t) (sz := 2) (n := L.length) (c := tb) (j := 2) (Acc.osH (b := g) (cs := fC rC L) (h0 := [(tb, .svs [Str tn, SL ta, .os g 0 L.length 2]), (rb, .svs [Str ⟨#[]⟩, SN, SN])]) (by simp [fresh_cons, fresh_nil, u1, u2, u3, u4]) (by rw [← fC_len (k := 2) (fun _ => rfl)])) (by rw [find_cons, if_pos rfl]) (by show 2 < 3; omega) rfl (rF L) (fun j hj => fC_at (enc := rC) (k := 2) (fun _ => rfl) r0 L j hj)
    rw [upd_cons, if_pos rfl] at this
    exact this
end Go.Ab.A15
def Go.Ab.zUB_1 : Go.Ab.OZ := (.one 0 [0, 1, 5, 6, 7] (.one 1 [1, 5, 6, 7] (.one 2 [2, 3, 4, 5, 6, 7] (.one 3 [3, 4, 5, 6, 7] (.alt 4 (.alt 5 (.one 6 [6, 7] (.alt 7 .done .nil)) .nil) .nil)))))
namespace Go.Proofs.YtpidncgibgiidaaGreat
open Go Go.Ab Go.Ab.A34 Go.Ab.A15
variable [Gl] [Tabs]
theorem with_p (t : Tb) (R : List R3) (ha : t.attrs.length ≤ 1000) (hr : R.length ≤ 1000) (hv : ∀ r ∈ R, r.2.length ≤ 1000) : PCall Tryz.prog 113 [TB t, RL R] (TB ⟨t.name, t.attrs, R⟩) := by
  have cl := clone_s t.attrs ha
  have cp := fun (r : R3) (h : r ∈ R) => copied_p r (hv r h)
  obtain ⟨tn, ta, tr⟩ := t
  simp only at ha cl ⊢
  refine Call.enter' (N := 29) (rs := [.cell 4 72]) Tryz.func113 rfl rfl rfl (by decide) rfl ?_; simp only [argT]; have hD : (0 : Nat) = 0 := rfl
  repeat' first | (refine SW.seq_k fun K hK => ?_) | ((first | refine SW.region ?_ | (refine allF_i fun b hb => ?_; replace hD := And.intro hb hD; clear hb; try simp only [fresh_cons, fresh_nil, and_true, ne_eq, neF] at hD)); try simp only [go_sem, hD, true_implies]) | (apply hK; clear hK K)
  obtain ⟨rb, rfl⟩ : ∃ x, x = b := ⟨_, rfl⟩
  obtain ⟨b2, rfl⟩ : ∃ x, x = b := ⟨_, rfl⟩
  refine Ab.SW.le (S' := ⟨[(1, RL R), (2, .fp [Str tn, SL ta, RL tr]), (4, .op rb 0)], [(rb, .svs [Str ⟨#[]⟩, SN, SN])]⟩) ?_ ?_
  · refine St.le.trans (St.le_freezeP (i := 2) (b := b2) (off := 0) (n := 3) (k := .svs [Str tn, SL ta, RL tr]) rfl (by simp [find_cons, hD]) (by exact Nat.le_refl 3)) ?_
    simp only [getN, Blk.get, go_sem, hD]
    exact St.le_sub (by repeat' (first | exact rfl | exact trivial | constructor))
  clear hD
  have hD : (0 : Nat) = 0 := rfl
  have key : ∃ C Q', (∀ S, Ab.SW Tryz.prog 29 C Q' S → K S) ∧ ∀ tb, ¬ tb = rb → ¬ rb = tb → Ab.SW Tryz.prog 29 C Q' ⟨[(1, RL R), (4, .op rb 0), (5, .op tb 0)], [(tb, .svs [Str tn, SL ta, SN]), (rb, .svs [Str ⟨#[]⟩, SN, SN])]⟩ := by
    refine ⟨_, _, hK, fun tb t1 t2 => ?_⟩
    clear hK K hD cl
    have hT := And.intro (eq_false t1) (eq_false t2)
    have hD := hT
    repeat' first | (refine SW.seq_k fun K hK => ?_) | (refine SW.region ?_; try simp only [go_sem, hD, true_implies]) | (apply hK; clear hK K)
    refine SW.block ?_
    clear hD
    obtain ⟨I, hI⟩ : ∃ I : Nat → St → Prop, ∀ k S, I k S ↔ (∃ (i : Nat) (h : Heap), k = R.length - i ∧ i ≤ R.length ∧ WB tb rb tn ta (R.take i) h ∧ S = ⟨[(4, .op rb 0), (5, .op tb 0), (14, RL R), (15, I64 R.length), (16, I64 i)], h⟩) := ⟨fun k S => _, fun _ _ => Iff.rfl⟩
    refine SW.loop' I (R.length) ((hI _ _).2 ⟨0, _, rfl, Nat.zero_le _, .inl ⟨rfl, rfl⟩, rfl⟩) (by repeat' (first | exact rfl | exact trivial | constructor)) ?_
    intro k S hIn
    obtain ⟨i, h, rfl, hi, hB, rfl⟩ := (hI _ _).1 hIn
    clear hIn
    have ie : ((i : Nat) : Int).toNat = i := Int.toNat_natCast _
    have i0 : (0 : Int) ≤ ((i : Nat) : Int) := by omega
    by_cases hlt : i < R.length
    · have hli : ((i : Nat) : Int) < (((R.length) : Nat) : Int) := by omega
      have w1 : IntKind.i64.wrap ((i : Int) + 1) = ((i + 1 : Nat) : Int) := by rw [i64_wrap (by omega) (by omega)]; omega
      have fi : rF R i = rC (R.getD i r0) := rfl
      have cc := cp _ (getD_mem r0 hlt)
      have hsn := takeR_succ hlt
      have hsl := takeR_len (l := R) hi
      have hBB : ∀ h, WB tb rb tn ta (R.take i ++ [R.getD i r0]) h → WB tb rb tn ta (R.take (i + 1)) h := fun h x => by rw [hsn]; exact x
      clear hsn
      generalize R.getD i r0 = r at *
      generalize R.take i = L at *
      obtain ⟨r1, r2⟩ := r
      have fr : rC (r1, r2) = [I64 r1, VL r2] := rfl
      have ba : (L.length + 1) * 32 ≤ 140737488355328 := by omega
      have hfc : (fC rC L).length = L.length * 2 := by rw [← fC_len (k := 2) (fun _ => rfl)]
      rcases hB with ⟨hL0, rfl⟩ | ⟨hi0, g, u1, u2, u3, u4, rfl⟩
      · have hD := hT
        subst hL0
        repeat' first | (with_reducible refine And.intro (by omega) ?_) | (refine SW.seq_k fun K hK => ?_) | (refine SW.block ?_) | ((first | refine SW.region ?_ | refine SW.regionZ (id := 5) (Checked.mixed Tryz.checked) Go.Ab.zUB_1 (by kernel_rfl) ?_ | refine SW.cond ?_ | refine SW.skip ?_ | refine ⟨_, cc, ?_⟩ | (refine allF_i fun b hb => ?_; replace hD := And.intro hb hD; clear hb; try simp only [fresh_cons, fresh_nil, and_true, ne_eq, neF] at hD) | simp only [appK, appOsK]); try simp only [Go.Ab.zUB_1, go_sem, hD, hli, ie, i0, w1, fi, fr, ba, true_implies]) | (refine And.intro (by omega) ?_) | (apply hK; clear hK K)
        all_goals
          refine Rnd.le (St.le_pick [(b, .svs [I64 r1, VL r2]), (tb, .svs [Str tn, SL ta, .os b 0 1 2]), (rb, .svs [Str ⟨#[]⟩, SN, SN])] ?_ ?_) ?_
          · repeat' (first | exact (fun x hx => (List.not_mem_nil hx).elim) | refine List.forall_mem_cons.2 ⟨?_, ?_⟩ | exact List.mem_cons_self | apply List.mem_cons_of_mem)
          · simp [fresh_cons, fresh_nil, hD]
          refine Rnd.sub (R.length - (i + 1)) (by omega) ((hI _ _).2 ⟨i + 1, _, rfl, by omega, hBB _ (.inr ⟨Nat.succ_pos _, b, by simp [hD], by simp [hD], by simp [hD], by simp [hD], rfl⟩), rfl⟩) (by repeat' (first | exact rfl | exact trivial | constructor))
      · have hD := And.intro (And.intro (eq_false u1) (eq_false u2)) (And.intro (And.intro (eq_false u3) (eq_false u4)) hT)
        repeat' first | (with_reducible refine And.intro (by omega) ?_) | (refine SW.seq_k fun K hK => ?_) | (refine SW.block ?_) | ((first | refine SW.region ?_ | refine SW.regionZ (id := 5) (Checked.mixed Tryz.checked) Go.Ab.zUB_1 (by kernel_rfl) ?_ | refine SW.cond ?_ | refine SW.skip ?_ | refine ⟨_, cc, ?_⟩ | (refine allF_i fun b hb => ?_; replace hD := And.intro hb hD; clear hb; try simp only [fresh_cons, fresh_nil, and_true, ne_eq, neF] at hD) | simp only [appK, appOsK]); try simp only [Go.Ab.zUB_1, go_sem, hD, hli, ie, i0, w1, fi, fr, ba, hfc, true_implies]) | (apply hK; clear hK K)
        all_goals
          refine Rnd.le (St.le_pick [(b, .svs (fC rC L ++ [I64 r1, VL r2])), (tb, .svs [Str tn, SL ta, .os b 0 (L.length + 1) 2]), (rb, .svs [Str ⟨#[]⟩, SN, SN])] ?_ ?_) ?_
          · repeat' (first | exact (fun x hx => (List.not_mem_nil hx).elim) | refine List.forall_mem_cons.2 ⟨?_, ?_⟩ | exact List.mem_cons_self | apply List.mem_cons_of_mem)
          · simp [fresh_cons, fresh_nil, hD]
          refine Rnd.sub (R.length - (i + 1)) (by omega) ((hI _ _).2 ⟨i + 1, _, rfl, by omega, hBB _ (.inr ⟨by simp, b, by simp [hD], by simp [hD], by simp [hD], by simp [hD], by rw [List.length_append, ← fC_snoc]; rfl⟩), rfl⟩) (by repeat' (first | exact rfl | exact trivial | constructor))
    · have hli : ¬ ((i : Nat) : Int) < (((R.length) : Nat) : Int) := by omega
      obtain rfl : i = R.length := by omega
      rw [List.take_length] at hB
      have hD := hT
      refine Ab.SW.le (wB_le hB) ?_
      repeat' first | (refine SW.seq_k fun K hK => ?_) | ((first | refine SW.region ?_ | refine SW.cond ?_ | refine SW.exit ?_ | refine SW.ret ?_); try simp only [go_sem, hD, hli, true_implies]) | (apply hK; clear hK K) | (clear hK K; apply hK; clear hK K)
      apply ret_cell (i := 4) (n := 3); exact rfl; (simp only [go_sem, hD]; try rfl); (first | exact Nat.le_refl _ | decide); simp only [resL_tmp, resL_cellE, resC_ok, resL_nil, tupOf, getN, go_sem, hD]
  obtain ⟨C, Q', hK2, key⟩ := key
  clear hK
  repeat' ((first | refine SW.regionZ (id := 1) (Checked.mixed Tryz.checked) ((.one 0 [0, 1, 5, 7] (.one 1 [1, 5, 7] (.one 2 [2, 3, 4, 5, 7] (.one 3 [3, 4, 5, 7] (.one 4 [4, 5, 7] (.one 5 [5, 7] (.alt 6 (.alt 7 .done .nil) .nil))))))) : OZ) (by kernel_rfl) ?_ | refine ⟨_, cl, ?_⟩ | (refine allF_i fun b hb => ?_; replace hD := And.intro hb hD; clear hb; try simp only [fresh_cons, fresh_nil, and_true, ne_eq, neF] at hD)); try simp only [go_sem, hD, true_implies])
  all_goals
    obtain ⟨x1, rfl⟩ : ∃ x, x = b := ⟨_, rfl⟩
    refine hK2 _ (Ab.SW.le (St.le_sub ?_) (key x1 (by simp [hD]) (by simp [hD])))
    repeat' (first | exact rfl | exact trivial | constructor)
end Go.Proofs.YtpidncgibgiidaaGreat
namespace Go.Ab
open Go
abbrev FR (x : Int × Int × Int) : SV := .tup [.agg [I64 x.1, I64 x.2.1], I64 x.2.2]
def ofR (neg : Bool) (n d : Nat) : Int × Int × Int := if n ≤ 9223372036854775807 ∧ d ≤ 9223372036854775807 then (if neg = true then -(n : Int) else n, d, 0) else (0, 0, 7)
def bldR (neg : Bool) (n d : Nat) : Int × Int × Int := ofR neg (n / Nat.gcd n d) (d / Nat.gcd n d)
def mkR (num den : Int) : Int × Int × Int := if den = 0 then (0, 0, 8) else bldR (!(decide (num < 0) == decide (den < 0))) num.natAbs den.natAbs
end Go.Ab
namespace Go.Proofs.YtpidncgibgiidaaGreat
open Go Go.Ab
variable [Gl]
theorem abs_p (n : Int) (h0 : -9223372036854775808 ≤ n) (h1 : n ≤ 9223372036854775807) : PCall Tryz.prog 109 [I64 n] (U64 n.natAbs) := by
  refine Call.enter' (N := 10) (rs := [.tmp 2]) Tryz.func109 rfl rfl rfl (by decide) rfl ?_; simp only [argT]; have hD : (0 : Nat) = 0 := rfl
  repeat' first | (refine SW.seq_k fun K hK => ?_) | ((first | refine SW.region ?_ | refine SW.cond ?_ | refine SW.skip ?_ | refine SW.ret ?_); try simp only [go_sem, hD]) | (refine ifI (fun hc => ?_) (fun hc => ?_) <;> first | (exfalso; omega) | skip) | (apply hK; clear hK K)
  · refine ret_pure ?_; simp only [resL_tmp, resL_nil, tupOf, go_sem, hD]
    rw [absw_neg h0 (by omega)]
  · refine ret_pure ?_; simp only [resL_tmp, resL_nil, tupOf, go_sem, hD]
    rw [absw_pos (by omega) h1]
theorem gcd_p (a b : Nat) (ha : a < 18446744073709551616) (hb : b < 18446744073709551616) : PCall Tryz.prog 110 [U64 a, U64 b] (U64 (Nat.gcd a b)) := by
  refine Call.enter' (N := 12) (rs := [.tmp 4]) Tryz.func110 rfl rfl rfl (by decide) rfl ?_; simp only [argT]; have hD : (0 : Nat) = 0 := rfl
  repeat' first | (refine SW.seq_k fun K hK => ?_) | (refine SW.block ?_) | (refine SW.region ?_; try simp only [go_sem, hD]) | (apply hK; clear hK K)
  obtain ⟨I, hI⟩ : ∃ I : Nat → St → Prop, ∀ n S, I n S ↔ (∃ (x : Nat), x < 18446744073709551616 ∧ n < 18446744073709551616 ∧ Nat.gcd x n = Nat.gcd a b ∧ S = ⟨[(0, U64 x), (1, U64 n)], []⟩) := ⟨fun n S => _, fun _ _ => Iff.rfl⟩
  refine SW.loop' I b ((hI _ _).2 ⟨a, ha, hb, rfl, rfl⟩) (by repeat' (first | exact rfl | exact trivial | constructor)) ?_
  intro n S hIn
  obtain ⟨x, hx, hn, hg, rfl⟩ := (hI _ _).1 hIn
  clear hIn
  repeat' first | (refine SW.seq_k fun K hK => ?_) | ((first | refine SW.region ?_ | refine SW.cond ?_); try simp only [go_sem, hD]) | (apply hK; clear hK K)
  refine ifI (fun hc => ?_) (fun hc => ?_)
  · have e : Int.tmod (x : Int) (n : Int) = ((x % n : Nat) : Int) := (Int.ofNat_tmod x n).symm
    repeat' first | (with_reducible refine And.intro (by omega) ?_) | (refine SW.block ?_) | ((first | refine SW.regionD (Checked.mixed Tryz.checked) (by kernel_rfl) ?_ | refine SW.skip ?_); try simp only [go_sem, hD, e]) | (apply hK; clear hK K)
    refine Rnd.sub (x % n) (Nat.mod_lt _ (by omega)) ((hI _ _).2 ⟨n, hn, Nat.lt_of_lt_of_le (Nat.mod_lt _ (by omega)) (by omega), ?_, rfl⟩) (by repeat' (first | exact rfl | exact trivial | constructor))
    rw [← hg, Nat.gcd_comm, ← Nat.gcd_rec, Nat.gcd_comm]
  · repeat' first | (refine SW.seq_k fun K hK => ?_) | ((first | refine SW.region ?_ | refine SW.exit ?_ | refine SW.ret ?_); try simp only [go_sem, hD]) | (apply hK; clear hK K) | (clear hK K; apply hK; clear hK K)
    refine ret_pure ?_; simp only [resL_tmp, resL_nil, tupOf, go_sem, hD]
    obtain rfl : n = 0 := by omega
    rw [← hg, Nat.gcd_zero_right]
theorem rof_p (neg : Bool) (n d : Nat) (hn : n < 18446744073709551616) (hd : d < 18446744073709551616) : PCall Tryz.prog 111 [SB neg, U64 n, U64 d]
    (if n ≤ 9223372036854775807 ∧ d ≤ 9223372036854775807 then .tup [.agg [I64 (if neg then -(n : Int) else n), I64 d], I64 0] else .tup [.agg [I64 0, I64 0], I64 7]) := by
  refine Call.enter' (N := 27) (rs := [.cell 6 61, .tmp 7]) Tryz.func111 rfl rfl rfl (by decide) rfl ?_; simp only [argT]; have hD : (0 : Nat) = 0 := rfl
  repeat' first | (refine SW.seq_k fun K hK => ?_) | ((first | refine SW.region ?_ | refine SW.cond ?_ | refine SW.skip ?_ | refine SW.ret ?_ | (refine allF_i fun b hb => ?_; replace hD := And.intro hb hD; clear hb; try simp only [fresh_cons, fresh_nil, and_true, ne_eq, neF] at hD)); try simp only [go_sem, hD]) | (refine ifI (fun hc => ?_) (fun hc => ?_) <;> first | (exfalso; omega) | skip) | (apply hK; clear hK K)
  · apply ret_cell (i := 6) (n := 2); exact rfl; (simp only [go_sem, hD]; try rfl); (first | exact Nat.le_refl _ | decide); simp only [resL_tmp, resL_cellE, resC_ok, resL_nil, tupOf, getN, go_sem, hD]
    rw [if_neg (by omega)]
  · apply ret_cell (i := 6) (n := 2); exact rfl; (simp only [go_sem, hD]; try rfl); (first | exact Nat.le_refl _ | decide); simp only [resL_tmp, resL_cellE, resC_ok, resL_nil, tupOf, getN, go_sem, hD]
    rw [if_neg (by omega)]
  · apply ret_cell (i := 6) (n := 2); exact rfl; (simp only [go_sem, hD]; try rfl); (first | exact Nat.le_refl _ | decide); simp only [resL_tmp, resL_cellE, resC_ok, resL_nil, tupOf, getN, go_sem, hD]
    rw [if_pos (by omega), if_pos (by assumption)]
    have e : IntKind.i64.wrap (n : Int) = n := i64_wrap (by omega) (by omega)
    rw [e, i64_wrap (n := (d : Int)) (by omega) (by omega), i64_wrap (by omega) (by omega), Int.zero_sub]
  · apply ret_cell (i := 6) (n := 2); exact rfl; (simp only [go_sem, hD]; try rfl); (first | exact Nat.le_refl _ | decide); simp only [resL_tmp, resL_cellE, resC_ok, resL_nil, tupOf, getN, go_sem, hD]
    rw [if_pos (by omega), if_neg (by assumption), i64_wrap (by omega) (by omega), i64_wrap (by omega) (by omega)]
theorem rof_f (neg : Bool) (n d : Nat) (hn : n < 18446744073709551616) (hd : d < 18446744073709551616) : PCall Tryz.prog 111 [SB neg, U64 n, U64 d] (FR (ofR neg n d)) := by
  have h := rof_p neg n d hn hd
  unfold ofR
  split at h
  · rw [if_pos (by assumption)]; exact h
  · rw [if_neg (by assumption)]; exact h
theorem quo_u64 (x g : Nat) (hx : x < 18446744073709551616) : IntKind.u64.wrap (Int.tdiv (x : Int) (g : Int)) = ((x / g : Nat) : Int) := by
  have := Nat.div_le_self x g
  rw [← Int.ofNat_tdiv]
  generalize x / g = y at this ⊢
  exact u64n (by omega) (by omega)
theorem make_p (num den : Int) (h0 : -9223372036854775808 ≤ num) (h1 : num ≤ 9223372036854775807) (h2 : -9223372036854775808 ≤ den) (h3 : den ≤ 9223372036854775807) : PCall Tryz.prog 70 [I64 num, I64 den] (FR (mkR num den)) := by
  have hg := gcd_p num.natAbs den.natAbs (by omega) (by omega)
  have a1 := abs_p num h0 h1
  have a2 := abs_p den h2 h3
  have ho := rof_f (!(decide (num < 0) == decide (den < 0))) (num.natAbs / Nat.gcd num.natAbs den.natAbs) (den.natAbs / Nat.gcd num.natAbs den.natAbs) (Nat.lt_of_le_of_lt (Nat.div_le_self _ _) (by omega)) (Nat.lt_of_le_of_lt (Nat.div_le_self _ _) (by omega))
  refine Call.enter' (N := 33) (rs := [.cell 4 61, .tmp 5]) Tryz.func70 rfl rfl rfl (by decide) rfl ?_; simp only [argT]; have hD : (0 : Nat) = 0 := rfl
  by_cases hz : den = 0
  · repeat' first | (refine SW.seq_k fun K hK => ?_) | ((first | refine SW.region ?_ | refine SW.cond ?_ | refine SW.ret ?_ | (refine allF_i fun b hb => ?_; replace hD := And.intro hb hD; clear hb; try simp only [fresh_cons, fresh_nil, and_true, ne_eq, neF] at hD)); try simp only [go_sem, hD]) | (refine ifI (fun hc => ?_) (fun hc => ?_) <;> first | (exfalso; omega) | skip) | (apply hK; clear hK K)
    apply ret_cell (i := 4) (n := 2); exact rfl; (simp only [go_sem, hD]; try rfl); (first | exact Nat.le_refl _ | decide); simp only [resL_tmp, resL_cellE, resC_ok, resL_nil, tupOf, getN, go_sem, hD]
    rw [mkR, if_pos hz]
  · have hgp : 0 < Nat.gcd num.natAbs den.natAbs := Nat.gcd_pos_of_pos_right _ (by omega)
    have hm : mkR num den = ofR (!(decide (num < 0) == decide (den < 0))) (num.natAbs / Nat.gcd num.natAbs den.natAbs) (den.natAbs / Nat.gcd num.natAbs den.natAbs) := by rw [mkR, if_neg hz]; rfl
    rw [hm]
    clear hm
    generalize hgg : Nat.gcd num.natAbs den.natAbs = g at hg ho hgp
    have e1 := quo_u64 num.natAbs g (by omega)
    have e2 := quo_u64 den.natAbs g (by omega)
    have hgn : ¬ ((g : Nat) : Int) = 0 := by omega
    repeat' first | (with_reducible refine And.intro (by omega) ?_) | (refine SW.seq_k fun K hK => ?_) | ((first | refine SW.region ?_ | refine SW.regionD (Checked.mixed Tryz.checked) (by kernel_rfl) ?_ | refine SW.cond ?_ | refine SW.skip ?_ | refine SW.ret ?_ | refine Call.of_pure (a1) ?_ | refine Call.of_pure (a2) ?_ | refine Call.of_pure (hg) ?_ | refine ⟨_, ho, ?_⟩ | (refine allF_i fun b hb => ?_; replace hD := And.intro hb hD; clear hb; try simp only [fresh_cons, fresh_nil, and_true, ne_eq, neF] at hD)); try simp only [go_sem, hD, e1, e2]) | (refine ifI (fun hc => ?_) (fun hc => ?_) <;> first | (exfalso; omega) | skip) | (apply hK; clear hK K)
    apply ret_cell (i := 4) (n := 2); exact rfl; (simp only [go_sem, hD]; try rfl); (first | exact Nat.le_refl _ | decide); simp only [resL_tmp, resL_cellE, resC_ok, resL_nil, tupOf, getN, go_sem, hD]
end Go.Proofs.YtpidncgibgiidaaGreat
namespace Go.Ab
open Go
end Go.Ab
namespace Go.Proofs.YtpidncgibgiidaaGreat
open Go Go.Ab
variable [Gl]
end Go.Proofs.YtpidncgibgiidaaGreat
namespace Go.Ab
open Go
end Go.Ab
namespace Go.Proofs.YtpidncgibgiidaaGreat
open Go Go.Ab
variable [Gl]
end Go.Proofs.YtpidncgibgiidaaGreat
namespace Go.Ab
open Go
end Go.Ab
namespace Go.Proofs.YtpidncgibgiidaaGreat
open Go Go.Ab
variable [Gl]
def Ds5 (a b c d e : Nat) : Prop := (((a = b) = False ∧ (b = a) = False) ∧ ((a = c) = False ∧ (c = a) = False) ∧ ((a = d) = False ∧ (d = a) = False) ∧ ((a = e) = False ∧ (e = a) = False)) ∧ (((b = c) = False ∧ (c = b) = False) ∧ ((b = d) = False ∧ (d = b) = False) ∧ ((b = e) = False ∧ (e = b) = False)) ∧ (((c = d) = False ∧ (d = c) = False) ∧ ((c = e) = False ∧ (e = c) = False)) ∧ ((d = e) = False ∧ (e = d) = False)
theorem Ds5.nodup {a b c d e : Nat} (h : Ds5 a b c d e) : [a, b, c, d, e].Nodup := by
  unfold Ds5 at h
  simp [h]
end Go.Proofs.YtpidncgibgiidaaGreat
namespace Go.Ab.A15
open Go Go.Ab Go.Ab.A34
def kpB (ids : List Int) (r : R3) : Bool := decide (0 ≤ atI r.1 0 ids)
def keepS (R : List R3) (ids : List Int) : List R3 := R.filter (kpB ids)
def kpI (ids : List Int) (R : List R3) (i : Nat) : List R3 := (R.take i).filter (kpB ids)
theorem kpI_step {ids : List Int} {R : List R3} {i : Nat} (h : i < R.length) : kpI ids R (i + 1) = kpI ids R i ++ if kpB ids (R.getD i r0) = true then [R.getD i r0] else [] := by
  have g : R.getD i r0 = R[i] := by simp [List.getD_eq_getElem?_getD, h]
  unfold kpI
  rw [List.take_succ_eq_append_getElem h, List.filter_append, g]
  congr 1
  cases hb : kpB ids R[i] <;> simp [hb]
theorem kpI_len (ids : List Int) (R : List R3) (i : Nat) : (kpI ids R i).length ≤ i := by
  unfold kpI
  refine Nat.le_trans (List.length_filter_le _ _) ?_
  rw [List.length_take]
  omega
end Go.Ab.A15
namespace Go.Proofs.YtpidncgibgiidaaGreat
open Go Go.Ab Go.Ab.A34 Go.Ab.A15
variable [Gl] [Tabs]
theorem index_64 (x : Int) (l : List Int) (n : Nat) (hl : n ≤ 9223372036854775807) (hn : l.length = n) (f : Nat → List SV) (hf : ∀ i, i < n → f i = [I64 (l.getD i 0)]) : PCall Tryz.prog 141 [.fl n 1 f, I64 x] (I64 (atI x 0 l)) := by
  subst hn
  obtain ⟨R, hR⟩ : ∃ R, R = atI x 0 l := ⟨_, rfl⟩
  rw [← hR]
  refine Call.enter' (N := 19) (rs := [.tmp 4]) Tryz.func141 rfl rfl rfl (by decide) rfl ?_; simp only [argT]; have hD : (0 : Nat) = 0 := rfl
  repeat' first | (refine SW.seq_k fun K hK => ?_) | (refine SW.block ?_) | (refine SW.region ?_; try simp only [go_sem, hD]) | (apply hK; clear hK K)
  obtain ⟨I, hI⟩ : ∃ I : Nat → St → Prop, ∀ k S, I k S ↔ (∃ (i : Nat) , k = l.length - i ∧ i ≤ l.length ∧ R = atI x i (l.drop i) ∧ S = ⟨[(0, .fl l.length 1 f), (1, I64 x), (7, I64 l.length), (8, I64 i)], []⟩) := ⟨fun k S => _, fun _ _ => Iff.rfl⟩
  refine SW.loop' I (l.length) ((hI _ _).2 ⟨0, rfl, Nat.zero_le _, by rw [List.drop_zero]; exact hR, rfl⟩) (by repeat' (first | exact rfl | exact trivial | constructor)) ?_
  intro k S hIn
  obtain ⟨i, rfl, hi, hC, rfl⟩ := (hI _ _).1 hIn
  clear hIn
  have ie : ((i : Nat) : Int).toNat = i := Int.toNat_natCast _
  have i0 : (0 : Int) ≤ ((i : Nat) : Int) := by omega
  clear hR
  by_cases hlt : i < l.length
  · have hli : ((i : Nat) : Int) < (((l.length) : Nat) : Int) := by omega
    have w1 : IntKind.i64.wrap ((i : Int) + 1) = ((i + 1 : Nat) : Int) := by rw [i64_wrap (by omega) (by omega)]; omega
    rw [atI_step hlt] at hC
    have fi := hf i hlt
    generalize l.getD i 0 = t at *
    by_cases he : t = x
    · rw [if_pos he] at hC
      subst hC
      repeat' first | (refine SW.seq_k fun K hK => ?_) | (refine SW.block ?_) | ((first | refine SW.region ?_ | refine SW.cond ?_ | refine SW.skip ?_ | refine SW.ret ?_); try simp only [go_sem, hD, hli, ie, i0, w1, fi, he]) | (apply hK; clear hK K)
      refine ret_pure ?_; simp only [resL_tmp, resL_nil, tupOf, go_sem, hD]
    · rw [if_neg he] at hC
      have he2 : ¬ x = t := fun e => he e.symm
      repeat' first | (refine SW.seq_k fun K hK => ?_) | (refine SW.block ?_) | ((first | refine SW.region ?_ | refine SW.cond ?_ | refine SW.skip ?_); try simp only [go_sem, hD, hli, ie, i0, w1, fi, he, he2]) | (apply hK; clear hK K)
      refine Rnd.sub (l.length - (i + 1)) (by omega) ((hI _ _).2 ⟨i + 1, rfl, by omega, hC, rfl⟩) (by repeat' (first | exact rfl | exact trivial | constructor))
  · have hli : ¬ ((i : Nat) : Int) < (((l.length) : Nat) : Int) := by omega
    rw [List.drop_of_length_le (by omega)] at hC
    have hC2 : R = -1 := hC
    subst hC2
    repeat' first | (refine SW.seq_k fun K hK => ?_) | ((first | refine SW.region ?_ | refine SW.cond ?_ | refine SW.exit ?_ | refine SW.ret ?_); try simp only [go_sem, hD, hli]) | (apply hK; clear hK K) | (clear hK K; apply hK; clear hK K)
    refine ret_pure ?_; simp only [resL_tmp, resL_nil, tupOf, go_sem, hD]
theorem contains_64 (x : Int) (l : List Int) (n : Nat) (hl : n ≤ 9223372036854775807) (hn : l.length = n) (f : Nat → List SV) (hf : ∀ i, i < n → f i = [I64 (l.getD i 0)]) : PCall Tryz.prog 112 [.fl n 1 f, I64 x] (SB (decide (0 ≤ atI x 0 l))) := by
  have ix := index_64 x l n hl hn f hf
  generalize atI x 0 l = R at *
  refine Call.enter' (N := 9) (rs := [.tmp 4]) Tryz.func112 rfl rfl rfl (by decide) rfl ?_; simp only [argT]; have hD : (0 : Nat) = 0 := rfl
  repeat' first | (refine SW.seq_k fun K hK => ?_) | ((first | refine SW.region ?_ | refine SW.ret ?_ | refine Call.of_pure (ix) ?_); try simp only [go_sem, hD]) | (apply hK; clear hK K)
  refine ret_pure ?_; simp only [resL_tmp, resL_nil, tupOf, go_sem, hD]
theorem keep_p (t : Tb) (ids : List Int) (hi : ids.length ≤ 1000000) (ha : t.attrs.length ≤ 1000) (hr : t.rows.length ≤ 1000) (hv : ∀ r ∈ t.rows, r.2.length ≤ 1000) : PCall Tryz.prog 71 [TB t, IL ids] (TB ⟨t.name, t.attrs, keepS t.rows ids⟩) := by
  have cc := fun (x : Int) => contains_64 x ids ids.length (by omega) rfl (iF ids) (fun i hi => rfl)
  have hkl : (keepS t.rows ids).length ≤ 1000 := Nat.le_trans (List.length_filter_le _ _) hr
  have cw := with_p t (keepS t.rows ids) ha hkl (fun r h => hv r (List.mem_filter.1 h).1)
  obtain ⟨tn, ta, tr⟩ := t
  simp only at ha hr hv cw hkl ⊢
  refine Call.enter' (N := 27) (rs := [.cell 4 72]) Tryz.func71 rfl rfl rfl (by decide) rfl ?_; simp only [argT]; have hD : (0 : Nat) = 0 := rfl
  repeat' first | (refine SW.seq_k fun K hK => ?_) | ((first | refine SW.region ?_ | (refine allF_i fun b hb => ?_; replace hD := And.intro hb hD; clear hb; try simp only [fresh_cons, fresh_nil, and_true, ne_eq, neF] at hD)); try simp only [go_sem, hD, true_implies]) | (apply hK; clear hK K)
  obtain ⟨rb, rfl⟩ : ∃ x, x = b := ⟨_, rfl⟩
  obtain ⟨b2, rfl⟩ : ∃ x, x = b := ⟨_, rfl⟩
  refine Ab.SW.le (S' := ⟨[(1, IL ids), (2, .fp [Str tn, SL ta, RL tr]), (4, .op rb 0), (5, SN), (9, RL tr), (10, I64 tr.length), (11, I64 (0 : Nat))], [(rb, .svs [Str ⟨#[]⟩, SN, SN])]⟩) ?_ ?_
  · refine St.le.trans (St.le_freezeP (i := 2) (b := b2) (off := 0) (n := 3) (k := .svs [Str tn, SL ta, RL tr]) rfl (by simp [find_cons, hD]) (by exact Nat.le_refl 3)) ?_
    simp only [getN, Blk.get, go_sem, hD]
    exact St.le_sub (by repeat' (first | exact rfl | exact trivial | constructor))
  clear hD
  have hD : (0 : Nat) = 0 := rfl
  refine SW.block ?_
  obtain ⟨I, hI⟩ : ∃ I : Nat → St → Prop, ∀ k S, I k S ↔ (∃ (i : Nat) (x : SV) (hp : Heap), k = tr.length - i ∧ i ≤ tr.length ∧ Acc 2 x hp [(rb, .svs [Str ⟨#[]⟩, SN, SN])] (kpI ids tr i).length (fC rC (kpI ids tr i)) ∧ S = ⟨[(1, IL ids), (2, .fp [Str tn, SL ta, RL tr]), (4, .op rb 0), (5, x), (9, RL tr), (10, I64 tr.length), (11, I64 i)], hp⟩) := ⟨fun k S => _, fun _ _ => Iff.rfl⟩
  refine SW.loop' I (tr.length) ((hI _ _).2 ⟨0, SN, [(rb, .svs [Str ⟨#[]⟩, SN, SN])], rfl, Nat.zero_le _, .nil 2 _, rfl⟩) (by repeat' (first | exact rfl | exact trivial | constructor)) ?_
  intro k S hIn
  obtain ⟨i, x, hp, rfl, hi, hA, rfl⟩ := (hI _ _).1 hIn
  clear hIn
  have ie : ((i : Nat) : Int).toNat = i := Int.toNat_natCast _
  have i0 : (0 : Int) ≤ ((i : Nat) : Int) := by omega
  by_cases hlt : i < tr.length
  · have hli : ((i : Nat) : Int) < (((tr.length) : Nat) : Int) := by omega
    have w1 : IntKind.i64.wrap ((i : Int) + 1) = ((i + 1 : Nat) : Int) := by rw [i64_wrap (by omega) (by omega)]; omega
    have fi : rF tr i = rC (tr.getD i r0) := rfl
    have hst := kpI_step (ids := ids) hlt
    have hml := kpI_len ids tr i
    have hcn := cc (tr.getD i r0).1
    have hsn := fC_snoc (enc := rC) (kpI ids tr i) (tr.getD i r0)
    change PCall Tryz.prog 112 [IL ids, I64 (tr.getD i r0).1] (SB (kpB ids (tr.getD i r0))) at hcn
    clear cc
    generalize kpB ids (tr.getD i r0) = z at *
    generalize tr.getD i r0 = r at *
    generalize kpI ids tr i = M at *
    generalize hM2 : kpI ids tr (i + 1) = M2 at *
    obtain ⟨r1, r2⟩ := r
    have fr : rC (r1, r2) = [I64 r1, VL r2] := rfl
    rw [fr] at hsn
    have hm1 : (M.length + 1) * 32 ≤ 140737488355328 := by omega
    have hm2 : M.length + 1 ≤ 140737488355328 := by omega
    cases z with
    | false =>
      rw [if_neg (by simp), List.append_nil] at hst
      subst hst
      repeat' first | ((refine Ab.SW.le (St.le_freezeP (i := 7) (n := 2) rfl (by rw [find_cons, if_pos rfl]) (by exact Nat.le_refl 2)) ?_); (rw [del_head]); (simp only [getN, Blk.get])) | (refine SW.seq_k fun K hK => ?_) | (refine SW.block ?_) | ((first | refine SW.region ?_ | refine SW.cond ?_ | refine SW.skip ?_ | refine Call.of_pure (hcn) ?_ | (refine allF_i fun b hb => ?_; replace hD := And.intro hb hD; clear hb; try simp only [fresh_cons, fresh_nil, and_true, ne_eq, neF] at hD)); try simp only [go_sem, hD, hli, ie, i0, w1, fi, fr, true_implies]) | (apply hK; clear hK K)
      refine Rnd.sub (tr.length - (i + 1)) (by omega) ((hI _ _).2 ⟨i + 1, x, hp, rfl, by omega, by rw [hM2]; exact hA, rfl⟩) (by repeat' (first | exact rfl | exact trivial | constructor))
    | true =>
      rw [if_pos rfl] at hst
      repeat' first | ((refine Ab.SW.le (St.le_freezeP (i := 7) (n := 2) rfl (by rw [find_cons, if_pos rfl]) (by exact Nat.le_refl 2)) ?_); (rw [del_head]); (simp only [getN, Blk.get])) | ((with_reducible refine appK_acc hA ?_ ?_ ?_ ?_ ?_ ?_ hm1 hm2 ?_); (simp [hD]); (rfl); (rfl); (rfl); (exact Nat.succ_pos _); (rfl); (intro x3 b3 blk3 f1 f2 f3 f4 f5 f6 h3 hh3); (obtain ⟨h4, hA4, hle4⟩ := Acc.after f1 f4 f5 f6 hh3); (clear f1 f2 f3 f4 f5 f6 hh3); (try simp only [go_sem, hD])) | (refine SW.seq_k fun K hK => ?_) | (refine SW.block ?_) | ((first | refine SW.region ?_ | refine SW.cond ?_ | refine SW.skip ?_ | refine Call.of_pure (hcn) ?_ | (refine allF_i fun b hb => ?_; replace hD := And.intro hb hD; clear hb; try simp only [fresh_cons, fresh_nil, and_true, ne_eq, neF] at hD)); try simp only [go_sem, hD, hli, ie, i0, w1, fi, fr, true_implies]) | (apply hK; clear hK K)
      refine Rnd.le (hle4 _) ?_
      refine Rnd.sub (tr.length - (i + 1)) (by omega) ((hI _ _).2 ⟨i + 1, x3, h4, rfl, by omega, by rw [hM2, hst, List.length_append, ← hsn]; exact hA4, rfl⟩) (by repeat' (first | exact rfl | exact trivial | constructor))
  · have hli : ¬ ((i : Nat) : Int) < (((tr.length) : Nat) : Int) := by omega
    obtain rfl : i = tr.length := by omega
    have hmm : kpI ids tr tr.length = keepS tr ids := by unfold kpI keepS; rw [List.take_length]
    rw [hmm] at hA
    generalize keepS tr ids = M at *
    refine Ab.SW.le ((St.le_acc_fl (i := 5) rfl hA (rF M) (fun j hj => fC_at (enc := rC) (k := 2) (fun _ => rfl) r0 M j hj)).trans (St.le_sub (l := [(2, .fp [Str tn, SL ta, RL tr]), (4, .op rb 0), (5, RL M), (10, I64 tr.length), (11, I64 tr.length)]) (by repeat' (first | exact rfl | exact trivial | constructor)))) ?_
    clear hA
    repeat' first | (refine SW.seq_k fun K hK => ?_) | ((first | refine SW.region ?_ | refine SW.cond ?_ | refine SW.exit ?_ | refine SW.ret ?_ | refine Call.of_pure (cw) ?_); try simp only [go_sem, hD, hli, true_implies]) | (apply hK; clear hK K) | (clear hK K; apply hK; clear hK K)
    apply ret_cell (i := 4) (n := 3); exact rfl; (simp only [go_sem, hD]; try rfl); (first | exact Nat.le_refl _ | decide); simp only [resL_tmp, resL_cellE, resC_ok, resL_nil, tupOf, getN, go_sem, hD]
end Go.Proofs.YtpidncgibgiidaaGreat
namespace Go.Ab
open Go
def cmpV (k n : Int) (s : ByteArray) (k' n' : Int) (s' : ByteArray) : Int :=
  if sgn k k' = 0 then (if sgn n n' = 0 then Lib.compareBytes s.data.toList s'.data.toList else sgn n n') else sgn k k'
theorem cb_step {a b : List UInt8} {i : Nat} (ha : i < a.length) (hb : i < b.length) :
    Lib.compareBytes (a.drop i) (b.drop i) = if a.getD i 0 = b.getD i 0 then Lib.compareBytes (a.drop (i + 1)) (b.drop (i + 1)) else sgn (a.getD i 0).toNat (b.getD i 0).toNat := by
  have g1 : a.getD i 0 = a[i] := by simp [List.getD_eq_getElem?_getD, ha]
  have g2 : b.getD i 0 = b[i] := by simp [List.getD_eq_getElem?_getD, hb]
  rw [List.drop_eq_getElem_cons ha, List.drop_eq_getElem_cons hb, g1, g2, Lib.compareBytes]
  generalize a[i] = x
  generalize b[i] = y
  by_cases h : x = y
  · subst h
    rw [if_pos rfl, if_neg (by simp), if_neg (by simp)]
  · rw [if_neg h]
    unfold sgn
    have hne : x.toNat ≠ y.toNat := fun e => h (UInt8.toNat_inj.1 e)
    by_cases h1 : x < y
    · have : x.toNat < y.toNat := h1
      rw [if_pos h1, if_pos (by omega)]
    · have h1' : ¬ x.toNat < y.toNat := h1
      have h2 : y < x := by show y.toNat < x.toNat; omega
      rw [if_neg h1, if_pos h2, if_neg (by omega), if_pos (by omega)]
theorem cb_end {a b : List UInt8} {i : Nat} (ha : i ≤ a.length) (hb : i ≤ b.length) (h : ¬ (i < a.length ∧ i < b.length)) : Lib.compareBytes (a.drop i) (b.drop i) = sgn a.length b.length := by
  unfold sgn
  by_cases h1 : i < a.length
  · rw [List.drop_eq_getElem_cons h1, List.drop_of_length_le (l := b) (by omega), Lib.compareBytes, if_neg (by omega), if_pos (by omega)]
  · rw [List.drop_of_length_le (l := a) (by omega)]
    by_cases h2 : i < b.length
    · rw [List.drop_eq_getElem_cons h2, Lib.compareBytes, if_pos (by omega)]
    · rw [List.drop_of_length_le (l := b) (by omega), Lib.compareBytes, if_neg (by omega), if_neg (by omega)]
end Go.Ab
namespace Go.Proofs.YtpidncgibgiidaaGreat
open Go Go.Ab
variable [Gl] [Tabs]
theorem strings_r (a b : ByteArray) (ha : a.size ≤ 9223372036854775807) (hb : b.size ≤ 9223372036854775807) : PCall Tryz.prog 159 [Str a, Str b] (I64 (Lib.compareBytes a.data.toList b.data.toList)) := by
  have la : a.data.toList.length = a.size := Array.length_toList
  have lb : b.data.toList.length = b.size := Array.length_toList
  obtain ⟨R, hR⟩ : ∃ R, R = Lib.compareBytes a.data.toList b.data.toList := ⟨_, rfl⟩
  rw [← hR]
  refine Call.enter' (N := 39) (rs := [.tmp 4]) Tryz.func159 rfl rfl rfl (by decide) rfl ?_; simp only [argT]; have hD : (0 : Nat) = 0 := rfl
  repeat' first | (refine SW.seq_k fun K hK => ?_) | (refine SW.region ?_; try simp only [go_sem, hD]) | (apply hK; clear hK K)
  refine SW.block ?_
  obtain ⟨I, hI⟩ : ∃ I : Nat → St → Prop, ∀ k S, I k S ↔ (∃ i : Nat, k = a.size - i ∧ i ≤ a.size ∧ i ≤ b.size ∧ R = Lib.compareBytes (a.data.toList.drop i) (b.data.toList.drop i) ∧ S = ⟨[(0, Str a), (1, Str b), (5, I64 i)], []⟩) := ⟨fun k S => _, fun _ _ => Iff.rfl⟩
  refine SW.loop' I a.size ((hI _ _).2 ⟨0, rfl, Nat.zero_le _, Nat.zero_le _, hR, rfl⟩) (by repeat' (first | exact rfl | exact trivial | constructor)) ?_
  intro k S hIn
  obtain ⟨i, rfl, hi, hi2, hC, rfl⟩ := (hI _ _).1 hIn
  clear hIn hR
  have ie : ((i : Nat) : Int).toNat = i := Int.toNat_natCast _
  have i0 : (0 : Int) ≤ ((i : Nat) : Int) := by omega
  by_cases h1 : i < a.size
  · have h1i : ((i : Nat) : Int) < ((a.size : Nat) : Int) := by omega
    by_cases h2 : i < b.size
    · have h2i : ((i : Nat) : Int) < ((b.size : Nat) : Int) := by omega
      rw [cb_step (by omega) (by omega)] at hC
      have w1 : IntKind.i64.wrap ((i : Int) + 1) = ((i + 1 : Nat) : Int) := by rw [i64_wrap (by omega) (by omega)]; omega
      by_cases he : a.data.toList.getD i 0 = b.data.toList.getD i 0
      · rw [if_pos he] at hC
        have hei : decide (((a.data.toList.getD i 0).toNat : Int) = ((b.data.toList.getD i 0).toNat : Int)) = true := decide_eq_true (by rw [he])
        repeat' first | (refine SW.seq_k fun K hK => ?_) | (refine SW.block ?_) | ((first | refine SW.region ?_ | refine SW.regionZ (id := 4) (Checked.mixed Tryz.checked) ((.one 0 [0, 2, 6] (.one 1 [1, 2, 6] (.one 2 [2, 6] (.one 3 [3, 5, 6] (.one 4 [4, 5, 6] (.one 5 [5, 6] (.one 6 [6] .done))))))) : OZ) (by kernel_rfl) ?_ | refine SW.cond ?_ | refine SW.skip ?_); try simp only [go_sem, hD, h1i, h2i, ie, i0, w1, hei]) | (apply hK; clear hK K)
        refine Rnd.sub (a.size - (i + 1)) (by omega) ((hI _ _).2 ⟨i + 1, rfl, by omega, by omega, hC, rfl⟩) (by repeat' (first | exact rfl | exact trivial | constructor))
      · rw [if_neg he] at hC
        have hei : decide (((a.data.toList.getD i 0).toNat : Int) = ((b.data.toList.getD i 0).toNat : Int)) = false := decide_eq_false (fun h => he (UInt8.toNat_inj.1 (by omega)))
        have b1 := (a.data.toList.getD i 0).toNat_lt
        have b2 := (b.data.toList.getD i 0).toNat_lt
        have w2 : IntKind.i64.wrap ((a.data.toList.getD i 0).toNat : Int) = ((a.data.toList.getD i 0).toNat : Int) := i64_wrap (by omega) (by omega)
        have w3 : IntKind.i64.wrap ((b.data.toList.getD i 0).toNat : Int) = ((b.data.toList.getD i 0).toNat : Int) := i64_wrap (by omega) (by omega)
        have sg := sign_r ((a.data.toList.getD i 0).toNat : Int) ((b.data.toList.getD i 0).toNat : Int)
        rw [← hC] at sg
        repeat' first | (refine SW.seq_k fun K hK => ?_) | (refine SW.block ?_) | ((first | refine SW.region ?_ | refine SW.regionZ (id := 4) (Checked.mixed Tryz.checked) ((.one 0 [0, 2, 6] (.one 1 [1, 2, 6] (.one 2 [2, 6] (.one 3 [3, 5, 6] (.one 4 [4, 5, 6] (.one 5 [5, 6] (.one 6 [6] .done))))))) : OZ) (by kernel_rfl) ?_ | refine SW.regionZ (id := 5) (Checked.mixed Tryz.checked) ((.one 0 [0, 2, 3, 8, 9] (.one 1 [1, 2, 3, 8, 9] (.one 2 [2, 3, 8, 9] (.one 3 [3, 8, 9] (.one 4 [4, 6, 7, 8, 9] (.one 5 [5, 6, 7, 8, 9] (.one 6 [6, 7, 8, 9] (.one 7 [7, 8, 9] (.one 8 [8, 9] (.one 9 [9] .done)))))))))) : OZ) (by kernel_rfl) ?_ | refine SW.cond ?_ | refine SW.skip ?_ | refine SW.ret ?_ | refine ⟨_, sg, ?_⟩); try simp only [go_sem, hD, h1i, h2i, ie, i0, w2, w3, hei]) | (apply hK; clear hK K)
        refine ret_pure ?_; simp only [resL_tmp, resL_nil, tupOf, go_sem, hD]
    · have h2i : ¬ ((i : Nat) : Int) < ((b.size : Nat) : Int) := by omega
      rw [cb_end (by omega) (by omega) (by omega), la, lb] at hC
      have sg := sign_r ((a.size : Nat) : Int) ((b.size : Nat) : Int)
      rw [← hC] at sg
      have w2 : IntKind.i64.wrap ((a.size : Nat) : Int) = ((a.size : Nat) : Int) := i64_wrap (by omega) (by omega)
      have w3 : IntKind.i64.wrap ((b.size : Nat) : Int) = ((b.size : Nat) : Int) := i64_wrap (by omega) (by omega)
      repeat' first | (refine SW.seq_k fun K hK => ?_) | ((first | refine SW.region ?_ | refine SW.cond ?_ | refine SW.exit ?_ | refine SW.ret ?_ | refine Call.of_pure (sg) ?_); try simp only [go_sem, hD, h1i, h2i, w2, w3]) | (apply hK; clear hK K) | (clear hK K; apply hK; clear hK K)
      refine ret_pure ?_; simp only [resL_tmp, resL_nil, tupOf, go_sem, hD]
  · have h1i : ¬ ((i : Nat) : Int) < ((a.size : Nat) : Int) := by omega
    rw [cb_end (by omega) (by omega) (by omega), la, lb] at hC
    have sg := sign_r ((a.size : Nat) : Int) ((b.size : Nat) : Int)
    rw [← hC] at sg
    repeat' first | (refine SW.seq_k fun K hK => ?_) | ((first | refine SW.region ?_ | refine SW.cond ?_ | refine SW.exit ?_ | refine SW.ret ?_ | refine Call.of_pure (sg) ?_); try simp only [go_sem, hD, h1i]) | (apply hK; clear hK K) | (clear hK K; apply hK; clear hK K)
    refine ret_pure ?_; simp only [resL_tmp, resL_nil, tupOf, go_sem, hD]
theorem compare_r (k n : Int) (s : ByteArray) (k' n' : Int) (s' : ByteArray) (hs : s.size ≤ 9223372036854775807) (hs' : s'.size ≤ 9223372036854775807) : PCall Tryz.prog 121 [VS k n s, VS k' n' s'] (I64 (cmpV k n s k' n' s')) := by
  have s1 := sign_r k k'
  have s2 := sign_r n n'
  have s3 := strings_r s s' hs hs'
  obtain ⟨R, hR⟩ : ∃ R, R = cmpV k n s k' n' s' := ⟨_, rfl⟩
  rw [← hR]
  unfold cmpV at hR
  refine Call.enter' (N := 28) (rs := [.tmp 4]) Tryz.func121 rfl rfl rfl (by decide) rfl ?_; simp only [argT]; have hD : (0 : Nat) = 0 := rfl
  by_cases h1 : sgn k k' = 0
  · rw [if_pos h1] at hR
    rw [h1] at s1
    by_cases h2 : sgn n n' = 0
    · rw [if_pos h2] at hR
      rw [h2] at s2
      repeat' first | (refine SW.seq_k fun K hK => ?_) | ((first | refine SW.region ?_ | refine SW.cond ?_ | refine SW.skip ?_ | refine SW.ret ?_ | refine Call.of_pure (s1) ?_ | refine Call.of_pure (s2) ?_ | refine Call.of_pure (s3) ?_ | (refine allF_i fun b hb => ?_; replace hD := And.intro hb hD; clear hb; try simp only [fresh_cons, fresh_nil, and_true, ne_eq, neF] at hD)); try simp only [go_sem, hD]) | (apply hK; clear hK K)
      refine ret_pure ?_; simp only [resL_tmp, resL_nil, tupOf, go_sem, hD]
      rw [hR]
    · rw [if_neg h2] at hR
      repeat' first | (refine SW.seq_k fun K hK => ?_) | ((first | refine SW.region ?_ | refine SW.cond ?_ | refine SW.skip ?_ | refine SW.ret ?_ | refine Call.of_pure (s1) ?_ | refine Call.of_pure (s2) ?_ | (refine allF_i fun b hb => ?_; replace hD := And.intro hb hD; clear hb; try simp only [fresh_cons, fresh_nil, and_true, ne_eq, neF] at hD)); try simp only [go_sem, hD, h2]) | (apply hK; clear hK K)
      refine ret_pure ?_; simp only [resL_tmp, resL_nil, tupOf, go_sem, hD]
      rw [hR]
  · rw [if_neg h1] at hR
    repeat' first | (refine SW.seq_k fun K hK => ?_) | ((first | refine SW.region ?_ | refine SW.cond ?_ | refine SW.ret ?_ | refine Call.of_pure (s1) ?_ | (refine allF_i fun b hb => ?_; replace hD := And.intro hb hD; clear hb; try simp only [fresh_cons, fresh_nil, and_true, ne_eq, neF] at hD)); try simp only [go_sem, hD, h1]) | (apply hK; clear hK K)
    refine ret_pure ?_; simp only [resL_tmp, resL_nil, tupOf, go_sem, hD]
    rw [hR]
end Go.Proofs.YtpidncgibgiidaaGreat
namespace Go.Ab.A01
open Go
def mkB (l : List UInt8) : ByteArray := ⟨l.toArray⟩
theorem mkB_size (l : List UInt8) : (mkB l).size = l.length := by
  show l.toArray.size = _
  simp
end Go.Ab.A01
namespace Go.Ab
open Go
theorem sgn_swap (a b : Int) : sgn b a = -sgn a b := by
  unfold sgn
  rcases Int.lt_trichotomy a b with h | h | h
  · rw [if_neg (by omega), if_pos h, if_pos h]; rfl
  · rw [if_neg (by omega), if_neg (by omega), if_neg (by omega), if_neg (by omega)]; rfl
  · rw [if_pos h, if_neg (by omega), if_pos h]
theorem sgn_zero {a b : Int} : sgn a b = 0 ↔ a = b := by
  unfold sgn
  constructor
  · intro h
    split at h
    · cases h
    · split at h
      · cases h
      · omega
  · rintro rfl
    rw [if_neg (by omega), if_neg (by omega)]
theorem sgn_cases (a b : Int) : (sgn a b = -1 ∧ a < b) ∨ (sgn a b = 0 ∧ a = b) ∨ (sgn a b = 1 ∧ b < a) := by
  unfold sgn
  rcases Int.lt_trichotomy a b with h | h | h
  · exact .inl ⟨by rw [if_pos h], h⟩
  · exact .inr (.inl ⟨by rw [if_neg (by omega), if_neg (by omega)], h⟩)
  · exact .inr (.inr ⟨by rw [if_neg (by omega), if_pos h], h⟩)
theorem cb_cases : ∀ (a b : List UInt8), Lib.compareBytes a b = -1 ∨ (Lib.compareBytes a b = 0 ∧ a = b) ∨ Lib.compareBytes a b = 1
  | [], [] => .inr (.inl ⟨rfl, rfl⟩)
  | [], _ :: _ => .inl rfl
  | _ :: _, [] => .inr (.inr rfl)
  | x :: a, y :: b => by
    unfold Lib.compareBytes
    split
    · exact .inl rfl
    · split
      · exact .inr (.inr rfl)
      · rcases cb_cases a b with h | ⟨h, e⟩ | h
        · exact .inl h
        · refine .inr (.inl ⟨h, ?_⟩)
          have : x = y := UInt8.toNat_inj.1 (by simp only [UInt8.lt_iff_toNat_lt] at *; omega)
          rw [e, this]
        · exact .inr (.inr h)
theorem cb_swap : ∀ (a b : List UInt8), Lib.compareBytes b a = -Lib.compareBytes a b
  | [], [] => rfl
  | [], _ :: _ => rfl
  | _ :: _, [] => rfl
  | x :: a, y :: b => by
    unfold Lib.compareBytes
    by_cases h1 : x < y
    · rw [if_pos h1, if_neg (by simp only [UInt8.lt_iff_toNat_lt] at *; omega), if_pos h1]; rfl
    · by_cases h2 : y < x
      · rw [if_pos h2, if_neg h1, if_pos h2]
      · rw [if_neg h2, if_neg h1, if_neg h1, if_neg h2, cb_swap a b]
def lex (s t : Int) : Int := if s = 0 then t else s
def Tr (m n k : Int) : Prop := (m ≤ 0 → n ≤ 0 → k ≤ 0 ∧ (k = 0 → m = 0 ∧ n = 0)) ∧ (m = 0 → n = 0 → k = 0)
theorem Tr.lex {m n k m' n' k' : Int} (h : Tr m n k) (h' : Tr m' n' k') : Tr (lex m m') (lex n n') (lex k k') := by
  unfold Tr Ab.lex at *
  obtain ⟨h1, h2⟩ := h
  obtain ⟨h3, h4⟩ := h'
  refine ⟨fun a b => ?_, fun a b => ?_⟩
  · have hm : m ≤ 0 := by split at a <;> omega
    have hn : n ≤ 0 := by split at b <;> omega
    obtain ⟨k1, k2⟩ := h1 hm hn
    by_cases hk : k = 0
    · obtain ⟨rfl, rfl⟩ := k2 hk
      rw [if_pos rfl] at a b
      obtain ⟨k3, k4⟩ := h3 a b
      rw [if_pos hk, if_pos rfl, if_pos rfl]
      exact ⟨k3, k4⟩
    · rw [if_neg hk]
      exact ⟨k1, fun x => absurd x hk⟩
  · have hm : m = 0 ∧ m' = 0 := by split at a <;> omega
    have hn : n = 0 ∧ n' = 0 := by split at b <;> omega
    rw [if_pos (h2 hm.1 hn.1)]
    exact h4 hm.2 hn.2
theorem sgn_tr (a b c : Int) : Tr (sgn a b) (sgn b c) (sgn a c) := by
  unfold Tr
  rcases sgn_cases a b with h1 | h1 | h1 <;> rcases sgn_cases b c with h2 | h2 | h2 <;> rcases sgn_cases a c with h3 | h3 | h3 <;> omega
theorem cb_lex (x y : UInt8) (a b : List UInt8) : Lib.compareBytes (x :: a) (y :: b) = lex (sgn x.toNat y.toNat) (Lib.compareBytes a b) := by
  show (if x < y then (-1 : Int) else if y < x then 1 else Lib.compareBytes a b) = _
  unfold lex
  simp only [UInt8.lt_iff_toNat_lt]
  rcases Nat.lt_trichotomy x.toNat y.toNat with h | h | h
  · rw [if_pos h, show sgn (x.toNat : Int) y.toNat = -1 by unfold sgn; rw [if_pos (by omega)], if_neg (by decide)]
  · rw [if_neg (by omega), if_neg (by omega), show sgn (x.toNat : Int) y.toNat = 0 by unfold sgn; rw [if_neg (by omega), if_neg (by omega)], if_pos rfl]
  · rw [if_neg (by omega), if_pos h, show sgn (x.toNat : Int) y.toNat = 1 by unfold sgn; rw [if_neg (by omega), if_pos (by omega)], if_neg (by decide)]
theorem cb_tr : ∀ (a b c : List UInt8), Tr (Lib.compareBytes a b) (Lib.compareBytes b c) (Lib.compareBytes a c)
  | [], [], [] => by unfold Tr; decide
  | [], [], _ :: _ => by
    have e : Lib.compareBytes [] [] = 0 := rfl
    show Tr 0 (-1) (-1)
    unfold Tr; decide
  | [], _ :: _, [] => by
    show Tr (-1) 1 0
    unfold Tr; decide
  | _ :: _, [], [] => by
    show Tr 1 0 1
    unfold Tr; decide
  | [], y :: b, z :: c => by
    show Tr (-1) (Lib.compareBytes (y :: b) (z :: c)) (-1)
    unfold Tr
    omega
  | _ :: _, [], _ :: _ => by
    show Tr 1 (-1) _
    unfold Tr
    omega
  | x :: a, y :: b, [] => by
    show Tr (Lib.compareBytes (x :: a) (y :: b)) 1 1
    unfold Tr
    omega
  | x :: a, y :: b, z :: c => by
    rw [cb_lex, cb_lex, cb_lex]
    exact (sgn_tr _ _ _).lex (cb_tr a b c)
theorem cmpV_lex (k n : Int) (s : ByteArray) (k' n' : Int) (s' : ByteArray) : cmpV k n s k' n' s' = lex (sgn k k') (lex (sgn n n') (Lib.compareBytes s.data.toList s'.data.toList)) := rfl
theorem cmp_tr (k n : Int) (s : ByteArray) (k' n' : Int) (s' : ByteArray) (k'' n'' : Int) (s'' : ByteArray) : Tr (cmpV k n s k' n' s') (cmpV k' n' s' k'' n'' s'') (cmpV k n s k'' n'' s'') := by
  rw [cmpV_lex, cmpV_lex, cmpV_lex]
  exact (sgn_tr _ _ _).lex ((sgn_tr _ _ _).lex (cb_tr _ _ _))
theorem lex_neg (a b : Int) : lex (-a) (-b) = -lex a b := by
  unfold lex
  split <;> split <;> omega
theorem cmp_swap (k n : Int) (s : ByteArray) (k' n' : Int) (s' : ByteArray) : cmpV k' n' s' k n s = -cmpV k n s k' n' s' := by
  rw [cmpV_lex, cmpV_lex, sgn_swap k k', sgn_swap n n', cb_swap, lex_neg, lex_neg]
end Go.Ab
namespace Go.Ab
open Go
theorem vok_kind {k n : Int} {s : ByteArray} (h : vok k n s = true) : k = 0 ∨ k = 1 ∨ (k = 2 ∧ s.size ≤ 200) ∨ k = 3 := by
  unfold vok at h
  split at h
  · exact .inl (by assumption)
  · split at h
    · exact .inr (.inl (by assumption))
    · split at h
      · refine .inr (.inr (.inl ⟨by assumption, ?_⟩))
        simp only [Bool.and_eq_true, decide_eq_true_eq] at h
        exact h.2
      · split at h
        · exact .inr (.inr (.inr (by assumption)))
        · cases h
end Go.Ab
namespace Go.Ab
open Go Go.Ab.A01
def beL : Nat → Nat → List UInt8
  | 0, _ => []
  | m + 1, u => UInt8.ofNat (u / 256 ^ m % 256) :: beL m (u % 256 ^ m)
def num8 (n : Int) : List UInt8 := beL 8 (n + 9223372036854775808).toNat
def escL (l : List UInt8) : List UInt8 := l.flatMap fun c => if c = 0 then [0, 255] else [c]
def keyL (k n : Int) (t : ByteArray) : List UInt8 := UInt8.ofNat k.toNat :: (if k = 1 ∨ k = 3 then num8 n else if k = 2 then escL t.data.toList ++ [0, 1] else [])
theorem beL_len : ∀ (m u : Nat), (beL m u).length = m
  | 0, _ => rfl
  | m + 1, u => by rw [beL, List.length_cons, beL_len m]
theorem escL_cons (c : UInt8) (l : List UInt8) : escL (c :: l) = (if c = 0 then [0, 255] else [c]) ++ escL l := by
  unfold escL
  rw [List.flatMap_cons]
theorem kind_byte {k : Int} (h0 : 0 ≤ k) (h : k ≤ 3) : (UInt8.ofNat k.toNat).toNat = k.toNat := by
  rw [UInt8.toNat_ofNat']
  omega
def decT : List UInt8 → Option (List UInt8)
  | c :: d :: r => if c ≠ 0 then (decT (d :: r)).map (c :: ·) else if d = 1 then some [] else if d = 255 then (decT r).map (0 :: ·) else .none
  | _ => .none
theorem decT_esc : ∀ (t r : List UInt8), decT (escL t ++ 0 :: 1 :: r) = some t
  | [], r => rfl
  | c :: t, r => by
    rw [escL_cons]
    by_cases hc : c = 0
    · rw [if_pos hc]
      show decT (0 :: 255 :: (escL t ++ 0 :: 1 :: r)) = _
      rw [decT, if_neg (by simp), if_neg (by decide), if_pos rfl, decT_esc t r, hc]
      rfl
    · rw [if_neg hc]
      show decT (c :: (escL t ++ 0 :: 1 :: r)) = _
      have ih := decT_esc t r
      cases he : escL t ++ 0 :: 1 :: r with
      | nil => exact absurd he (by simp)
      | cons d w =>
        rw [he] at ih
        rw [decT, if_pos hc, ih]
        rfl
def ofBe : List UInt8 → Nat → Nat
  | [], u => u
  | c :: l, u => ofBe l (u * 256 + c.toNat)
theorem ofBe_be : ∀ (m u v : Nat), u < 256 ^ m → ofBe (beL m u) v = v * 256 ^ m + u
  | 0, u, v, hu => by
    have : u = 0 := by simpa using hu
    subst this
    simp [ofBe, beL]
  | m + 1, u, v, hu => by
    have hp : 0 < 256 ^ m := Nat.pow_pos (by decide)
    have hq : u / 256 ^ m < 256 := (Nat.div_lt_iff_lt_mul hp).2 (by rw [Nat.pow_succ] at hu; rw [Nat.mul_comm]; exact hu)
    have t1 : (UInt8.ofNat (u / 256 ^ m % 256)).toNat = u / 256 ^ m := by rw [UInt8.toNat_ofNat', Nat.mod_eq_of_lt hq]; exact Nat.mod_eq_of_lt hq
    rw [beL, ofBe, t1, ofBe_be m _ _ (Nat.mod_lt _ hp)]
    have e1 := Nat.div_add_mod u (256 ^ m)
    rw [Nat.pow_succ, Nat.add_mul, Nat.mul_comm (256 ^ m) 256, ← Nat.mul_assoc, Nat.add_assoc, Nat.mul_comm (u / 256 ^ m), e1]
def fromL (l : List UInt8) : Option ((Int × Int × List UInt8) × Nat) := match l with
  | [] => .none
  | c :: r => if c.toNat = 1 ∨ c.toNat = 3 then (if r.length < 8 then .none else some (((c.toNat : Int), (ofBe (r.take 8) 0 : Int) - 9223372036854775808, []), 9))
    else if c.toNat = 2 then (match decT r with
      | some t => some ((2, 0, t), (escL t).length + 3)
      | .none => .none) else some (((c.toNat : Int), 0, []), 1)
def fromV (l : List UInt8) : (Int × Int × ByteArray) × Int × Int := match fromL l with
  | some ((k, n, t), m) => if vok k n ⟨t.toArray⟩ = true then ((k, n, ⟨t.toArray⟩), (m : Int), 0) else ((0, 0, ⟨#[]⟩), 0, 2)
  | .none => ((0, 0, ⟨#[]⟩), 0, 2)
theorem num8_len (n : Int) : (num8 n).length = 8 := beL_len 8 _
theorem list_ba (t : ByteArray) : (⟨t.data.toList.toArray⟩ : ByteArray) = t := by cases t; simp
theorem from_key {k n : Int} {t : ByteArray} (hv : vok k n t = true) (hn : -9223372036854775808 ≤ n ∧ n ≤ 9223372036854775807) (r : List UInt8) : fromV (keyL k n t ++ r) = ((k, n, t), ((keyL k n t).length : Int), 0) := by
  have hk := vok_kind hv
  have kb := kind_byte (k := k) (by omega) (by omega)
  have hv0 := hv
  have p : (256 : Nat) ^ 8 = 18446744073709551616 := by decide
  have h8 : ofBe (num8 n) 0 = (n + 9223372036854775808).toNat := by
    unfold num8
    rw [ofBe_be 8 _ 0 (by omega)]
    omega
  have t8 : ((num8 n ++ r).take 8) = num8 n := by
    rw [List.take_append_of_le_length (by rw [num8_len]; exact Nat.le_refl _), List.take_of_length_le (by rw [num8_len]; exact Nat.le_refl _)]
  have l8 : ¬ (num8 n ++ r).length < 8 := by rw [List.length_append, num8_len]; omega
  have em : (⟨([] : List UInt8).toArray⟩ : ByteArray) = ⟨#[]⟩ := rfl
  have num : t = ⟨#[]⟩ → (k = 1 ∨ k = 3) → fromV (keyL k n t ++ r) = ((k, n, t), ((keyL k n t).length : Int), 0) := by
    intro ht hk13
    subst ht
    have hc : (UInt8.ofNat k.toNat).toNat = 1 ∨ (UInt8.ofNat k.toNat).toNat = 3 := by omega
    unfold keyL
    rw [if_pos hk13, List.length_cons, num8_len]
    unfold fromV fromL
    simp only [List.cons_append]
    rw [if_pos hc, if_neg l8, t8, h8, kb]
    simp only
    have e1 : ((k.toNat : Nat) : Int) = k := by omega
    have e2 : (((n + 9223372036854775808).toNat : Nat) : Int) - 9223372036854775808 = n := by omega
    rw [e1, e2, em, if_pos hv0]
  unfold vok at hv
  rcases hk with rfl | rfl | ⟨rfl, _⟩ | rfl
  · rw [if_pos rfl, Bool.and_eq_true, decide_eq_true_eq] at hv
    have e1 : t = ⟨#[]⟩ := barr_eq.1 hv.2
    subst e1
    obtain rfl : n = 0 := hv.1
    have kl : keyL 0 0 ⟨#[]⟩ = [0] := rfl
    rw [kl]
    unfold fromV fromL
    simp only [List.cons_append, List.nil_append]
    rw [if_neg (by decide), if_neg (by decide)]
    simp only
    rw [em, show (((0 : UInt8).toNat : Nat) : Int) = 0 from rfl, if_pos hv0]
    rfl
  · rw [if_neg (by decide), if_pos rfl] at hv
    exact num (barr_eq.1 hv) (.inl rfl)
  · rw [if_neg (by decide), if_neg (by decide), if_pos rfl, Bool.and_eq_true, decide_eq_true_eq] at hv
    have hz := hv.1
    subst hz
    have kl : keyL 2 0 t = 2 :: (escL t.data.toList ++ [0, 1]) := rfl
    rw [kl]
    unfold fromV fromL
    simp only [List.cons_append]
    rw [if_neg (by decide), if_pos (by decide)]
    have hd := decT_esc t.data.toList r
    have ha : escL t.data.toList ++ [0, 1] ++ r = escL t.data.toList ++ 0 :: 1 :: r := by rw [List.append_assoc]; rfl
    rw [ha, hd]
    simp only
    rw [list_ba, if_pos hv0]
    simp only [List.length_cons, List.length_append, List.length_nil]
  · rw [if_neg (by decide), if_neg (by decide), if_neg (by decide), if_pos rfl, Bool.and_eq_true, decide_eq_true_eq] at hv
    exact num (barr_eq.1 hv.2) (.inr rfl)
end Go.Ab
namespace Go.Ab
open Go Go.Ab.A01
theorem xor_low {a : Nat} (h : a < 9223372036854775808) : a ^^^ 9223372036854775808 = a + 9223372036854775808 := by
  have p : (9223372036854775808 : Nat) = 2 ^ 63 := by decide
  rw [p] at h ⊢
  refine Nat.eq_of_testBit_eq fun i => ?_
  rw [Nat.testBit_xor, Nat.testBit_two_pow, Nat.add_comm]
  by_cases h1 : i = 63
  · subst h1
    rw [Nat.testBit_two_pow_add_eq]
    simp
  · rw [decide_eq_false (by omega), Bool.xor_false]
    rcases Nat.lt_or_gt_of_ne h1 with h2 | h2
    · rw [Nat.testBit_two_pow_add_gt h2]
    · have e1 : a.testBit i = false := Nat.testBit_lt_two_pow (Nat.lt_of_lt_of_le h (Nat.pow_le_pow_right (by decide) (by omega)))
      have e3 : 2 ^ 63 + a < 2 ^ 64 := by
        have : (2 : Nat) ^ 64 = 2 ^ 63 + 2 ^ 63 := by decide
        omega
      have e2 : (2 ^ 63 + a).testBit i = false := Nat.testBit_lt_two_pow (Nat.lt_of_lt_of_le e3 (Nat.pow_le_pow_right (by decide) (by omega)))
      rw [e1, e2]
theorem xor_high {a : Nat} (h : 9223372036854775808 ≤ a) (h2 : a < 18446744073709551616) : a ^^^ 9223372036854775808 = a - 9223372036854775808 := by
  have e := xor_low (a := a - 9223372036854775808) (by omega)
  have e2 : a - 9223372036854775808 + 9223372036854775808 = a := by omega
  rw [e2] at e
  conv => lhs; rw [← e]
  rw [Nat.xor_assoc, Nat.xor_self, Nat.xor_zero]
def unum (n : Int) : Nat := (n + 9223372036854775808).toNat
end Go.Ab
namespace Go.Ab
open Go Go.Ab.A01
theorem beL_get : ∀ (m u j : Nat), j < m → (beL m u).getD j 0 = UInt8.ofNat (u / 256 ^ (m - 1 - j) % 256)
  | 0, u, j, h => absurd h (by omega)
  | m + 1, u, 0, h => by rw [beL, List.getD_cons_zero]; rfl
  | m + 1, u, j + 1, h => by
    rw [beL, List.getD_cons_succ, beL_get m _ j (by omega)]
    congr 1
    have e : m + 1 - 1 - (j + 1) = m - 1 - j := by omega
    have e2 : (256 : Nat) ^ m = 256 ^ (m - 1 - j) * 256 ^ (j + 1) := by rw [← Nat.pow_add]; congr 1; omega
    rw [e, e2, Nat.mod_mul_right_div_self, Nat.mod_mod_of_dvd _ (Nat.dvd_of_pow_dvd (Nat.succ_pos j) (Nat.dvd_refl _))]
theorem num8_get (n : Int) {j : Nat} (h : j < 8) : (num8 n).getD j 0 = UInt8.ofNat (unum n / 2 ^ (56 - 8 * j) % 256) := by
  unfold num8
  rw [beL_get 8 _ j h]
  have e : (256 : Nat) ^ (8 - 1 - j) = 2 ^ (56 - 8 * j) := by
    rw [show (256 : Nat) = 2 ^ 8 by decide, ← Nat.pow_mul]
    congr 1
    omega
  rw [e]
  rfl
end Go.Ab
namespace Go.Proofs.YtpidncgibgiidaaGreat
open Go Go.Ab Go.Ab.A01
variable [Gl] [Tabs]
theorem unum_xor (n : Int) (hn : In64 n) : bits BinOp.xor IntKind.u64 (IntKind.u64.wrap n) 9223372036854775808 = (unum n : Int) := by
  unfold In64 at hn
  unfold unum
  rw [u64w]
  rcases Int.lt_or_le n 0 with h | h
  · have e : n % 18446744073709551616 = (((n + 18446744073709551616).toNat : Nat) : Int) := by omega
    have b := bits_xor_u64_nat (n + 18446744073709551616).toNat 9223372036854775808 (by omega) (by decide)
    rw [xor_high (by omega) (by omega), show ((9223372036854775808 : Nat) : Int) = 9223372036854775808 from rfl] at b
    rw [e, b]
    omega
  · have e : n % 18446744073709551616 = ((n.toNat : Nat) : Int) := by omega
    have b := bits_xor_u64_nat n.toNat 9223372036854775808 (by omega) (by decide)
    rw [xor_low (by omega), show ((9223372036854775808 : Nat) : Int) = 9223372036854775808 from rfl] at b
    rw [e, b]
    omega
theorem number_c (n : Int) (hn : In64 n) (l : List UInt8) (hl : l.length ≤ 1000) (x : SV) (h : Heap) (hA : Acc 1 x h [] l.length (byts l)) :
    Ab.Call Tryz.prog 181 [x, I64 n] h (fun r h' => Acc 1 r h' [] (l ++ num8 n).length (byts (l ++ num8 n))) := by
  have ux := unum_xor n hn
  have n8 := num8_len n
  have un : unum n < 18446744073709551616 := by unfold unum; unfold In64 at hn; omega
  refine Call.enter' (N := 22) (rs := [.tmp 4]) Tryz.func181 rfl rfl rfl (by decide) rfl ?_; simp only [argT]; have hD : (0 : Nat) = 0 := rfl
  repeat' first | (refine SW.seq_k fun K hK => ?_) | (refine SW.region ?_; try simp only [go_sem, hD, ux]) | (apply hK; clear hK K)
  refine SW.block ?_
  obtain ⟨I, hI⟩ : ∃ I : Nat → St → Prop, ∀ k S, I k S ↔ (∃ (j : Nat) (y : SV) (h' : Heap), k = 8 - j ∧ j ≤ 8 ∧ Acc 1 y h' [] (l ++ (num8 n).take j).length (byts (l ++ (num8 n).take j)) ∧ S = ⟨[(0, y), (5, U64 (unum n)), (6, I64 (56 - 8 * (j : Int)))], h'⟩) := ⟨fun k S => _, fun _ _ => Iff.rfl⟩
  refine SW.loop' I 8 ((hI _ _).2 ⟨0, x, h, rfl, Nat.zero_le _, by rw [List.take_zero, List.append_nil]; exact hA, rfl⟩) (by repeat' (first | exact rfl | exact trivial | constructor)) ?_
  intro k S hIn
  obtain ⟨j, y, h', rfl, hj, hB, rfl⟩ := (hI _ _).1 hIn
  clear hIn hA
  rcases Nat.lt_or_ge j 8 with h8 | h8
  · have h1i : (0 : Int) ≤ 56 - 8 * (j : Int) := by omega
    have w1 : IntKind.i64.wrap (56 - 8 * (j : Int) - 8) = 56 - 8 * ((j + 1 : Nat) : Int) := by rw [i64_wrap (by omega) (by omega)]; omega
    obtain ⟨c, hc⟩ : ∃ c, c = (num8 n).getD j 0 := ⟨_, rfl⟩
    have sl : (num8 n).take (j + 1) = (num8 n).take j ++ [c] := by
      have : j < (num8 n).length := by omega
      rw [List.take_add_one, hc]
      simp [List.getD_eq_getElem?_getD, this]
    have e1 : (56 - 8 * (j : Int)).toNat = 56 - 8 * j := by omega
    have e2 : min (56 - 8 * j) 64 = 56 - 8 * j := by omega
    have e3 : (unum n : Int).fdiv (2 ^ (56 - 8 * j)) = ((unum n / 2 ^ (56 - 8 * j) : Nat) : Int) := by
      rw [Int.fdiv_eq_ediv_of_nonneg _ (by exact_mod_cast Nat.zero_le _)]
      exact_mod_cast rfl
    have e4 : IntKind.u8.wrap ((unum n / 2 ^ (56 - 8 * j) : Nat) : Int) = (c.toNat : Int) := by
      rw [hc, num8_get n h8, UInt8.toNat_ofNat', IntKind.wrap_u8']
      omega
    have ll : ((num8 n).take j).length = j := by rw [List.length_take]; omega
    have la : (l ++ (num8 n).take j).length = l.length + j := by rw [List.length_append, ll]
    repeat' first | ((with_reducible refine appK_byts (l2 := [c]) hB ?_ ?_ ?_ ?_ ?_ ?_ ?_ ?_ ?_); (iterate 8 (first | rfl | exact hD | exact hD.1 | exact hD.2.1 | exact hD.2.2.1 | exact Nat.succ_pos _ | (simp only [List.length_cons, List.length_nil]; omega))); intro b' blk' h' h'' n3 hn3 hfind hcells hcv hB' hle; clear hB; have hB := hB'; clear hB'; (try simp only [go_sem, hD] at hcv); simp only [go_sem, hD, hfind, hcv]; ((first | apply hK | (clear hK K; apply hK) | (clear hK K; clear hK K; apply hK)); clear hK K); refine Ab.SW.le (hle _) ?_; clear hle hfind hcv hcells) | (refine SW.seq_k fun K hK => ?_) | (refine SW.block ?_) | ((first | refine SW.region ?_ | refine SW.cond ?_ | refine SW.skip ?_ | (refine allF_i fun b hb => ?_; replace hD := And.intro hb hD; clear hb; try simp only [fresh_cons, fresh_nil, and_true, ne_eq, neF] at hD)); try simp only [go_sem, hD, h1i, w1, e1, e2, e3, e4]) | (apply hK; clear hK K)
    rw [List.append_assoc, ← sl] at hB
    refine Rnd.sub (8 - (j + 1)) (by omega) ((hI _ _).2 ⟨j + 1, _, _, rfl, by omega, hB, rfl⟩) (by repeat' (first | exact rfl | exact trivial | constructor))
  · obtain rfl : j = 8 := by omega
    rw [List.take_of_length_le (by omega)] at hB
    have h1i : ¬ (0 : Int) ≤ 56 - 8 * ((8 : Nat) : Int) := by omega
    repeat' first | (refine SW.seq_k fun K hK => ?_) | ((first | refine SW.region ?_ | refine SW.cond ?_ | refine SW.exit ?_ | refine SW.ret ?_); try simp only [go_sem, hD, h1i]) | (apply hK; clear hK K) | (clear hK K; apply hK; clear hK K)
    refine retQ_ret ?_
    simp only [resL_tmp, resL_nil, tupOf, go_sem, hD]
    rw [List.length_append] at hB
    exact hB
theorem number_k (n : Int) (hn : In64 n) (l : List UInt8) (hl : l.length ≤ 1000) (x : SV) (h : Heap) (hA : Acc 1 x h [] l.length (byts l)) :
    Ab.Call Tryz.prog 181 [x, I64 n] h (fun r h' => ∃ b blk m, r = .os b 0 m 1 ∧ h' = [(b, blk)] ∧ cvtK blk 0 m = .ok True (Str (mkB (l ++ num8 n)))) :=
  Call.mono (number_c n hn l hl x h hA) fun r h' hB => by
    have hne : l ++ num8 n ≠ [] := fun e => by
      have := num8_len n
      rw [(List.append_eq_nil_iff.1 e).2] at this
      cases this
    rcases hB.byts_cases with ⟨e, _, _⟩ | ⟨b, _, e1, blk, hc, e2⟩
    · exact absurd e hne
    · exact ⟨b, blk, _, e1, e2, cvtK_of hc hne rfl⟩
theorem key_num (k n : Int) (hn : In64 n) (hk : k = 1 ∨ k = 3) (hv : vok k n ⟨#[]⟩ = true) : PCall Tryz.prog 138 [VS k n ⟨#[]⟩] (.tup [Str (mkB (keyL k n ⟨#[]⟩)), I64 0]) := by
  have v := valid_p k n ⟨#[]⟩
  rw [hv] at v
  rcases hk with rfl | rfl
  · have u1 : IntKind.u8.wrap 1 = 1 := by decide
    have kl : keyL 1 n ⟨#[]⟩ = [1] ++ num8 n := by unfold keyL; rw [if_pos (.inl rfl)]; rfl
    rw [kl]
    refine Call.enter' (N := 51) (rs := [.tmp 2, .tmp 3]) Tryz.func138 rfl rfl rfl (by decide) rfl ?_; simp only [argT]; have hD : (0 : Nat) = 0 := rfl
    repeat' first | (refine SW.seq_k fun K hK => ?_) | (refine SW.block ?_) | ((first | refine SW.region ?_ | refine SW.cond ?_ | refine SW.skip ?_ | refine Call.of_pure (v) ?_ | (refine allF_i fun b hb => ?_; replace hD := And.intro hb hD; clear hb; try simp only [fresh_cons, fresh_nil, and_true, ne_eq, neF] at hD)); try simp only [go_sem, hD, u1]) | (apply hK; clear hK K)
    rename_i b0
    refine Call.mono (Call.frame (h1 := [(b, Blk.svs [SV.sc (Value.int IntKind.u8 1)])]) (h2 := [(b0, _)]) (number_k n hn [1] (by decide) _ _ (.inr ⟨b, _, trivial, rfl, rfl, rfl, rfl, rfl⟩))) ?_
    rintro r h' ⟨h1', rfl, b2, blk, m, rfl, rfl, hcv⟩
    simp only [go_sem, hD] at hcv
    simp only [go_sem, hD]
    repeat' first | (refine SW.seq_k fun K hK => ?_) | ((first | refine SW.region ?_ | refine SW.ret ?_); try simp only [go_sem, hD, hcv]) | (apply hK; clear hK K)
    refine ret_pure ?_; simp only [resL_tmp, resL_nil, tupOf, go_sem, hD]
  · have u1 : IntKind.u8.wrap 3 = 3 := by decide
    have kl : keyL 3 n ⟨#[]⟩ = [3] ++ num8 n := by unfold keyL; rw [if_pos (.inr rfl)]; rfl
    rw [kl]
    refine Call.enter' (N := 51) (rs := [.tmp 2, .tmp 3]) Tryz.func138 rfl rfl rfl (by decide) rfl ?_; simp only [argT]; have hD : (0 : Nat) = 0 := rfl
    repeat' first | (refine SW.seq_k fun K hK => ?_) | (refine SW.block ?_) | ((first | refine SW.region ?_ | refine SW.cond ?_ | refine SW.skip ?_ | refine Call.of_pure (v) ?_ | (refine allF_i fun b hb => ?_; replace hD := And.intro hb hD; clear hb; try simp only [fresh_cons, fresh_nil, and_true, ne_eq, neF] at hD)); try simp only [go_sem, hD, u1]) | (apply hK; clear hK K)
    rename_i b0
    refine Call.mono (Call.frame (h1 := [(b, Blk.svs [SV.sc (Value.int IntKind.u8 3)])]) (h2 := [(b0, _)]) (number_k n hn [3] (by decide) _ _ (.inr ⟨b, _, trivial, rfl, rfl, rfl, rfl, rfl⟩))) ?_
    rintro r h' ⟨h1', rfl, b2, blk, m, rfl, rfl, hcv⟩
    simp only [go_sem, hD] at hcv
    simp only [go_sem, hD]
    repeat' first | (refine SW.seq_k fun K hK => ?_) | ((first | refine SW.region ?_ | refine SW.ret ?_); try simp only [go_sem, hD, hcv]) | (apply hK; clear hK K)
    refine ret_pure ?_; simp only [resL_tmp, resL_nil, tupOf, go_sem, hD]
theorem key_null : PCall Tryz.prog 138 [VS 0 0 ⟨#[]⟩] (.tup [Str (mkB (keyL 0 0 ⟨#[]⟩)), I64 0]) := by
  have v := valid_p 0 0 ⟨#[]⟩
  have e : vok 0 0 ⟨#[]⟩ = true := by decide +kernel
  rw [e] at v
  have u1 : IntKind.u8.wrap 0 = 0 := by decide
  have tb : (List.take 1 [SV.sc (Value.int IntKind.u8 0)]).all isByte = true := rfl
  refine Call.enter' (N := 51) (rs := [.tmp 2, .tmp 3]) Tryz.func138 rfl rfl rfl (by decide) rfl ?_; simp only [argT]; have hD : (0 : Nat) = 0 := rfl
  have tb2 : isByte (SV.sc (Value.int IntKind.u8 0)) = true := rfl
  repeat' first | (refine SW.seq_k fun K hK => ?_) | (refine SW.block ?_) | ((first | refine SW.region ?_ | refine SW.cond ?_ | refine SW.skip ?_ | refine SW.ret ?_ | refine Call.of_pure (v) ?_ | (refine allF_i fun b hb => ?_; replace hD := And.intro hb hD; clear hb; try simp only [fresh_cons, fresh_nil, and_true, ne_eq, neF] at hD)); try simp only [go_sem, hD, u1, tb, tb2]) | (apply hK; clear hK K)
  refine ret_pure ?_; simp only [resL_tmp, resL_nil, tupOf, go_sem, hD]
  rfl
end Go.Proofs.YtpidncgibgiidaaGreat
namespace Go.Ab
open Go Go.Ab.A01
theorem escL_step {l : List UInt8} {j : Nat} (h : j < l.length) : escL (l.take (j + 1)) = escL (l.take j) ++ (if l.getD j 0 = 0 then [0, 255] else [l.getD j 0]) := by
  unfold escL
  rw [List.take_add_one, List.flatMap_append]
  simp [List.getD_eq_getElem?_getD, h]
theorem escL_le (l : List UInt8) : (escL l).length ≤ 2 * l.length := by
  induction l with
  | nil => exact Nat.le_refl _
  | cons c l ih =>
    rw [escL_cons, List.length_append, List.length_cons]
    split
    · simp only [List.length_cons, List.length_nil]; omega
    · simp only [List.length_cons, List.length_nil]; omega
end Go.Ab
namespace Go.Proofs.YtpidncgibgiidaaGreat
open Go Go.Ab Go.Ab.A01
variable [Gl] [Tabs]
theorem key_text (s : ByteArray) (hs : s.size ≤ 200) (hv : vok 2 0 s = true) : PCall Tryz.prog 138 [VS 2 0 s] (.tup [Str (mkB (keyL 2 0 s)), I64 0]) := by
  have ls : s.data.toList.length = s.size := Array.length_toList
  have v := valid_p 2 0 s
  rw [hv] at v
  have u1 : IntKind.u8.wrap 2 = 2 := by decide
  have kl : keyL 2 0 s = (2 :: escL s.data.toList) ++ [0, 1] := rfl
  rw [kl]
  refine Call.enter' (N := 51) (rs := [.tmp 2, .tmp 3]) Tryz.func138 rfl rfl rfl (by decide) rfl ?_; simp only [argT]; have hD : (0 : Nat) = 0 := rfl
  repeat' first | (refine SW.seq_k fun K hK => ?_) | (refine SW.block ?_) | ((first | refine SW.region ?_ | refine SW.cond ?_ | refine SW.skip ?_ | refine Call.of_pure (v) ?_ | (refine allF_i fun b hb => ?_; replace hD := And.intro hb hD; clear hb; try simp only [fresh_cons, fresh_nil, and_true, ne_eq, neF] at hD)); try simp only [go_sem, hD, u1]) | (apply hK; clear hK K)
  rename_i b1 K hK
  obtain ⟨I, hI⟩ : ∃ I : Nat → St → Prop, ∀ k S, I k S ↔ (∃ (j b m : Nat) (blk : Blk), k = s.size - j ∧ j ≤ s.size ∧ fresh [(b1, .svs [I64 2, I64 0, Str s])] b ∧ m = (2 :: escL (s.data.toList.take j)).length ∧ blk.cells = byts (2 :: escL (s.data.toList.take j)) ∧
    S = ⟨[(1, .op b1 0), (4, .os b 0 m 1), (26, I64 s.size), (27, I64 j)], [(b, blk), (b1, .svs [I64 2, I64 0, Str s])]⟩) := ⟨fun k S => _, fun _ _ => Iff.rfl⟩
  refine SW.loop' I s.size ((hI _ _).2 ⟨0, b, 1, _, rfl, Nat.zero_le _, by simp only [fresh_cons, fresh_nil, and_true, ne_eq, neF]; simp_all, rfl, rfl, rfl⟩) (by repeat' (first | exact rfl | exact trivial | constructor)) ?_
  clear hD
  intro k S hIn
  obtain ⟨j, b0, m, blk, rfl, hj, hfr, hm, hcells, rfl⟩ := (hI _ _).1 hIn
  clear hIn
  have hD := hfr
  simp only [fresh_cons, fresh_nil, and_true, ne_eq, neF] at hD
  have hbM : blk.isM = false := by
    cases blk with
    | mp m => exact absurd (List.map_eq_nil_iff.1 hcells.symm) (by simp)
    | _ => rfl
  have hB : Acc 1 (.os b0 0 m 1) [(b0, blk), (b1, .svs [I64 2, I64 0, Str s])] [(b1, .svs [I64 2, I64 0, Str s])] (2 :: escL (s.data.toList.take j)).length (byts (2 :: escL (s.data.toList.take j))) :=
    .inr ⟨b0, blk, hfr, hcells, by rw [Nat.mul_one, byts_length], by rw [hm], rfl, hbM⟩
  have le := escL_le (s.data.toList.take j)
  have l2 : (s.data.toList.take j).length ≤ s.size := by rw [List.length_take]; omega
  clear hcells
  have ie : ((j : Nat) : Int).toNat = j := Int.toNat_natCast _
  have i0 : (0 : Int) ≤ ((j : Nat) : Int) := by omega
  by_cases hlt : j < s.size
  · have h1i : ((j : Nat) : Int) < ((s.size : Nat) : Int) := by omega
    have w1 : IntKind.i64.wrap ((j : Int) + 1) = ((j + 1 : Nat) : Int) := by rw [i64_wrap (by omega) (by omega)]; omega
    have st := escL_step (l := s.data.toList) (j := j) (by omega)
    obtain ⟨c, hc⟩ : ∃ c, c = s.data.toList.getD j 0 := ⟨_, rfl⟩
    rw [← hc] at st
    replace hc := hc.symm
    by_cases h0 : c = 0
    · subst h0
      have z : (((0 : UInt8).toNat : Nat) : Int) = 0 := rfl
      repeat' first | ((with_reducible refine appK_byts2 (l2 := [0]) hB ?_ ?_ ?_ ?_ ?_ ?_ ?_ ?_ ?_); (iterate 8 (first | rfl | exact hD | exact hD.1 | exact hD.2.1 | exact hD.2.2.1 | (simp only [fresh_cons, fresh_nil, and_true, ne_eq, neF]; first | exact hD | exact hD.1 | exact hD.1.1 | exact hD.2) | exact Nat.succ_pos _ | (simp only [List.length_append, List.length_cons, List.length_nil]; omega))); intro b' blk' h' n3 hn3 hfr hfind hcells hcv hB' hle; clear hB; have hB := hB'; clear hB'; replace hD := And.intro hfr hD; clear hfr; (simp only [fresh_cons, fresh_nil, and_true, ne_eq, neF] at hD); (try simp only [go_sem, hD] at hcv); simp only [go_sem, hD, hfind, hcv]; ((first | apply hK | (clear hK K; apply hK) | (clear hK K; clear hK K; apply hK)); clear hK K); refine Ab.SW.le (hle _) ?_; clear hle hfind hcv) | ((with_reducible refine appK_byts2 (l2 := [255]) hB ?_ ?_ ?_ ?_ ?_ ?_ ?_ ?_ ?_); (iterate 8 (first | rfl | exact hD | exact hD.1 | exact hD.2.1 | exact hD.2.2.1 | (simp only [fresh_cons, fresh_nil, and_true, ne_eq, neF]; first | exact hD | exact hD.1 | exact hD.1.1 | exact hD.2) | exact Nat.succ_pos _ | (simp only [List.length_append, List.length_cons, List.length_nil]; omega))); intro b' blk' h' n3 hn3 hfr hfind hcells hcv hB' hle; clear hB; have hB := hB'; clear hB'; replace hD := And.intro hfr hD; clear hfr; (simp only [fresh_cons, fresh_nil, and_true, ne_eq, neF] at hD); (try simp only [go_sem, hD] at hcv); simp only [go_sem, hD, hfind, hcv]; ((first | apply hK | (clear hK K; apply hK) | (clear hK K; clear hK K; apply hK)); clear hK K); refine Ab.SW.le (hle _) ?_; clear hle hfind hcv) | (refine SW.seq_k fun K hK => ?_) | (refine SW.block ?_) | ((first | refine SW.region ?_ | refine SW.cond ?_ | refine SW.skip ?_ | (refine allF_i fun b hb => ?_; replace hD := And.intro hb hD; clear hb; try simp only [fresh_cons, fresh_nil, and_true, ne_eq, neF] at hD)); try simp only [go_sem, hD, h1i, ie, i0, w1, hc, z]) | (apply hK; clear hK K)
      rw [if_pos rfl] at st
      have e : 2 :: escL (s.data.toList.take j) ++ [0] ++ [255] = 2 :: escL (s.data.toList.take (j + 1)) := by rw [st]; simp
      rw [e] at hcells hB
      have hn : n3 = (2 :: escL (s.data.toList.take (j + 1))).length := by rw [← e]; assumption
      refine Rnd.sub (s.size - (j + 1)) (by omega) ((hI _ _).2 ⟨j + 1, _, _, _, rfl, by omega, by simp only [fresh_cons, fresh_nil, and_true, ne_eq, neF]; exact hD.1, hn, hcells, rfl⟩) (by repeat' (first | exact rfl | exact trivial | constructor))
    · rw [if_neg h0] at st
      have z : ¬ ((c.toNat : Nat) : Int) = 0 := fun x => h0 (UInt8.toNat_inj.1 (show c.toNat = 0 by omega))
      repeat' first | ((with_reducible refine appK_byts2 (l2 := [c]) hB ?_ ?_ ?_ ?_ ?_ ?_ ?_ ?_ ?_); (iterate 8 (first | rfl | exact hD | exact hD.1 | exact hD.2.1 | exact hD.2.2.1 | (simp only [fresh_cons, fresh_nil, and_true, ne_eq, neF]; first | exact hD | exact hD.1 | exact hD.1.1 | exact hD.2) | exact Nat.succ_pos _ | (simp only [List.length_append, List.length_cons, List.length_nil]; omega))); intro b' blk' h' n3 hn3 hfr hfind hcells hcv hB' hle; clear hB; have hB := hB'; clear hB'; replace hD := And.intro hfr hD; clear hfr; (simp only [fresh_cons, fresh_nil, and_true, ne_eq, neF] at hD); (try simp only [go_sem, hD] at hcv); simp only [go_sem, hD, hfind, hcv]; ((first | apply hK | (clear hK K; apply hK) | (clear hK K; clear hK K; apply hK)); clear hK K); refine Ab.SW.le (hle _) ?_; clear hle hfind hcv) | (refine SW.seq_k fun K hK => ?_) | (refine SW.block ?_) | ((first | refine SW.region ?_ | refine SW.cond ?_ | refine SW.skip ?_ | (refine allF_i fun b hb => ?_; replace hD := And.intro hb hD; clear hb; try simp only [fresh_cons, fresh_nil, and_true, ne_eq, neF] at hD)); try simp only [go_sem, hD, h1i, ie, i0, w1, hc, z]) | (apply hK; clear hK K)
      have e : 2 :: escL (s.data.toList.take j) ++ [c] = 2 :: escL (s.data.toList.take (j + 1)) := by rw [st]; simp
      rw [e] at hcells hB
      have hn : n3 = (2 :: escL (s.data.toList.take (j + 1))).length := by rw [← e]; assumption
      refine Rnd.sub (s.size - (j + 1)) (by omega) ((hI _ _).2 ⟨j + 1, _, _, _, rfl, by omega, by simp only [fresh_cons, fresh_nil, and_true, ne_eq, neF]; exact hD.1, hn, hcells, rfl⟩) (by repeat' (first | exact rfl | exact trivial | constructor))
  · have h1i : ¬ ((j : Nat) : Int) < ((s.size : Nat) : Int) := by omega
    rw [List.take_of_length_le (by omega)] at hB hm le
    repeat' first | ((with_reducible refine appK_byts2 (l2 := [0, 1]) hB ?_ ?_ ?_ ?_ ?_ ?_ ?_ ?_ ?_); (iterate 8 (first | rfl | exact hD | exact hD.1 | exact hD.2.1 | exact hD.2.2.1 | (simp only [fresh_cons, fresh_nil, and_true, ne_eq, neF]; first | exact hD | exact hD.1 | exact hD.1.1 | exact hD.2) | exact Nat.succ_pos _ | (simp only [List.length_append, List.length_cons, List.length_nil]; omega))); intro b' blk' h' n3 hn3 hfr hfind hcells hcv hB' hle; clear hB; have hB := hB'; clear hB'; replace hD := And.intro hfr hD; clear hfr; (simp only [fresh_cons, fresh_nil, and_true, ne_eq, neF] at hD); (try simp only [go_sem, hD] at hcv); simp only [go_sem, hD, hfind, hcv]; ((first | apply hK | (clear hK K; apply hK) | (clear hK K; clear hK K; apply hK)); clear hK K); refine Ab.SW.le (hle _) ?_; clear hle hfind; refine stop_i ?_) | (refine SW.seq_k fun K hK => ?_) | ((first | refine SW.region ?_ | refine SW.cond ?_ | refine SW.exit ?_ | (refine allF_i fun b hb => ?_; replace hD := And.intro hb hD; clear hb; try simp only [fresh_cons, fresh_nil, and_true, ne_eq, neF] at hD)); try simp only [go_sem, hD, h1i]) | (apply hK; clear hK K) | (clear hK K; apply hK; clear hK K)
    refine ⟨?_⟩
    repeat' first | (refine SW.seq_k fun K hK => ?_) | ((first | refine SW.region ?_ | refine SW.ret ?_); try simp only [go_sem, hD, hcv]) | (apply hK; clear hK K)
    refine ret_pure ?_; simp only [resL_tmp, resL_nil, tupOf, go_sem, hD]
    rfl
end Go.Proofs.YtpidncgibgiidaaGreat
namespace Go.Ab
open Go Go.RowKit
section
variable {P : Program} {K : St → Prop} {t : List (Nat × SV)} {h h0 : Heap}
theorem len_nt {st : Bool} {L : TypeId × Nat × Nat} {A : Option (Nat × Nat)} : lenSV st (some L) A .nt = .ok True (.sc (.int .i64 0)) := rfl
theorem len_ot {st : Bool} {L : TypeId × Nat × Nat} {A : Option (Nat × Nat)} {b n : Nat} {e : TypeId} : lenSV st (some L) A (.ot b n e) = .ok True (.sc (.int .i64 n)) := rfl
theorem cells_nt : svCells .nt = some [.nt] := rfl
theorem cells_ot {b n : Nat} {e : TypeId} : svCells (.ot b n e) = some [.ot b n e] := rfl
theorem cells_opT {b n : Nat} {e : TypeId} : svCells (.opT b e n) = some [.opT b e n] := rfl
theorem single_nt : single .nt = true := rfl
theorem single_ot {b n : Nat} {e : TypeId} : single (.ot b n e) = true := rfl
theorem single_opT {b n : Nat} {e : TypeId} : single (.opT b e n) = true := rfl
attribute [go_sem] len_nt len_ot cells_nt cells_ot cells_opT single_nt single_ot single_opT
theorem byts_one (l : List UInt8) : (byts l).all single = true := by
  rw [List.all_eq_true]
  intro x hx
  simp only [byts, List.mem_map] at hx
  obtain ⟨c, _, rfl⟩ := hx
  rfl
theorem src_str (s : ByteArray) (h : Heap) : srcCells (.sc (.string s)) h = some (s.data.toList.length, byts s.data.toList) := by
  show some (s.size, _) = _
  rw [show s.data.toList.length = s.size from Array.length_toList]
  rfl
theorem src_ok (s : ByteArray) (h : Heap) : srcOk 1 (.sc (.string s)) h := by
  unfold srcOk
  rfl
theorem appK_ot [Gl] {g bytes e : Nat} {l l2 : List UInt8} {y : SV} {z : List Value} {d : Tmp} {blk : Blk} (hsrc : srcCells y h = some (l2.length, byts l2)) (hok : srcOk 1 y h) (hf : h.find g = some blk) (hc : blk.cells = byts l) (hz : z.length = 1)
    (hb : (l.length + l2.length) * bytes ≤ 140737488355328) (hn : l.length + l2.length ≤ 140737488355328)
    (hK : ∀ g' blk', fresh (h.del g) g' → blk'.cells = byts (l ++ l2) → K ⟨(d, .ot g' (l ++ l2).length e) :: t, h.ren g g' blk'⟩) :
    appK (some (e, 1, bytes)) (some z) true (.ot g l.length e) y (some d) K ⟨t, h⟩ := by
  unfold appK
  simp only [hsrc]
  refine ⟨trivial, hok, byts_one l2, hz, Nat.one_pos, ?_⟩
  unfold appOtK
  simp only [hf]
  refine ⟨trivial, trivial, by rw [← Blk.length_cells, hc]; simp [byts], hb, hn, fun g' hfr => ?_⟩
  rw [← List.length_append]
  exact hK g' _ hfr (by rw [appB_cells, hc]; simp [byts])
theorem appK_nt [Gl] {bytes e : Nat} {l2 : List UInt8} {y : SV} {z : List Value} {d : Tmp} (hsrc : srcCells y h = some (l2.length, byts l2)) (hok : srcOk 1 y h) (hpos : 0 < l2.length) (hz : z.length = 1)
    (hb : l2.length * bytes ≤ 140737488355328) (hn : l2.length ≤ 140737488355328)
    (hK : ∀ g' blk', fresh h g' → blk'.cells = byts l2 → K ⟨(d, .ot g' l2.length e) :: t, (g', blk') :: h⟩) :
    appK (some (e, 1, bytes)) (some z) true .nt y (some d) K ⟨t, h⟩ := by
  unfold appK
  simp only [hsrc]
  refine ⟨trivial, hok, byts_one l2, hz, Nat.one_pos, ?_⟩
  unfold appNtK
  exact ⟨rfl, hb, hn, fun x => by omega, fun _ g' hfr => hK g' _ hfr (newB_cells _)⟩
end
end Go.Ab
namespace Go.Proofs.YtpidncgibgiidaaGreat
open Go Go.Ab Go.Ab.A34
variable [Gl] [Tabs]
def BH (b : Nat) (l : List UInt8) (h h0 : Heap) : Prop :=
  (l = [] ∧ h = (b, .svs [.sc (.pointer none), .nt]) :: h0) ∨
  (l ≠ [] ∧ ∃ g blk, fresh h0 g ∧ g ≠ b ∧ blk.cells = byts l ∧ h = (b, .svs [.op b 0, .ot g l.length 5]) :: (g, blk) :: h0)
abbrev BP (b : Nat) : SV := .opT b 167 2
theorem wstr_c (b : Nat) (l : List UInt8) (h h0 : Heap) (hB : BH b l h h0) (hf0 : fresh h0 b) (s : ByteArray) (h1 : 1 ≤ s.size) (hs : l.length + s.size ≤ 1000000) :
    Ab.Call Tryz.prog 139 [BP b, Str s] h (fun r h' => r = .tup [I64 s.size, .sc .nilIface] ∧ BH b (l ++ s.data.toList) h' h0) := by
  have hsl : s.size = s.data.toList.length := by rw [len_list]
  have hne : l ++ s.data.toList ≠ [] := fun e => by
    have := congrArg List.length e
    rw [List.length_append, List.length_nil] at this
    omega
  have hp1 : 0 < s.data.toList.length := by omega
  have hz1 : ([Value.int IntKind.u8 0] : List Value).length = 1 := rfl
  rcases hB with ⟨rfl, rfl⟩ | ⟨hl, g, blk, hf, hg, hc, rfl⟩
  · have hb1 : s.data.toList.length * 1 ≤ 140737488355328 := by omega
    have hn1 : s.data.toList.length ≤ 140737488355328 := by omega
    refine Call.enter' (N := 19) (rs := [.tmp 4, .tmp 5]) Tryz.func139 rfl rfl rfl (by decide) rfl ?_; simp only [argT]; have hD : (0 : Nat) = 0 := rfl
    repeat' first | (with_reducible refine Call.mono (copy_new b SV.nt h0) ?_; intro r h' hx; obtain ⟨rfl, rfl⟩ := hx) | (with_reducible refine appK_nt (l2 := s.data.toList) (src_str _ _) (src_ok _ _) hp1 hz1 hb1 hn1 ?_; intro g' blk' hfr hcl; refine stop_i ?_) | (refine SW.seq_k fun K hK => ?_) | (refine SW.region ?_; try simp only [go_sem, hD, true_implies]) | (apply hK; clear hK K)
    refine Stop.mk ?_
    have hf1 : ¬ g' = b := hfr.1.2
    simp only [go_sem, hD, hf1]
    (first | apply hK | (clear hK K; apply hK) | (clear hK K; clear hK K; apply hK)); clear hK K
    repeat' first | (refine SW.seq_k fun K hK => ?_) | ((first | refine SW.region ?_ | refine SW.ret ?_); try simp only [go_sem, hD]) | (apply hK; clear hK K)
    refine retQ_le (S' := ⟨_, (b, .svs [.op b 0, .ot g' s.data.toList.length 5]) :: (g', blk') :: h0⟩) (St.le_perm (List.Perm.swap ..)) ?_
    simp only [resL_tmp, resL_nil, tupOf, go_sem, hD]
    refine .inr ⟨by rw [List.nil_append] at hne; exact hne, g', blk', hfr.2, hf1, hcl, rfl⟩
  · have hgb : ¬ b = g := fun x => hg x.symm
    have hb1 : (l.length + s.data.toList.length) * 1 ≤ 140737488355328 := by omega
    have hn1 : l.length + s.data.toList.length ≤ 140737488355328 := by omega
    have hfd : Heap.find ((b, Blk.svs [.op b 0, .ot g l.length 5]) :: (g, blk) :: h0) g = some blk := by rw [find_cons, if_neg hgb, find_cons, if_pos rfl]
    refine Call.enter' (N := 19) (rs := [.tmp 4, .tmp 5]) Tryz.func139 rfl rfl rfl (by decide) rfl ?_; simp only [argT]; have hD : (0 : Nat) = 0 := rfl
    repeat' first | (with_reducible refine Call.mono (copy_used b (SV.ot g l.length 5) ((g, blk) :: h0)) ?_; intro r h' hx; obtain ⟨rfl, rfl⟩ := hx) | (with_reducible refine appK_ot (l2 := s.data.toList) (blk := blk) (src_str _ _) (src_ok _ _) hfd hc hz1 hb1 hn1 ?_; intro g' blk' hfr hcl; refine stop_i ?_) | (refine SW.seq_k fun K hK => ?_) | (refine SW.region ?_; try simp only [go_sem, hD, true_implies, hgb]) | (apply hK; clear hK K)
    refine Stop.mk ?_
    rw [del_cons, if_neg hgb, del_cons, if_pos rfl] at hfr
    have hf1 : ¬ g' = b := hfr.1.2
    have hf2 : ¬ b = g' := hfr.1.1
    simp only [go_sem, hD, hf1, hf2, hgb]
    (first | apply hK | (clear hK K; apply hK) | (clear hK K; clear hK K; apply hK)); clear hK K
    repeat' first | (refine SW.seq_k fun K hK => ?_) | ((first | refine SW.region ?_ | refine SW.ret ?_); try simp only [go_sem, hD]) | (apply hK; clear hK K)
    refine retQ_ret ?_
    simp only [resL_tmp, resL_nil, tupOf, go_sem, hD]
    refine .inr ⟨hne, g', blk', hfr.2, hf1, hcl, by rw [List.length_append]⟩
end Go.Proofs.YtpidncgibgiidaaGreat
namespace Go.Ab.A15
def Agr {α : Type} (z : α) (a b : List Int) (x y : List α) : Prop := ∀ i, i < a.length → x.getD (a.getD i 0).toNat z = y.getD (b.getD i 0).toNat z
end Go.Ab.A15
namespace Go.Ab.A15
open Go Go.Ab Go.Ab.A34 Go.Ab.A01
def kL (v : V3) : List UInt8 := keyL v.1 v.2.1 v.2.2
def catK (r : R3) (a : List Int) : List UInt8 := a.flatMap fun x => kL (r.2.getD x.toNat v0)
def inV (v : V3) : Prop := -9223372036854775808 ≤ v.2.1 ∧ v.2.1 ≤ 9223372036854775807
structure OkR (r : R3) : Prop where
  v : ∀ v ∈ r.2, okV v = true
  n : ∀ v ∈ r.2, inV v
theorem kL_len {v : V3} (h : okV v = true) : 1 ≤ (kL v).length ∧ (kL v).length ≤ 500 := by
  have h2 : v.2.2.data.toList.length = v.2.2.size := Array.length_toList
  have h3 := okV_size h
  have h4 := num8_len v.2.1
  have h5 : ∀ l : List UInt8, (escL l).length ≤ 2 * l.length := fun l => by
    induction l with
    | nil => exact Nat.le_refl _
    | cons c l ih =>
      rw [escL_cons, List.length_append, List.length_cons]
      split <;> simp <;> omega
  have h6 := h5 v.2.2.data.toList
  unfold kL keyL
  rw [List.length_cons]
  split
  · omega
  · split
    · rw [List.length_append]
      simp
      omega
    · simp
theorem kL_inj {v w : V3} {x y : List UInt8} (hv : okV v = true) (hw : okV w = true) (nv : inV v) (nw : inV w) (h : kL v ++ x = kL w ++ y) : v = w ∧ x = y := by
  have e1 := from_key (k := v.1) (n := v.2.1) (t := v.2.2) hv nv x
  have e2 := from_key (k := w.1) (n := w.2.1) (t := w.2.2) hw nw y
  have h' : keyL v.1 v.2.1 v.2.2 ++ x = keyL w.1 w.2.1 w.2.2 ++ y := h
  rw [h', e2] at e1
  have e : v = w := by
    simp only [Prod.mk.injEq] at e1
    obtain ⟨⟨a1, a2, a3⟩, _⟩ := e1
    obtain ⟨k, n, t⟩ := v
    obtain ⟨k', n', t'⟩ := w
    simp only at a1 a2 a3
    rw [a1, a2, a3]
  subst e
  exact ⟨rfl, List.append_cancel_left h⟩
theorem catK_inj {r q : R3} (hr : OkR r) (hq : OkR q) : ∀ {a b : List Int}, a.length = b.length → (∀ x ∈ a, 0 ≤ x ∧ x < r.2.length) → (∀ x ∈ b, 0 ≤ x ∧ x < q.2.length) → (catK r a = catK q b ↔ Agr v0 a b r.2 q.2)
  | [], [], _, _, _ => ⟨fun _ i hi => absurd hi (Nat.not_lt_zero _), fun _ => rfl⟩
  | [], _ :: _, h, _, _ => by simp at h
  | _ :: _, [], h, _, _ => by simp at h
  | x :: a, y :: b, h, ha, hb => by
    have hx := ha x List.mem_cons_self
    have hy := hb y List.mem_cons_self
    have mx : r.2.getD x.toNat v0 ∈ r.2 := getD_mem v0 (by omega)
    have my : q.2.getD y.toNat v0 ∈ q.2 := getD_mem v0 (by omega)
    have ih := catK_inj hr hq (a := a) (b := b) (by simpa using h) (fun z hz => ha z (List.mem_cons_of_mem _ hz)) (fun z hz => hb z (List.mem_cons_of_mem _ hz))
    have ex : catK r (x :: a) = kL (r.2.getD x.toNat v0) ++ catK r a := by unfold catK; rw [List.flatMap_cons]
    have ey : catK q (y :: b) = kL (q.2.getD y.toNat v0) ++ catK q b := by unfold catK; rw [List.flatMap_cons]
    rw [ex, ey]
    constructor
    · intro e
      obtain ⟨e1, e2⟩ := kL_inj (hr.v _ mx) (hq.v _ my) (hr.n _ mx) (hq.n _ my) e
      have h2 := ih.1 e2
      intro i hi
      cases i with
      | zero => simpa using e1
      | succ i =>
        have := h2 i (by simpa using hi)
        simpa using this
    · intro hA
      have h0 := hA 0 (by simp)
      simp only [List.getD_cons_zero] at h0
      rw [h0, ih.2 fun i hi => by
        have := hA (i + 1) (by simpa using hi)
        simpa using this]
theorem catK_take (r : R3) (a : List Int) (i : Nat) (h : i < a.length) : catK r (a.take (i + 1)) = catK r (a.take i) ++ kL (r.2.getD (a.getD i 0).toNat v0) := by
  have g : a.getD i 0 = a[i] := by simp [List.getD_eq_getElem?_getD, h]
  unfold catK
  rw [List.take_succ_eq_append_getElem h, List.flatMap_append, g]
  simp
theorem catK_len {r : R3} (hr : OkR r) {a : List Int} (ha : ∀ x ∈ a, 0 ≤ x ∧ x < r.2.length) : (catK r a).length ≤ 500 * a.length := by
  unfold catK
  induction a with
  | nil => exact Nat.le_refl _
  | cons x a ih =>
    have hx := ha x List.mem_cons_self
    have := (kL_len (hr.v _ (getD_mem v0 (show x.toNat < r.2.length by omega)))).2
    have := ih fun z hz => ha z (List.mem_cons_of_mem _ hz)
    rw [List.flatMap_cons, List.length_append, List.length_cons]
    omega
end Go.Ab.A15
namespace Go.Proofs.YtpidncgibgiidaaGreat
open Go Go.Ab Go.Ab.A34 Go.Ab.A15 Go.Ab.A01
variable [Gl] [Tabs]
theorem key_v (v : V3) (h : okV v = true) (hn : inV v) : PCall Tryz.prog 138 [VV v] (.tup [Str (mkB (kL v)), I64 0]) := by
  obtain ⟨k, n, s⟩ := v
  have hv : vok k n s = true := h
  have hem : emp s = true → s = ⟨#[]⟩ := fun h => barr_eq.1 h
  rcases vok_kind hv with rfl | rfl | ⟨rfl, h2⟩ | rfl
  · have h1 : n = 0 ∧ s = ⟨#[]⟩ := by
      unfold vok at hv
      simp only [Bool.and_eq_true, decide_eq_true_eq, if_true] at hv
      exact ⟨hv.1, hem hv.2⟩
    obtain ⟨rfl, rfl⟩ := h1
    exact key_null
  · have h1 : s = ⟨#[]⟩ := by
      unfold vok at hv
      exact hem (by simpa using hv)
    subst h1
    exact key_num 1 n hn (.inl rfl) hv
  · have h1 : n = 0 := by
      unfold vok at hv
      simp at hv
      exact hv.1
    subst h1
    exact key_text s h2 hv
  · have h1 : s = ⟨#[]⟩ := by
      unfold vok at hv
      simp at hv
      exact hem hv.2
    subst h1
    exact key_num 3 n hn (.inr rfl) hv
theorem key_p (r : R3) (a : List Int) (hr : OkR r) (ha : ∀ x ∈ a, 0 ≤ x ∧ x < r.2.length) (hal : a.length ≤ 1000) : PCall Tryz.prog 107 [.agg [I64 r.1, VL r.2], IL a] (Str (mkB (catK r a))) := by
  have hlen := catK_len hr ha
  obtain ⟨id, vs⟩ := r
  simp only at ha
  refine Call.enter' (N := 29) (rs := [.tmp 4]) Tryz.func107 rfl rfl rfl (by decide) rfl ?_; simp only [argT]; have hD : (0 : Nat) = 0 := rfl
  repeat' first | (refine SW.seq_k fun K hK => ?_) | (refine SW.block ?_) | ((first | refine SW.region ?_ | (refine allF_i fun b hb => ?_; replace hD := And.intro hb hD; clear hb; try simp only [fresh_cons, fresh_nil, and_true, ne_eq, neF] at hD)); try simp only [go_sem, hD, true_implies]) | (apply hK; clear hK K)
  obtain ⟨bb, rfl⟩ : ∃ x, x = b := ⟨_, rfl⟩
  obtain ⟨b2, rfl⟩ : ∃ x, x = b := ⟨_, rfl⟩
  refine Ab.SW.le (S' := ⟨[(1, IL a), (2, .fp [I64 id, VL vs]), (5, BP bb), (4, Str ⟨#[]⟩), (10, IL a), (11, I64 a.length), (12, I64 (0 : Nat))], [(bb, .svs [.sc (.pointer none), .nt])]⟩) ?_ ?_
  · refine St.le.trans (St.le_freezeP (i := 2) (b := b2) (off := 0) (n := 2) (k := .svs [I64 id, VL vs]) rfl (by simp [find_cons, hD]) (by exact Nat.le_refl 2)) ?_
    simp only [getN, Blk.get, go_sem, hD]
    exact St.le_sub (by repeat' (first | exact rfl | exact trivial | constructor))
  clear hD
  have hD : (0 : Nat) = 0 := rfl
  obtain ⟨I, hI⟩ : ∃ I : Nat → St → Prop, ∀ k S, I k S ↔ (∃ (i : Nat) (h : Heap), k = a.length - i ∧ i ≤ a.length ∧ BH bb (catK (id, vs) (a.take i)) h [] ∧ S = ⟨[(1, IL a), (2, .fp [I64 id, VL vs]), (5, BP bb), (4, Str ⟨#[]⟩), (10, IL a), (11, I64 a.length), (12, I64 i)], h⟩) := ⟨fun k S => _, fun _ _ => Iff.rfl⟩
  refine SW.loop' I (a.length) ((hI _ _).2 ⟨0, _, rfl, Nat.zero_le _, .inl ⟨rfl, rfl⟩, rfl⟩) (by repeat' (first | exact rfl | exact trivial | constructor)) ?_
  intro k S hIn
  obtain ⟨i, h, rfl, hi, hB, rfl⟩ := (hI _ _).1 hIn
  clear hIn
  have ie : ((i : Nat) : Int).toNat = i := Int.toNat_natCast _
  have i0 : (0 : Int) ≤ ((i : Nat) : Int) := by omega
  by_cases hlt : i < a.length
  · have hli : ((i : Nat) : Int) < (((a.length) : Nat) : Int) := by omega
    have w1 : IntKind.i64.wrap ((i : Int) + 1) = ((i + 1 : Nat) : Int) := by rw [i64_wrap (by omega) (by omega)]; omega
    have fa : iF a i = [I64 (a.getD i 0)] := rfl
    have hx := ha _ (getD_mem' 0 hlt)
    have hst := catK_take (id, vs) a i hlt
    have hcl := catK_len hr (a := a.take i) (fun x hx => ha x (List.mem_of_mem_take hx))
    rw [List.length_take] at hcl
    generalize a.getD i 0 = x at *
    obtain ⟨x0, x1⟩ := hx
    have mx : vs.getD x.toNat v0 ∈ vs := getD_mem v0 (by omega)
    have fv : vF vs x.toNat = vC (vs.getD x.toNat v0) := rfl
    have kv := key_v _ (hr.v _ mx) (hr.n _ mx)
    have hkl := kL_len (hr.v _ mx)
    simp only at hst
    generalize vs.getD x.toNat v0 = v at *
    obtain ⟨v1, v2, v3⟩ := v
    have hms := mkB_size (kL (v1, v2, v3))
    have ws := wstr_c bb _ h [] hB trivial (mkB (kL (v1, v2, v3))) (by omega) (by omega)
    have hml : (mkB (kL (v1, v2, v3))).data.toList = kL (v1, v2, v3) := by simp [mkB]
    rw [hml, ← hst] at ws
    generalize mkB (kL (v1, v2, v3)) = m at *
    clear hB
    repeat' first | ((with_reducible refine Call.mono ws ?_); intro r h' hx; obtain ⟨rfl, hB2⟩ := hx; (try simp only [go_sem, hD])) | (refine SW.seq_k fun K hK => ?_) | (refine SW.block ?_) | ((first | refine SW.region ?_ | refine SW.cond ?_ | refine SW.skip ?_ | refine Call.of_pure (kv) ?_); try simp only [go_sem, hD, hli, ie, i0, w1, fa, x0, x1, fv, true_implies]) | (apply hK; clear hK K)
    refine Rnd.sub (a.length - (i + 1)) (by omega) ((hI _ _).2 ⟨i + 1, h', rfl, by omega, hB2, rfl⟩) (by repeat' (first | exact rfl | exact trivial | constructor))
  · have hli : ¬ ((i : Nat) : Int) < (((a.length) : Nat) : Int) := by omega
    obtain rfl : i = a.length := by omega
    rw [List.take_length] at hB
    have hll : (catK (id, vs) a).length ≤ 1000000 := by omega
    generalize catK (id, vs) a = l at *
    rcases hB with ⟨rfl, rfl⟩ | ⟨hl, g, blk, hf, hg, hc, rfl⟩
    · have cs := string_n bb (.sc (.pointer none)) []
      repeat' first | ((with_reducible refine Call.mono cs ?_); intro r h' hx; obtain ⟨rfl, rfl⟩ := hx; (try simp only [go_sem, hD])) | (refine SW.seq_k fun K hK => ?_) | ((first | refine SW.region ?_ | refine SW.cond ?_ | refine SW.exit ?_ | refine SW.ret ?_); try simp only [go_sem, hD, hli, true_implies]) | (apply hK; clear hK K) | (clear hK K; apply hK; clear hK K)
      refine ret_pure ?_; simp only [resL_tmp, resL_nil, tupOf, go_sem, hD]
      rfl
    · have cs := string_c bb g (.op bb 0) blk l hl hll hc []
      repeat' first | ((with_reducible refine Call.mono cs ?_); intro r h' hx; obtain ⟨rfl, rfl⟩ := hx; (try simp only [go_sem, hD])) | (refine SW.seq_k fun K hK => ?_) | ((first | refine SW.region ?_ | refine SW.cond ?_ | refine SW.exit ?_ | refine SW.ret ?_); try simp only [go_sem, hD, hli, true_implies]) | (apply hK; clear hK K) | (clear hK K; apply hK; clear hK K)
      refine ret_pure ?_; simp only [resL_tmp, resL_nil, tupOf, go_sem, hD]
      rfl
end Go.Proofs.YtpidncgibgiidaaGreat
namespace Go.Ab
theorem cmpV_zero {k n : Int} {s : ByteArray} {k' n' : Int} {s' : ByteArray} : cmpV k n s k' n' s' = 0 ↔ k = k' ∧ n = n' ∧ s = s' := by
  unfold cmpV
  constructor
  · intro h
    split at h
    · rename_i h1
      split at h
      · rename_i h2
        refine ⟨sgn_zero.1 h1, sgn_zero.1 h2, ?_⟩
        rcases cb_cases s.data.toList s'.data.toList with h3 | ⟨_, h3⟩ | h3
        · omega
        · cases s; cases s'; simp only at h3; rw [Array.toList_inj.1 h3]
        · omega
      · rename_i h2; exact absurd h h2
    · rename_i h1; exact absurd h h1
  · rintro ⟨rfl, rfl, rfl⟩
    rw [if_pos (sgn_zero.2 rfl), if_pos (sgn_zero.2 rfl)]
    rcases cb_cases s.data.toList s.data.toList with h3 | ⟨h3, _⟩ | h3
    · have h4 : ∀ l : List UInt8, Lib.compareBytes l l = 0 := fun l => by
        induction l with
        | nil => rfl
        | cons c l ih => unfold Lib.compareBytes; simp [ih]
      exact h4 _
    · exact h3
    · have h4 : ∀ l : List UInt8, Lib.compareBytes l l = 0 := fun l => by
        induction l with
        | nil => rfl
        | cons c l ih => unfold Lib.compareBytes; simp [ih]
      exact h4 _
end Go.Ab
namespace Go.Ab.A15
open Go Go.Ab Go.Ab.A34
def agB (a b : List Int) (x y : List V3) : Bool := (List.range a.length).all fun i => decide (x.getD (a.getD i 0).toNat v0 = y.getD (b.getD i 0).toNat v0)
theorem agB_iff {a b : List Int} {x y : List V3} : agB a b x y = true ↔ Agr v0 a b x y := by
  unfold agB Agr
  simp [List.all_eq_true]
def violP (F T : List R3) (a b : List Int) (i : Nat) : List Int := ((F.take i).filter fun x => !(T.any fun y => agB a b x.2 y.2)).map (·.1)
def violS (F T : List R3) (a b : List Int) : List Int := violP F T a b F.length
theorem violP_succ {F T : List R3} {a b : List Int} {i : Nat} (h : i < F.length) : violP F T a b (i + 1) = if (T.any fun y => agB a b (F.getD i r0).2 y.2) = true then violP F T a b i else violP F T a b i ++ [(F.getD i r0).1] := by
  have g : F.getD i r0 = F[i] := by simp [List.getD_eq_getElem?_getD, h]
  unfold violP
  rw [List.take_succ_eq_append_getElem h, List.filter_append, List.map_append, g]
  by_cases hc : (T.any fun y => agB a b F[i].2 y.2) = true
  · rw [if_pos hc]; simp [hc]
  · rw [if_neg hc]; simp [hc]
theorem violP_len (F T : List R3) (a b : List Int) (i : Nat) : (violP F T a b i).length ≤ i := by
  unfold violP
  rw [List.length_map]
  refine Nat.le_trans (List.length_filter_le _ _) ?_
  rw [List.length_take]
  omega
end Go.Ab.A15
namespace Go.Proofs.YtpidncgibgiidaaGreat
open Go Go.Ab Go.Ab.A34 Go.Ab.A15
variable [Gl] [Tabs]
end Go.Proofs.YtpidncgibgiidaaGreat
namespace Go.Ab.A15
open Go Go.Ab Go.Ab.A34
def vE (db : List Tb) (d : Dp) : Int := if ¬ chkS db = 0 then chkS db else fitsS db d
def rowsAt (db : List Tb) (x : ByteArray) : List R3 := (db.getD (idxN x (nmsOf db)) t0).rows
def OkN (db : List Tb) : Prop := ∀ t ∈ db, ∀ r ∈ t.rows, ∀ v ∈ r.2, inV v
theorem vE_ok {db : List Tb} {d : Dp} (h : vE db d = 0) : Vdb db ∧ Fit (nmsOf db) (nsOf db) d := by
  unfold vE at h
  by_cases h1 : chkS db = 0
  · rw [if_neg (fun x => x h1)] at h
    exact ⟨chkS_ok h1, fits_ok h⟩
  · rw [if_pos h1] at h
    exact absurd h h1
structure RowsK (db : List Tb) (x : ByteArray) (R : List R3) : Prop where
  n : R.length ≤ 1000
  l : ∀ r ∈ R, r.2.length = (nsOf db).getD (idxN x (nmsOf db)) 0
  v : ∀ r ∈ R, ∀ v ∈ r.2, okV v = true
theorem rows_k {db : List Tb} (V : Vdb db) {x : ByteArray} (h : x ∈ nmsOf db) : RowsK db x (rowsAt db x) := by
  have hl := idxN_lt h
  have hl2 : idxN x (nmsOf db) < db.length := by unfold nmsOf at hl; rwa [List.length_map] at hl
  have hv := valid_rows (V.v _ (getD_mem' t0 hl2))
  have hns : (nsOf db).getD (idxN x (nmsOf db)) 0 = (db.getD (idxN x (nmsOf db)) t0).attrs.length := by
    unfold nsOf
    simp [List.getD_eq_getElem?_getD, hl2]
  exact ⟨hv.1, fun r hr => by rw [hns]; exact (hv.2.2 r hr).1, fun r hr => (hv.2.2 r hr).2⟩
theorem rows_n {db : List Tb} (hn : OkN db) {x : ByteArray} (h : x ∈ nmsOf db) : ∀ r ∈ rowsAt db x, ∀ v ∈ r.2, inV v := by
  have hl := idxN_lt h
  have hl2 : idxN x (nmsOf db) < db.length := by unfold nmsOf at hl; rwa [List.length_map] at hl
  exact hn _ (getD_mem' t0 hl2)
end Go.Ab.A15
namespace Go.Proofs.YtpidncgibgiidaaGreat
open Go Go.Ab Go.Ab.A34 Go.Ab.A15
variable [Gl] [Tabs]
end Go.Proofs.YtpidncgibgiidaaGreat
