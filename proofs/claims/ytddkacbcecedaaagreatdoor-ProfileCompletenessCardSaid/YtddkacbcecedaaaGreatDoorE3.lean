/- Contracts: what Format writes. -/
import Derived.Test.YtddkacbcecedaaaGreatDoorE2
import Derived.Test.YtddkacbcecedaaaGreatDoorR7
set_option linter.unusedSimpArgs false
set_option linter.unusedVariables false
set_option linter.unusedSectionVars false
namespace Go.Ab.A34
open Go Go.Ab Go.Proofs
def sp (s : ByteArray) : ByteArray := ⟨#[32]⟩ ++ s ++ ⟨#[32]⟩
def numS (s : ByteArray) (n : Int) : ByteArray := sp s ++ itoaS n
def txtS (s : ByteArray) (v : V3) : ByteArray := sp s ++ (fmtV v.1 v.2.1 v.2.2).1
end Go.Ab.A34
namespace Go.Proofs.YtddkacbcecedaaaGreatDoor
open Go Go.Ab Go.Ab.A34 Go.Ab.A01
variable [Gl] [Tabs]

/-- A builder that was written to, ahead of other blocks. -/
abbrev WB (b g : Nat) (blk : Blk) (l : List UInt8) (hr : Heap) : Heap := (b, .svs [.op b 0, .ot g l.length 5]) :: (g, blk) :: hr
/-- What a builder holds behind a call. -/
def WQ (b : Nat) (l : List UInt8) (s : ByteArray) (hr h' : Heap) : Prop := ∃ g blk l', fresh hr g ∧ ¬ g = b ∧ ¬ b = g ∧ blk.cells = byts l' ∧ l' ≠ [] ∧ l' = l ++ s.data.toList ∧ l'.length ≤ l.length + 2000 ∧ h' = WB b g blk l' hr
theorem wr_c (b g : Nat) (blk : Blk) (l : List UInt8) (hr : Heap) (f1 : fresh hr g) (f2 : ¬ g = b) (f3 : blk.cells = byts l) (hl : l ≠ []) (hb : fresh hr b) (s : ByteArray) (h1 : 1 ≤ s.size) (h2 : s.size ≤ 2000) (hs : l.length ≤ 900000) :
    Ab.Call Tryz.prog 16 [BP b, Str s] (WB b g blk l hr) (fun r h' => r = .tup [I64 s.size, .sc .nilIface] ∧ WQ b l s hr h') := by
  refine Call.mono (wstr_c b l _ hr (.inr ⟨hl, g, blk, f1, f2, f3, rfl⟩) hb s h1 (by omega)) fun r h' ⟨e, hB⟩ => ⟨e, ?_⟩
  rcases hB with ⟨e, _⟩ | ⟨kn, g', blk', k1, k2, k3, rfl⟩
  · exact absurd (List.append_eq_nil_iff.1 e).1 hl
  · exact ⟨g', blk', _, k1, k2, fun e => k2 e.symm, k3, kn, rfl, by rw [List.length_append, len_list]; omega, rfl⟩
theorem wr_n (b : Nat) (hr : Heap) (hb : fresh hr b) (s : ByteArray) (h1 : 1 ≤ s.size) (h2 : s.size ≤ 2000) :
    Ab.Call Tryz.prog 16 [BP b, Str s] ((b, .svs [.sc (.pointer none), .nt]) :: hr) (fun r h' => r = .tup [I64 s.size, .sc .nilIface] ∧ WQ b [] s hr h') := by
  refine Call.mono (wstr_c b [] _ hr (.inl ⟨rfl, rfl⟩) hb s h1 (by rw [List.length_nil]; omega)) fun r h' ⟨e, hB⟩ => ⟨e, ?_⟩
  rcases hB with ⟨e, _⟩ | ⟨kn, g', blk', k1, k2, k3, rfl⟩
  · exfalso
    have := congrArg List.length e
    rw [List.nil_append, len_list, List.length_nil] at this
    omega
  · exact ⟨g', blk', _, k1, k2, fun e => k2 e.symm, k3, kn, rfl, by rw [List.length_append, len_list]; omega, rfl⟩

theorem St.le_del' {t : List (Nat × SV)} {h h' : Heap} {b : Nat} (e : h.del b = h') : (St.mk t h).le ⟨t, h'⟩ := e ▸ St.le_del
theorem num_size (s : ByteArray) (n : Int) (h : In64 n) (hs : s.size ≤ 100) : 1 ≤ (numS s n).size ∧ (numS s n).size ≤ 2000 := by
  have := itoaS_size n h
  unfold numS sp
  simp only [ByteArray.size_append]
  have e : (⟨#[32]⟩ : ByteArray).size = 1 := rfl
  omega
set_option maxHeartbeats 1000000 in
set_option maxRecDepth 20000 in
theorem num_c (b g : Nat) (blk : Blk) (l : List UInt8) (hr : Heap) (f1 : fresh hr g) (f2 : ¬ g = b) (f3 : blk.cells = byts l) (hl : l ≠ []) (hb : fresh hr b) (s : ByteArray) (n : Int) (h1 : s.size ≤ 100) (h2 : In64 n) (hs : l.length ≤ 900000) :
    Ab.Call Tryz.prog 17 [Str s, I64 n, BP b] (WB b g blk l hr) (fun r h' => r = .tup [] ∧ WQ b l (numS s n) hr h') := by
  have it := itoa_c n h2
  have hz := num_size s n h2 h1
  have hiz := itoaS_size n h2
  have wr := wr_c b g blk l hr f1 f2 f3 hl hb (numS s n) hz.1 hz.2 hs
  unfold numS sp at wr
  refine Call.enter' (N := 12) (rs := []) Tryz.func17 rfl rfl rfl (by decide) rfl ?_; simp only [argT]; have hD : (0 : Nat) = 0 := rfl
  repeat' first | (with_reducible refine Call.mono wr ?_; intro r h' hx; obtain ⟨rfl, hB⟩ := hx) | (with_reducible refine And.intro (by omega) ?_) | (refine SW.seq_k fun K hK => ?_) | (refine SW.block ?_) | ((first | refine SW.region ?_ | refine SW.regionD (Checked.mixed Tryz.checked) (by kernel_rfl) ?_ | refine SW.cond ?_ | refine SW.skip ?_ | refine SW.exit ?_ | refine SW.ret ?_ | refine Call.of_pure (it) ?_ | refine ⟨_, it, ?_⟩ | (refine allF_i fun b hb => ?_; replace hD := And.intro hb hD; clear hb; try simp only [fresh_cons, fresh_nil, and_true, ne_eq, neF] at hD) | simp only [appK, appOsK]); try simp only [go_sem, hD, true_implies]) | (refine And.intro (by omega) ?_) | (refine ifI (fun hc => ?_) (fun hc => ?_) <;> first | (exfalso; omega) | skip) | ((first | apply hK | ((iterate 1 (clear hK K)); apply hK) | ((iterate 2 (clear hK K)); apply hK) | ((iterate 3 (clear hK K)); apply hK) | ((iterate 4 (clear hK K)); apply hK) | ((iterate 5 (clear hK K)); apply hK)); clear hK K)
  refine retQ_n (retQ_ret ?_)
  simp only [resL_tmp, resL_nil, tupOf, go_sem, hD]
  exact hB
theorem quote1_len (c : UInt8) : (quote1 c).length ≤ 4 := by
  unfold quote1
  repeat' split
  all_goals simp
theorem quoteL_len (l : List UInt8) : (quoteL l).length ≤ 4 * l.length + 2 := by
  have h : ∀ l : List UInt8, (l.flatMap quote1).length ≤ 4 * l.length := fun l => by
    induction l with
    | nil => simp
    | cons c l ih =>
      have := quote1_len c
      rw [List.flatMap_cons, List.length_append, List.length_cons]
      omega
  have := h l
  unfold quoteL
  rw [List.length_cons, List.length_append, List.length_cons, List.length_nil]
  omega
theorem fmt_size (v : V3) (hv : okV v = true) (hn : In64 v.2.1) : (fmtV v.1 v.2.1 v.2.2).1.size ≤ 1000 := by
  have h1 := itoaS_size v.2.1 hn
  have h2 := okV_size hv
  have h3 := quoteL_len v.2.2.data.toList
  rw [len_list] at h3
  unfold okV at hv
  unfold fmtV
  rw [if_pos hv]
  unfold fmtS
  simp only
  split
  · decide
  · split
    · omega
    · split
      · show (mkB _).size ≤ 1000
        have : (mkB (quoteL v.2.2.data.toList)).size = (quoteL v.2.2.data.toList).length := by rw [← len_list]; simp [mkB]
        omega
      · rw [ByteArray.size_append]
        have e : (⟨#[63]⟩ : ByteArray).size = 1 := rfl
        omega
set_option maxHeartbeats 1000000 in
set_option maxRecDepth 20000 in
theorem txt_c (b g : Nat) (blk : Blk) (l : List UInt8) (hr : Heap) (f1 : fresh hr g) (f2 : ¬ g = b) (f3 : blk.cells = byts l) (hl : l ≠ []) (hb : fresh hr b) (s : ByteArray) (v : V3) (h1 : s.size ≤ 100) (hv : okV v = true) (hn : In64 v.2.1) (hs : l.length ≤ 900000) :
    Ab.Call Tryz.prog 19 [Str s, VV v, BP b] (WB b g blk l hr) (fun r h' => r = .tup [] ∧ WQ b l (txtS s v) hr h') := by
  have fm := format_p v.1 v.2.1 v.2.2 hn
  have hz : 1 ≤ (txtS s v).size ∧ (txtS s v).size ≤ 2000 := by
    have := fmt_size v hv hn
    unfold txtS sp
    simp only [ByteArray.size_append]
    have e : (⟨#[32]⟩ : ByteArray).size = 1 := rfl
    omega
  have hfz := fmt_size v hv hn
  have wr := fun vb (hvb : fresh (WB b g blk l hr) vb) => wr_c b g blk l ((vb, .svs (vC v)) :: hr) ⟨⟨hvb.2.1.2, hvb.2.1.1⟩, f1⟩ f2 f3 hl ⟨⟨hvb.1.2, hvb.1.1⟩, hb⟩ (txtS s v) hz.1 hz.2 hs
  unfold txtS sp at wr
  obtain ⟨k, n, t⟩ := v
  simp only at fm wr hfz
  have htx : txtS s (k, n, t) = ⟨#[32]⟩ ++ s ++ ⟨#[32]⟩ ++ (fmtV k n t).1 := rfl
  generalize fmtV k n t = F at *
  obtain ⟨F1, F2⟩ := F
  refine Call.enter' (N := 18) (rs := []) Tryz.func19 rfl rfl rfl (by decide) rfl ?_; simp only [argT]; have hD : (0 : Nat) = 0 := rfl
  repeat' first | (with_reducible refine And.intro (by omega) ?_) | (refine SW.seq_k fun K hK => ?_) | (refine SW.block ?_) | ((first | refine SW.region ?_ | refine SW.regionD (Checked.mixed Tryz.checked) (by kernel_rfl) ?_ | refine SW.cond ?_ | refine SW.skip ?_ | refine SW.exit ?_ | refine SW.ret ?_ | refine Call.of_pure (fm) ?_ | refine ⟨_, fm, ?_⟩ | (refine allF_i fun b hb => ?_; replace hD := And.intro hb hD; clear hb; try simp only [fresh_cons, fresh_nil, and_true, ne_eq, neF] at hD) | simp only [appK, appOsK]); try simp only [go_sem, hD, true_implies]) | (refine And.intro (by omega) ?_) | (refine ifI (fun hc => ?_) (fun hc => ?_) <;> first | (exfalso; omega) | skip) | ((first | apply hK | ((iterate 1 (clear hK K)); apply hK) | ((iterate 2 (clear hK K)); apply hK) | ((iterate 3 (clear hK K)); apply hK) | ((iterate 4 (clear hK K)); apply hK) | ((iterate 5 (clear hK K)); apply hK)); clear hK K)
  obtain ⟨vb, rfl⟩ : ∃ x, x = b := ⟨_, rfl⟩
  have hvb : fresh (WB b g blk l hr) vb := by simp only [WB, fresh_cons, ne_eq]; simp [hD]
  have P : (WB b g blk l ((vb, Blk.svs (vC (k, n, t))) :: hr)).Perm ((vb, Blk.svs (vC (k, n, t))) :: WB b g blk l hr) := (List.Perm.cons _ (List.Perm.swap ..)).trans (List.Perm.swap ..)
  refine ⟨by simp only at hfz; omega, Call.perm (Call.mono (wr vb hvb) ?_) (fun x => P.mem_iff) (fun hn => (P.map _).nodup_iff.2 hn)⟩
  intro r h' hx
  obtain ⟨rfl, g', blk', l', k1, k2, k3, k4, kn, k5, k6, rfl⟩ := hx
  have e1 : ¬ b = vb := hvb.1.1
  have e2 : ¬ g' = vb := k1.1.2
  refine retQ_n (retQ_le (St.le_del' (b := vb) (h' := WB b g' blk' l' hr) ?_) ?_)
  · simp only [WB, del_cons, e1, e2, if_false, if_true]
  · simp only [resL_tmp, resL_nil, tupOf, go_sem, hD]
    exact ⟨g', blk', l', k1.2, k2, k3, k4, kn, by rw [k5, htx], k6, rfl⟩
end Go.Proofs.YtddkacbcecedaaaGreatDoor
