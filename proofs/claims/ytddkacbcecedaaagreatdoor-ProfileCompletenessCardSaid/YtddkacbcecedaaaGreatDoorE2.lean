/- Contracts: a builder of bytes: WriteString, WriteByte, Len. -/
import Derived.Test.YtddkacbcecedaaaGreatDoorE1
import Derived.Test.YtddkacbcecedaaaGreatDoorH7
import Derived.Test.YtddkacbcecedaaaGreatDoorZ10
set_option linter.unusedSimpArgs false
set_option linter.unusedVariables false
set_option linter.unusedSectionVars false
namespace Go.Ab
open Go Go.RowKit
section
variable {P : Program} {K : St → Prop} {t : List (Nat × SV)} {h h0 : Heap}
theorem len_nt {st : Bool} {L : TypeId × Nat × Nat} {A : Option (Nat × Nat)} : lenSV st (some L) A .nt = .ok True (.sc (.int .i64 0)) := rfl
theorem len_ot {st : Bool} {L : TypeId × Nat × Nat} {A : Option (Nat × Nat)} {b n : Nat} {e : TypeId} : lenSV st (some L) A (.ot b n e) = .ok True (.sc (.int .i64 n)) := rfl
theorem cells_nt : svCells .nt = some [.nt] := rfl
theorem cells_ot {b n : Nat} {e : TypeId} : svCells (.ot b n e) = some [.ot b n e] := rfl
theorem cells_opT {b n : Nat} {e : TypeId} : svCells (.opT b e n) = some [.opT b e n] := rfl
theorem single_nt : single .nt = true := rfl
theorem single_ot {b n : Nat} {e : TypeId} : single (.ot b n e) = true := rfl
theorem single_opT {b n : Nat} {e : TypeId} : single (.opT b e n) = true := rfl
attribute [go_sem] len_nt len_ot cells_nt cells_ot cells_opT single_nt single_ot single_opT
theorem byts_one (l : List UInt8) : (byts l).all single = true := by
  rw [List.all_eq_true]
  intro x hx
  simp only [byts, List.mem_map] at hx
  obtain ⟨c, _, rfl⟩ := hx
  rfl
theorem src_str (s : ByteArray) (h : Heap) : srcCells (.sc (.string s)) h = some (s.data.toList.length, byts s.data.toList) := by
  show some (s.size, _) = _
  rw [show s.data.toList.length = s.size from Array.length_toList]
  rfl
theorem src_ok (s : ByteArray) (h : Heap) : srcOk 1 (.sc (.string s)) h := by
  unfold srcOk
  rfl
/-- Bytes are appended to a builder's bytes. -/
theorem appK_ot [Gl] {g bytes e : Nat} {l l2 : List UInt8} {y : SV} {z : List Value} {d : Tmp} {blk : Blk} (hsrc : srcCells y h = some (l2.length, byts l2)) (hok : srcOk 1 y h) (hf : h.find g = some blk) (hc : blk.cells = byts l) (hz : z.length = 1)
    (hb : (l.length + l2.length) * bytes ≤ 140737488355328) (hn : l.length + l2.length ≤ 140737488355328)
    (hK : ∀ g' blk', fresh (h.del g) g' → blk'.cells = byts (l ++ l2) → K ⟨(d, .ot g' (l ++ l2).length e) :: t, h.ren g g' blk'⟩) :
    appK (some (e, 1, bytes)) (some z) true (.ot g l.length e) y (some d) K ⟨t, h⟩ := by
  unfold appK
  simp only [hsrc]
  refine ⟨trivial, hok, byts_one l2, hz, Nat.one_pos, ?_⟩
  unfold appOtK
  simp only [hf]
  refine ⟨trivial, trivial, by rw [← Blk.length_cells, hc]; simp [byts], hb, hn, fun g' hfr => ?_⟩
  rw [← List.length_append]
  exact hK g' _ hfr (by rw [appB_cells, hc]; simp [byts])
/-- Bytes are appended to a builder that has none. -/
theorem appK_nt [Gl] {bytes e : Nat} {l2 : List UInt8} {y : SV} {z : List Value} {d : Tmp} (hsrc : srcCells y h = some (l2.length, byts l2)) (hok : srcOk 1 y h) (hpos : 0 < l2.length) (hz : z.length = 1)
    (hb : l2.length * bytes ≤ 140737488355328) (hn : l2.length ≤ 140737488355328)
    (hK : ∀ g' blk', fresh h g' → blk'.cells = byts l2 → K ⟨(d, .ot g' l2.length e) :: t, (g', blk') :: h⟩) :
    appK (some (e, 1, bytes)) (some z) true .nt y (some d) K ⟨t, h⟩ := by
  unfold appK
  simp only [hsrc]
  refine ⟨trivial, hok, byts_one l2, hz, Nat.one_pos, ?_⟩
  unfold appNtK
  exact ⟨rfl, hb, hn, fun x => by omega, fun _ g' hfr => hK g' _ hfr (newB_cells _)⟩
end
end Go.Ab
namespace Go.Proofs.YtddkacbcecedaaaGreatDoor
open Go Go.Ab Go.Ab.A34
variable [Gl] [Tabs]
/-- A builder b with these bytes, ahead of other blocks. -/
def BH (b : Nat) (l : List UInt8) (h h0 : Heap) : Prop :=
  (l = [] ∧ h = (b, .svs [.sc (.pointer none), .nt]) :: h0) ∨
  (l ≠ [] ∧ ∃ g blk, fresh h0 g ∧ g ≠ b ∧ blk.cells = byts l ∧ h = (b, .svs [.op b 0, .ot g l.length 5]) :: (g, blk) :: h0)
abbrev BP (b : Nat) : SV := .opT b 60 2



set_option maxHeartbeats 1000000 in
set_option maxRecDepth 20000 in
theorem wstr_c (b : Nat) (l : List UInt8) (h h0 : Heap) (hB : BH b l h h0) (hf0 : fresh h0 b) (s : ByteArray) (h1 : 1 ≤ s.size) (hs : l.length + s.size ≤ 1000000) :
    Ab.Call Tryz.prog 16 [BP b, Str s] h (fun r h' => r = .tup [I64 s.size, .sc .nilIface] ∧ BH b (l ++ s.data.toList) h' h0) := by
  have hsl : s.size = s.data.toList.length := by rw [len_list]
  have hne : l ++ s.data.toList ≠ [] := fun e => by
    have := congrArg List.length e
    rw [List.length_append, List.length_nil] at this
    omega
  have hp1 : 0 < s.data.toList.length := by omega
  have hz1 : ([Value.int IntKind.u8 0] : List Value).length = 1 := rfl
  rcases hB with ⟨rfl, rfl⟩ | ⟨hl, g, blk, hf, hg, hc, rfl⟩
  · have hb1 : s.data.toList.length * 1 ≤ 140737488355328 := by omega
    have hn1 : s.data.toList.length ≤ 140737488355328 := by omega
    refine Call.enter' (N := 19) (rs := [.tmp 4, .tmp 5]) Tryz.func16 rfl rfl rfl (by decide) rfl ?_; simp only [argT]; have hD : (0 : Nat) = 0 := rfl
    repeat' first | (with_reducible refine Call.mono (copy_new b SV.nt h0) ?_; intro r h' hx; obtain ⟨rfl, rfl⟩ := hx) | (with_reducible refine appK_nt (l2 := s.data.toList) (src_str _ _) (src_ok _ _) hp1 hz1 hb1 hn1 ?_; intro g' blk' hfr hcl; refine stop_i ?_) | (with_reducible refine And.intro (by omega) ?_) | (refine SW.seq_k fun K hK => ?_) | (refine SW.block ?_) | ((first | refine SW.region ?_ | refine SW.regionD (Checked.mixed Tryz.checked) (by kernel_rfl) ?_ | refine SW.cond ?_ | refine SW.skip ?_ | refine SW.exit ?_ | refine SW.ret ?_ | (refine allF_i fun b hb => ?_; replace hD := And.intro hb hD; clear hb; try simp only [fresh_cons, fresh_nil, and_true, ne_eq, neF] at hD) | simp only [appK, appOsK]); try simp only [go_sem, hD, true_implies]) | (refine And.intro (by omega) ?_) | (refine ifI (fun hc => ?_) (fun hc => ?_) <;> first | (exfalso; omega) | skip) | ((first | apply hK | ((iterate 1 (clear hK K)); apply hK) | ((iterate 2 (clear hK K)); apply hK) | ((iterate 3 (clear hK K)); apply hK) | ((iterate 4 (clear hK K)); apply hK) | ((iterate 5 (clear hK K)); apply hK)); clear hK K)
    refine Stop.mk ?_
    have hf1 : ¬ g' = b := hfr.1.2
    simp only [go_sem, hD, hf1]
    (first | apply hK | ((iterate 1 (clear hK K)); apply hK) | ((iterate 2 (clear hK K)); apply hK) | ((iterate 3 (clear hK K)); apply hK) | ((iterate 4 (clear hK K)); apply hK) | ((iterate 5 (clear hK K)); apply hK)); clear hK K
    repeat' first | (with_reducible refine And.intro (by omega) ?_) | (refine SW.seq_k fun K hK => ?_) | (refine SW.block ?_) | ((first | refine SW.region ?_ | refine SW.regionD (Checked.mixed Tryz.checked) (by kernel_rfl) ?_ | refine SW.cond ?_ | refine SW.skip ?_ | refine SW.exit ?_ | refine SW.ret ?_ | (refine allF_i fun b hb => ?_; replace hD := And.intro hb hD; clear hb; try simp only [fresh_cons, fresh_nil, and_true, ne_eq, neF] at hD) | simp only [appK, appOsK]); try simp only [go_sem, hD]) | (refine And.intro (by omega) ?_) | (refine ifI (fun hc => ?_) (fun hc => ?_) <;> first | (exfalso; omega) | skip) | ((first | apply hK | ((iterate 1 (clear hK K)); apply hK) | ((iterate 2 (clear hK K)); apply hK) | ((iterate 3 (clear hK K)); apply hK) | ((iterate 4 (clear hK K)); apply hK) | ((iterate 5 (clear hK K)); apply hK)); clear hK K)
    refine retQ_le (S' := ⟨_, (b, .svs [.op b 0, .ot g' s.data.toList.length 5]) :: (g', blk') :: h0⟩) (St.le_perm (List.Perm.swap ..)) ?_
    simp only [resL_tmp, resL_nil, tupOf, go_sem, hD]
    refine .inr ⟨by rw [List.nil_append] at hne; exact hne, g', blk', hfr.2, hf1, hcl, rfl⟩
  · have hgb : ¬ b = g := fun x => hg x.symm
    have hb1 : (l.length + s.data.toList.length) * 1 ≤ 140737488355328 := by omega
    have hn1 : l.length + s.data.toList.length ≤ 140737488355328 := by omega
    have hfd : Heap.find ((b, Blk.svs [.op b 0, .ot g l.length 5]) :: (g, blk) :: h0) g = some blk := by rw [find_cons, if_neg hgb, find_cons, if_pos rfl]
    refine Call.enter' (N := 19) (rs := [.tmp 4, .tmp 5]) Tryz.func16 rfl rfl rfl (by decide) rfl ?_; simp only [argT]; have hD : (0 : Nat) = 0 := rfl
    repeat' first | (with_reducible refine Call.mono (copy_used b (SV.ot g l.length 5) ((g, blk) :: h0)) ?_; intro r h' hx; obtain ⟨rfl, rfl⟩ := hx) | (with_reducible refine appK_ot (l2 := s.data.toList) (blk := blk) (src_str _ _) (src_ok _ _) hfd hc hz1 hb1 hn1 ?_; intro g' blk' hfr hcl; refine stop_i ?_) | (with_reducible refine And.intro (by omega) ?_) | (refine SW.seq_k fun K hK => ?_) | (refine SW.block ?_) | ((first | refine SW.region ?_ | refine SW.regionD (Checked.mixed Tryz.checked) (by kernel_rfl) ?_ | refine SW.cond ?_ | refine SW.skip ?_ | refine SW.exit ?_ | refine SW.ret ?_ | (refine allF_i fun b hb => ?_; replace hD := And.intro hb hD; clear hb; try simp only [fresh_cons, fresh_nil, and_true, ne_eq, neF] at hD) | simp only [appK, appOsK]); try simp only [go_sem, hD, true_implies, hgb]) | (refine And.intro (by omega) ?_) | (refine ifI (fun hc => ?_) (fun hc => ?_) <;> first | (exfalso; omega) | skip) | ((first | apply hK | ((iterate 1 (clear hK K)); apply hK) | ((iterate 2 (clear hK K)); apply hK) | ((iterate 3 (clear hK K)); apply hK) | ((iterate 4 (clear hK K)); apply hK) | ((iterate 5 (clear hK K)); apply hK)); clear hK K)
    refine Stop.mk ?_
    rw [del_cons, if_neg hgb, del_cons, if_pos rfl] at hfr
    have hf1 : ¬ g' = b := hfr.1.2
    have hf2 : ¬ b = g' := hfr.1.1
    simp only [go_sem, hD, hf1, hf2, hgb]
    (first | apply hK | ((iterate 1 (clear hK K)); apply hK) | ((iterate 2 (clear hK K)); apply hK) | ((iterate 3 (clear hK K)); apply hK) | ((iterate 4 (clear hK K)); apply hK) | ((iterate 5 (clear hK K)); apply hK)); clear hK K
    repeat' first | (with_reducible refine And.intro (by omega) ?_) | (refine SW.seq_k fun K hK => ?_) | (refine SW.block ?_) | ((first | refine SW.region ?_ | refine SW.regionD (Checked.mixed Tryz.checked) (by kernel_rfl) ?_ | refine SW.cond ?_ | refine SW.skip ?_ | refine SW.exit ?_ | refine SW.ret ?_ | (refine allF_i fun b hb => ?_; replace hD := And.intro hb hD; clear hb; try simp only [fresh_cons, fresh_nil, and_true, ne_eq, neF] at hD) | simp only [appK, appOsK]); try simp only [go_sem, hD]) | (refine And.intro (by omega) ?_) | (refine ifI (fun hc => ?_) (fun hc => ?_) <;> first | (exfalso; omega) | skip) | ((first | apply hK | ((iterate 1 (clear hK K)); apply hK) | ((iterate 2 (clear hK K)); apply hK) | ((iterate 3 (clear hK K)); apply hK) | ((iterate 4 (clear hK K)); apply hK) | ((iterate 5 (clear hK K)); apply hK)); clear hK K)
    refine retQ_ret ?_
    simp only [resL_tmp, resL_nil, tupOf, go_sem, hD]
    refine .inr ⟨hne, g', blk', hfr.2, hf1, hcl, by rw [List.length_append]⟩

end Go.Proofs.YtddkacbcecedaaaGreatDoor