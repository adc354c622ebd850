/- Contracts: Format of the program. -/
import Derived.Test.YtddkacbcecedaaaGreatDoorE3
set_option linter.unusedSimpArgs false
set_option linter.unusedVariables false
set_option linter.unusedSectionVars false
namespace Go.Ab.A34
open Go Go.Ab Go.Proofs
def wRows : ByteArray := ⟨#[114, 111, 119, 115]⟩
def wNulls : ByteArray := ⟨#[110, 117, 108, 108, 115]⟩
def wDist : ByteArray := ⟨#[100, 105, 115, 116, 105, 110, 99, 116]⟩
def wNums : ByteArray := ⟨#[110, 117, 109, 98, 101, 114, 115]⟩
def wTexts : ByteArray := ⟨#[116, 101, 120, 116, 115]⟩
def wLeast : ByteArray := ⟨#[108, 101, 97, 115, 116]⟩
def wGreat : ByteArray := ⟨#[103, 114, 101, 97, 116, 101, 115, 116]⟩
def wComm : ByteArray := ⟨#[99, 111, 109, 109, 111, 110]⟩
def wTimes : ByteArray := ⟨#[116, 105, 109, 101, 115]⟩
/-- A line. -/
def lineS (l : List UInt8) (a : ByteArray) (c : Co) : List UInt8 :=
  l ++ a.data.toList ++ (numS wRows c.rows).data.toList ++ (numS wNulls c.nulls).data.toList ++ (numS wDist c.distinct).data.toList ++ (numS wNums c.numbers).data.toList ++ (numS wTexts c.texts).data.toList
    ++ (txtS wLeast c.least).data.toList ++ (txtS wGreat c.greatest).data.toList ++ (txtS wComm c.common).data.toList ++ (numS wTimes c.times).data.toList ++ (⟨#[10]⟩ : ByteArray).data.toList
/-- The text of a profile. -/
def linesS (ats : List ByteArray) (L : List Co) : Nat → List UInt8
  | 0 => []
  | i + 1 => lineS (linesS ats L i) (ats.getD i ⟨#[]⟩) (L.getD i co0)
end Go.Ab.A34
namespace Go.Proofs.YtddkacbcecedaaaGreatDoor
open Go Go.Ab Go.Ab.A34
variable [Gl] [Tabs]
def okT (v : V3) : Prop := okV v = true ∧ In64 v.2.1
def OkCo (c : Co) : Prop := In64 c.rows ∧ In64 c.nulls ∧ In64 c.distinct ∧ In64 c.numbers ∧ In64 c.texts ∧ In64 c.times ∧ okT c.least ∧ okT c.greatest ∧ okT c.common

theorem format_bad (t : Tb) (h : ¬ validS t = 0) : PCall Tryz.prog 7 [TB t] (.tup [Str ⟨#[]⟩, I64 (validS t)]) := by
  have va := all_p_bad t h
  generalize validS t = e at *
  refine Call.enter' (N := 73) (rs := [.tmp 2, .tmp 3]) Tryz.func7 rfl rfl rfl (by decide) rfl ?_; simp only [argT]; have hD : (0 : Nat) = 0 := rfl
  repeat' first | (with_reducible refine And.intro (by omega) ?_) | (refine SW.seq_k fun K hK => ?_) | (refine SW.block ?_) | ((first | refine SW.region ?_ | refine SW.regionD (Checked.mixed Tryz.checked) (by kernel_rfl) ?_ | refine SW.cond ?_ | refine SW.skip ?_ | refine SW.exit ?_ | refine SW.ret ?_ | refine Call.of_pure (va) ?_ | refine ⟨_, va, ?_⟩ | (refine allF_i fun b hb => ?_; replace hD := And.intro hb hD; clear hb; try simp only [fresh_cons, fresh_nil, and_true, ne_eq, neF] at hD) | simp only [appK, appOsK]); try simp only [go_sem, hD, h]) | (refine And.intro (by omega) ?_) | (refine ifI (fun hc => ?_) (fun hc => ?_) <;> first | (exfalso; omega) | skip) | ((first | apply hK | ((iterate 1 (clear hK K)); apply hK) | ((iterate 2 (clear hK K)); apply hK) | ((iterate 3 (clear hK K)); apply hK) | ((iterate 4 (clear hK K)); apply hK) | ((iterate 5 (clear hK K)); apply hK)); clear hK K)
  refine ret_pure ?_; simp only [resL_tmp, resL_nil, tupOf, go_sem, hD]

set_option maxHeartbeats 4000000 in
set_option maxRecDepth 20000 in
theorem format_c (nm : ByteArray) (ats : List ByteArray) (l : List R3) (L : List Co) (hL : L.length = ats.length) (h16 : ats.length ≤ 16) (hat : ∀ a ∈ ats, 1 ≤ a.size ∧ a.size ≤ 24) (hco : ∀ c ∈ L, OkCo c)
    (al : PCall Tryz.prog 15 [TB ⟨nm, ats, l⟩] (.tup [CL L, I64 0])) : PCall Tryz.prog 7 [TB ⟨nm, ats, l⟩] (.tup [Str ⟨(linesS ats L L.length).toArray⟩, I64 0]) := by
  obtain ⟨X, hX⟩ : ∃ X, X = linesS ats L L.length := ⟨_, rfl⟩
  rw [← hX]
  refine Call.enter' (N := 73) (rs := [.tmp 2, .tmp 3]) Tryz.func7 rfl rfl rfl (by decide) rfl ?_; simp only [argT]; have hD : (0 : Nat) = 0 := rfl
  repeat' first | (with_reducible refine And.intro (by omega) ?_) | (refine SW.seq_k fun K hK => ?_) | (refine SW.block ?_) | ((first | refine SW.region ?_ | refine SW.regionD (Checked.mixed Tryz.checked) (by kernel_rfl) ?_ | refine SW.cond ?_ | refine SW.skip ?_ | refine SW.exit ?_ | refine SW.ret ?_ | refine Call.of_pure (al) ?_ | refine ⟨_, al, ?_⟩ | (refine allF_i fun b hb => ?_; replace hD := And.intro hb hD; clear hb; try simp only [fresh_cons, fresh_nil, and_true, ne_eq, neF] at hD) | simp only [appK, appOsK]); try simp only [go_sem, hD]) | (refine And.intro (by omega) ?_) | (refine ifI (fun hc => ?_) (fun hc => ?_) <;> first | (exfalso; omega) | skip) | ((first | apply hK | ((iterate 1 (clear hK K)); apply hK) | ((iterate 2 (clear hK K)); apply hK) | ((iterate 3 (clear hK K)); apply hK) | ((iterate 4 (clear hK K)); apply hK) | ((iterate 5 (clear hK K)); apply hK)); clear hK K)
  obtain ⟨bb, rfl⟩ : ∃ x, x = b := ⟨_, rfl⟩
  obtain ⟨tb, rfl⟩ : ∃ x, x = b := ⟨_, rfl⟩
  have d1 : ¬ bb = tb := by simp [hD]
  have d2 : ¬ tb = bb := by simp [hD]
  clear hD
  have hD := And.intro (eq_false d1) (eq_false d2)
  obtain ⟨I, hI⟩ : ∃ I : Nat → St → Prop, ∀ k S, I k S ↔ (∃ (i : Nat) (h : Heap), k = L.length - i ∧ i ≤ L.length ∧ ((i = 0 ∧ h = (bb, .svs [.sc (.pointer none), .nt]) :: [(tb, .svs [Str nm, SL ats, RL l])]) ∨ (0 < i ∧ ∃ g blk, fresh [(tb, Blk.svs [Str nm, SL ats, RL l])] g ∧ ¬ g = bb ∧ ¬ bb = g ∧ blk.cells = byts (linesS ats L i) ∧ linesS ats L i ≠ [] ∧ (linesS ats L i).length ≤ i * 30000 ∧ h = WB bb g blk (linesS ats L i) [(tb, .svs [Str nm, SL ats, RL l])])) ∧ S = ⟨[(1, .op tb 0), (6, BP bb), (19, CL L), (20, I64 L.length), (21, I64 i)], h⟩) := ⟨fun k S => _, fun _ _ => Iff.rfl⟩
  refine SW.loop' I (L.length) ((hI _ _).2 ⟨0, _, rfl, Nat.zero_le _, .inl ⟨rfl, rfl⟩, rfl⟩) (by repeat' (first | exact rfl | exact trivial | exact int_eq (by omega) | exact int_eq (by (rw [i64_wrap] <;> omega)) | constructor)) ?_
  intro k S hIn
  obtain ⟨i, h, rfl, hi, hB, rfl⟩ := (hI _ _).1 hIn
  clear hIn
  have ie : ((i : Nat) : Int).toNat = i := Int.toNat_natCast _
  have i0 : (0 : Int) ≤ ((i : Nat) : Int) := by omega
  by_cases hlt : i < L.length
  · have hli : ((i : Nat) : Int) < (((L.length) : Nat) : Int) := by omega
    have w1 : IntKind.i64.wrap ((i : Int) + 1) = ((i + 1 : Nat) : Int) := by rw [i64_wrap (by omega) (by omega)]; omega
    have hli2 : ((i : Nat) : Int) < ((ats.length : Nat) : Int) := by omega
    have hln : linesS ats L (i + 1) = lineS (linesS ats L i) (ats.getD i ⟨#[]⟩) (L.getD i co0) := rfl
    have hc := hco _ (getD_mem co0 hlt)
    have ha := hat _ (getD_mem ⟨#[]⟩ (show i < ats.length by omega))
    have fa : sF ats i = [Str (ats.getD i ⟨#[]⟩)] := rfl
    obtain ⟨c, hcc⟩ : ∃ c, L.getD i co0 = c := ⟨_, rfl⟩
    rw [hcc] at hc hln
    generalize ats.getD i ⟨#[]⟩ = a at *
    have tc : coC (L.getD i co0) = coC c := by rw [hcc]
    obtain ⟨o1, o2, o3, o4, o5, o6, o7, o8, o9⟩ := hc
    rcases hB with ⟨hi0, rfl⟩ | ⟨hi0, g, blk, u1, u2, u3, u4, u5, u6, rfl⟩
    · repeat' first | (with_reducible refine And.intro (by omega) ?_) | (refine SW.seq_k fun K hK => ?_) | (refine SW.block ?_) | ((first | refine SW.region ?_ | refine SW.regionD (Checked.mixed Tryz.checked) (by kernel_rfl) ?_ | refine SW.cond ?_ | refine SW.skip ?_ | refine SW.exit ?_ | refine SW.ret ?_ | (refine allF_i fun b hb => ?_; replace hD := And.intro hb hD; clear hb; try simp only [fresh_cons, fresh_nil, and_true, ne_eq, neF] at hD) | simp only [appK, appOsK]); try simp only [go_sem, hD, hli, hli2, ie, i0, w1, fa, hcc]) | (refine And.intro (by omega) ?_) | (refine ifI (fun hc => ?_) (fun hc => ?_) <;> first | (exfalso; omega) | skip) | ((first | apply hK | ((iterate 1 (clear hK K)); apply hK) | ((iterate 2 (clear hK K)); apply hK) | ((iterate 3 (clear hK K)); apply hK) | ((iterate 4 (clear hK K)); apply hK) | ((iterate 5 (clear hK K)); apply hK)); clear hK K)
      obtain ⟨cb, rfl⟩ : ∃ x, x = b := ⟨_, rfl⟩
      have c1 : ¬ cb = bb := by simp [hD]
      have c2 : ¬ bb = cb := by simp [hD]
      have c3 : ¬ cb = tb := by simp [hD]
      have c4 : ¬ tb = cb := by simp [hD]
      clear hD
      have hD : (0 : Nat) = 0 := rfl
      have hb2 : fresh [(cb, Blk.svs (coC c)), (tb, Blk.svs [Str nm, SL ats, RL l])] bb := ⟨⟨c1, c2⟩, ⟨d2, d1⟩, trivial⟩
      have P : ((bb, Blk.svs [.sc (.pointer none), .nt]) :: [(cb, Blk.svs (coC c)), (tb, Blk.svs [Str nm, SL ats, RL l])]).Perm ((cb, Blk.svs (coC c)) :: [(bb, Blk.svs [.sc (.pointer none), .nt]), (tb, Blk.svs [Str nm, SL ats, RL l])]) := List.Perm.swap ..
      have hln0 : linesS ats L i = [] := by rw [hi0]; rfl
      rw [hln0] at hln
      refine Call.perm (Call.mono (wr_n bb [(cb, Blk.svs (coC c)), (tb, Blk.svs [Str nm, SL ats, RL l])] hb2 a ha.1 (by omega)) ?_) (fun x => P.mem_iff) (fun hn => (P.map _).nodup_iff.2 hn)
      intro r h' hx
      obtain ⟨rfl, g, blk, l', k1, k2, k3, k4, kn, rfl, k6, rfl⟩ := hx
      have k7 : ¬ g = cb := k1.1.2
      have k8 : ¬ cb = g := k1.1.1
      have k9 : ¬ g = tb := k1.2.1.2
      have k10 : ¬ tb = g := k1.2.1.1
      rw [List.length_nil] at k6
      repeat' first | (with_reducible refine And.intro (by omega) ?_) | (refine SW.seq_k fun K hK => ?_) | (refine SW.block ?_) | ((first | refine SW.region ?_ | refine SW.regionD (Checked.mixed Tryz.checked) (by kernel_rfl) ?_ | refine SW.cond ?_ | refine SW.skip ?_ | refine SW.exit ?_ | refine SW.ret ?_ | (refine allF_i fun b hb => ?_; replace hD := And.intro hb hD; clear hb; try simp only [fresh_cons, fresh_nil, and_true, ne_eq, neF] at hD) | simp only [appK, appOsK]); try simp only [go_sem, hD, d1, d2, c1, c2, c3, c4, k2, k3, k7, k8, k9, k10]) | (refine And.intro (by omega) ?_) | (refine ifI (fun hc => ?_) (fun hc => ?_) <;> first | (exfalso; omega) | skip) | ((first | apply hK | ((iterate 1 (clear hK K)); apply hK) | ((iterate 2 (clear hK K)); apply hK) | ((iterate 3 (clear hK K)); apply hK) | ((iterate 4 (clear hK K)); apply hK) | ((iterate 5 (clear hK K)); apply hK)); clear hK K)
      refine Call.mono (num_c bb g blk _ [(cb, Blk.svs (coC c)), (tb, Blk.svs [Str nm, SL ats, RL l])] k1 k2 k4 kn hb2 wRows c.rows (by decide) o1 (by omega)) ?_
      intro r h' hx
      obtain ⟨rfl, g, blk, l', k1, k2, k3, k4, kn, rfl, k6, rfl⟩ := hx
      have k7 : ¬ g = cb := k1.1.2
      have k8 : ¬ cb = g := k1.1.1
      have k9 : ¬ g = tb := k1.2.1.2
      have k10 : ¬ tb = g := k1.2.1.1
      repeat' first | (with_reducible refine And.intro (by omega) ?_) | (refine SW.seq_k fun K hK => ?_) | (refine SW.block ?_) | ((first | refine SW.region ?_ | refine SW.regionD (Checked.mixed Tryz.checked) (by kernel_rfl) ?_ | refine SW.cond ?_ | refine SW.skip ?_ | refine SW.exit ?_ | refine SW.ret ?_ | (refine allF_i fun b hb => ?_; replace hD := And.intro hb hD; clear hb; try simp only [fresh_cons, fresh_nil, and_true, ne_eq, neF] at hD) | simp only [appK, appOsK]); try simp only [go_sem, hD, d1, d2, c1, c2, c3, c4, k2, k3, k7, k8, k9, k10]) | (refine And.intro (by omega) ?_) | (refine ifI (fun hc => ?_) (fun hc => ?_) <;> first | (exfalso; omega) | skip) | ((first | apply hK | ((iterate 1 (clear hK K)); apply hK) | ((iterate 2 (clear hK K)); apply hK) | ((iterate 3 (clear hK K)); apply hK) | ((iterate 4 (clear hK K)); apply hK) | ((iterate 5 (clear hK K)); apply hK)); clear hK K)
      refine Call.mono (num_c bb g blk _ [(cb, Blk.svs (coC c)), (tb, Blk.svs [Str nm, SL ats, RL l])] k1 k2 k4 kn hb2 wNulls c.nulls (by decide) o2 (by omega)) ?_
      intro r h' hx
      obtain ⟨rfl, g, blk, l', k1, k2, k3, k4, kn, rfl, k6, rfl⟩ := hx
      have k7 : ¬ g = cb := k1.1.2
      have k8 : ¬ cb = g := k1.1.1
      have k9 : ¬ g = tb := k1.2.1.2
      have k10 : ¬ tb = g := k1.2.1.1
      repeat' first | (with_reducible refine And.intro (by omega) ?_) | (refine SW.seq_k fun K hK => ?_) | (refine SW.block ?_) | ((first | refine SW.region ?_ | refine SW.regionD (Checked.mixed Tryz.checked) (by kernel_rfl) ?_ | refine SW.cond ?_ | refine SW.skip ?_ | refine SW.exit ?_ | refine SW.ret ?_ | (refine allF_i fun b hb => ?_; replace hD := And.intro hb hD; clear hb; try simp only [fresh_cons, fresh_nil, and_true, ne_eq, neF] at hD) | simp only [appK, appOsK]); try simp only [go_sem, hD, d1, d2, c1, c2, c3, c4, k2, k3, k7, k8, k9, k10]) | (refine And.intro (by omega) ?_) | (refine ifI (fun hc => ?_) (fun hc => ?_) <;> first | (exfalso; omega) | skip) | ((first | apply hK | ((iterate 1 (clear hK K)); apply hK) | ((iterate 2 (clear hK K)); apply hK) | ((iterate 3 (clear hK K)); apply hK) | ((iterate 4 (clear hK K)); apply hK) | ((iterate 5 (clear hK K)); apply hK)); clear hK K)
      refine Call.mono (num_c bb g blk _ [(cb, Blk.svs (coC c)), (tb, Blk.svs [Str nm, SL ats, RL l])] k1 k2 k4 kn hb2 wDist c.distinct (by decide) o3 (by omega)) ?_
      intro r h' hx
      obtain ⟨rfl, g, blk, l', k1, k2, k3, k4, kn, rfl, k6, rfl⟩ := hx
      have k7 : ¬ g = cb := k1.1.2
      have k8 : ¬ cb = g := k1.1.1
      have k9 : ¬ g = tb := k1.2.1.2
      have k10 : ¬ tb = g := k1.2.1.1
      repeat' first | (with_reducible refine And.intro (by omega) ?_) | (refine SW.seq_k fun K hK => ?_) | (refine SW.block ?_) | ((first | refine SW.region ?_ | refine SW.regionD (Checked.mixed Tryz.checked) (by kernel_rfl) ?_ | refine SW.cond ?_ | refine SW.skip ?_ | refine SW.exit ?_ | refine SW.ret ?_ | (refine allF_i fun b hb => ?_; replace hD := And.intro hb hD; clear hb; try simp only [fresh_cons, fresh_nil, and_true, ne_eq, neF] at hD) | simp only [appK, appOsK]); try simp only [go_sem, hD, d1, d2, c1, c2, c3, c4, k2, k3, k7, k8, k9, k10]) | (refine And.intro (by omega) ?_) | (refine ifI (fun hc => ?_) (fun hc => ?_) <;> first | (exfalso; omega) | skip) | ((first | apply hK | ((iterate 1 (clear hK K)); apply hK) | ((iterate 2 (clear hK K)); apply hK) | ((iterate 3 (clear hK K)); apply hK) | ((iterate 4 (clear hK K)); apply hK) | ((iterate 5 (clear hK K)); apply hK)); clear hK K)
      refine Call.mono (num_c bb g blk _ [(cb, Blk.svs (coC c)), (tb, Blk.svs [Str nm, SL ats, RL l])] k1 k2 k4 kn hb2 wNums c.numbers (by decide) o4 (by omega)) ?_
      intro r h' hx
      obtain ⟨rfl, g, blk, l', k1, k2, k3, k4, kn, rfl, k6, rfl⟩ := hx
      have k7 : ¬ g = cb := k1.1.2
      have k8 : ¬ cb = g := k1.1.1
      have k9 : ¬ g = tb := k1.2.1.2
      have k10 : ¬ tb = g := k1.2.1.1
      repeat' first | (with_reducible refine And.intro (by omega) ?_) | (refine SW.seq_k fun K hK => ?_) | (refine SW.block ?_) | ((first | refine SW.region ?_ | refine SW.regionD (Checked.mixed Tryz.checked) (by kernel_rfl) ?_ | refine SW.cond ?_ | refine SW.skip ?_ | refine SW.exit ?_ | refine SW.ret ?_ | (refine allF_i fun b hb => ?_; replace hD := And.intro hb hD; clear hb; try simp only [fresh_cons, fresh_nil, and_true, ne_eq, neF] at hD) | simp only [appK, appOsK]); try simp only [go_sem, hD, d1, d2, c1, c2, c3, c4, k2, k3, k7, k8, k9, k10]) | (refine And.intro (by omega) ?_) | (refine ifI (fun hc => ?_) (fun hc => ?_) <;> first | (exfalso; omega) | skip) | ((first | apply hK | ((iterate 1 (clear hK K)); apply hK) | ((iterate 2 (clear hK K)); apply hK) | ((iterate 3 (clear hK K)); apply hK) | ((iterate 4 (clear hK K)); apply hK) | ((iterate 5 (clear hK K)); apply hK)); clear hK K)
      refine Call.mono (num_c bb g blk _ [(cb, Blk.svs (coC c)), (tb, Blk.svs [Str nm, SL ats, RL l])] k1 k2 k4 kn hb2 wTexts c.texts (by decide) o5 (by omega)) ?_
      intro r h' hx
      obtain ⟨rfl, g, blk, l', k1, k2, k3, k4, kn, rfl, k6, rfl⟩ := hx
      have k7 : ¬ g = cb := k1.1.2
      have k8 : ¬ cb = g := k1.1.1
      have k9 : ¬ g = tb := k1.2.1.2
      have k10 : ¬ tb = g := k1.2.1.1
      repeat' first | (with_reducible refine And.intro (by omega) ?_) | (refine SW.seq_k fun K hK => ?_) | (refine SW.block ?_) | ((first | refine SW.region ?_ | refine SW.regionD (Checked.mixed Tryz.checked) (by kernel_rfl) ?_ | refine SW.cond ?_ | refine SW.skip ?_ | refine SW.exit ?_ | refine SW.ret ?_ | (refine allF_i fun b hb => ?_; replace hD := And.intro hb hD; clear hb; try simp only [fresh_cons, fresh_nil, and_true, ne_eq, neF] at hD) | simp only [appK, appOsK]); try simp only [go_sem, hD, d1, d2, c1, c2, c3, c4, k2, k3, k7, k8, k9, k10]) | (refine And.intro (by omega) ?_) | (refine ifI (fun hc => ?_) (fun hc => ?_) <;> first | (exfalso; omega) | skip) | ((first | apply hK | ((iterate 1 (clear hK K)); apply hK) | ((iterate 2 (clear hK K)); apply hK) | ((iterate 3 (clear hK K)); apply hK) | ((iterate 4 (clear hK K)); apply hK) | ((iterate 5 (clear hK K)); apply hK)); clear hK K)
      refine Call.mono (txt_c bb g blk _ [(cb, Blk.svs (coC c)), (tb, Blk.svs [Str nm, SL ats, RL l])] k1 k2 k4 kn hb2 wLeast c.least (by decide) o7.1 o7.2 (by omega)) ?_
      intro r h' hx
      obtain ⟨rfl, g, blk, l', k1, k2, k3, k4, kn, rfl, k6, rfl⟩ := hx
      have k7 : ¬ g = cb := k1.1.2
      have k8 : ¬ cb = g := k1.1.1
      have k9 : ¬ g = tb := k1.2.1.2
      have k10 : ¬ tb = g := k1.2.1.1
      repeat' first | (with_reducible refine And.intro (by omega) ?_) | (refine SW.seq_k fun K hK => ?_) | (refine SW.block ?_) | ((first | refine SW.region ?_ | refine SW.regionD (Checked.mixed Tryz.checked) (by kernel_rfl) ?_ | refine SW.cond ?_ | refine SW.skip ?_ | refine SW.exit ?_ | refine SW.ret ?_ | (refine allF_i fun b hb => ?_; replace hD := And.intro hb hD; clear hb; try simp only [fresh_cons, fresh_nil, and_true, ne_eq, neF] at hD) | simp only [appK, appOsK]); try simp only [go_sem, hD, d1, d2, c1, c2, c3, c4, k2, k3, k7, k8, k9, k10]) | (refine And.intro (by omega) ?_) | (refine ifI (fun hc => ?_) (fun hc => ?_) <;> first | (exfalso; omega) | skip) | ((first | apply hK | ((iterate 1 (clear hK K)); apply hK) | ((iterate 2 (clear hK K)); apply hK) | ((iterate 3 (clear hK K)); apply hK) | ((iterate 4 (clear hK K)); apply hK) | ((iterate 5 (clear hK K)); apply hK)); clear hK K)
      refine Call.mono (txt_c bb g blk _ [(cb, Blk.svs (coC c)), (tb, Blk.svs [Str nm, SL ats, RL l])] k1 k2 k4 kn hb2 wGreat c.greatest (by decide) o8.1 o8.2 (by omega)) ?_
      intro r h' hx
      obtain ⟨rfl, g, blk, l', k1, k2, k3, k4, kn, rfl, k6, rfl⟩ := hx
      have k7 : ¬ g = cb := k1.1.2
      have k8 : ¬ cb = g := k1.1.1
      have k9 : ¬ g = tb := k1.2.1.2
      have k10 : ¬ tb = g := k1.2.1.1
      repeat' first | (with_reducible refine And.intro (by omega) ?_) | (refine SW.seq_k fun K hK => ?_) | (refine SW.block ?_) | ((first | refine SW.region ?_ | refine SW.regionD (Checked.mixed Tryz.checked) (by kernel_rfl) ?_ | refine SW.cond ?_ | refine SW.skip ?_ | refine SW.exit ?_ | refine SW.ret ?_ | (refine allF_i fun b hb => ?_; replace hD := And.intro hb hD; clear hb; try simp only [fresh_cons, fresh_nil, and_true, ne_eq, neF] at hD) | simp only [appK, appOsK]); try simp only [go_sem, hD, d1, d2, c1, c2, c3, c4, k2, k3, k7, k8, k9, k10]) | (refine And.intro (by omega) ?_) | (refine ifI (fun hc => ?_) (fun hc => ?_) <;> first | (exfalso; omega) | skip) | ((first | apply hK | ((iterate 1 (clear hK K)); apply hK) | ((iterate 2 (clear hK K)); apply hK) | ((iterate 3 (clear hK K)); apply hK) | ((iterate 4 (clear hK K)); apply hK) | ((iterate 5 (clear hK K)); apply hK)); clear hK K)
      refine Call.mono (txt_c bb g blk _ [(cb, Blk.svs (coC c)), (tb, Blk.svs [Str nm, SL ats, RL l])] k1 k2 k4 kn hb2 wComm c.common (by decide) o9.1 o9.2 (by omega)) ?_
      intro r h' hx
      obtain ⟨rfl, g, blk, l', k1, k2, k3, k4, kn, rfl, k6, rfl⟩ := hx
      have k7 : ¬ g = cb := k1.1.2
      have k8 : ¬ cb = g := k1.1.1
      have k9 : ¬ g = tb := k1.2.1.2
      have k10 : ¬ tb = g := k1.2.1.1
      repeat' first | (with_reducible refine And.intro (by omega) ?_) | (refine SW.seq_k fun K hK => ?_) | (refine SW.block ?_) | ((first | refine SW.region ?_ | refine SW.regionD (Checked.mixed Tryz.checked) (by kernel_rfl) ?_ | refine SW.cond ?_ | refine SW.skip ?_ | refine SW.exit ?_ | refine SW.ret ?_ | (refine allF_i fun b hb => ?_; replace hD := And.intro hb hD; clear hb; try simp only [fresh_cons, fresh_nil, and_true, ne_eq, neF] at hD) | simp only [appK, appOsK]); try simp only [go_sem, hD, d1, d2, c1, c2, c3, c4, k2, k3, k7, k8, k9, k10]) | (refine And.intro (by omega) ?_) | (refine ifI (fun hc => ?_) (fun hc => ?_) <;> first | (exfalso; omega) | skip) | ((first | apply hK | ((iterate 1 (clear hK K)); apply hK) | ((iterate 2 (clear hK K)); apply hK) | ((iterate 3 (clear hK K)); apply hK) | ((iterate 4 (clear hK K)); apply hK) | ((iterate 5 (clear hK K)); apply hK)); clear hK K)
      refine Call.mono (num_c bb g blk _ [(cb, Blk.svs (coC c)), (tb, Blk.svs [Str nm, SL ats, RL l])] k1 k2 k4 kn hb2 wTimes c.times (by decide) o6 (by omega)) ?_
      intro r h' hx
      obtain ⟨rfl, g, blk, l', k1, k2, k3, k4, kn, rfl, k6, rfl⟩ := hx
      have k7 : ¬ g = cb := k1.1.2
      have k8 : ¬ cb = g := k1.1.1
      have k9 : ¬ g = tb := k1.2.1.2
      have k10 : ¬ tb = g := k1.2.1.1
      repeat' first | (with_reducible refine And.intro (by omega) ?_) | (refine SW.seq_k fun K hK => ?_) | (refine SW.block ?_) | ((first | refine SW.region ?_ | refine SW.regionD (Checked.mixed Tryz.checked) (by kernel_rfl) ?_ | refine SW.cond ?_ | refine SW.skip ?_ | refine SW.exit ?_ | refine SW.ret ?_ | (refine allF_i fun b hb => ?_; replace hD := And.intro hb hD; clear hb; try simp only [fresh_cons, fresh_nil, and_true, ne_eq, neF] at hD) | simp only [appK, appOsK]); try simp only [go_sem, hD, d1, d2, c1, c2, c3, c4, k2, k3, k7, k8, k9, k10]) | (refine And.intro (by omega) ?_) | (refine ifI (fun hc => ?_) (fun hc => ?_) <;> first | (exfalso; omega) | skip) | ((first | apply hK | ((iterate 1 (clear hK K)); apply hK) | ((iterate 2 (clear hK K)); apply hK) | ((iterate 3 (clear hK K)); apply hK) | ((iterate 4 (clear hK K)); apply hK) | ((iterate 5 (clear hK K)); apply hK)); clear hK K)
      refine Call.mono (wr_c bb g blk _ [(cb, Blk.svs (coC c)), (tb, Blk.svs [Str nm, SL ats, RL l])] k1 k2 k4 kn hb2 ⟨#[10]⟩ (by decide) (by decide) (by omega)) ?_
      intro r h' hx
      obtain ⟨rfl, g, blk, l', k1, k2, k3, k4, kn, rfl, k6, rfl⟩ := hx
      have k7 : ¬ g = cb := k1.1.2
      have k8 : ¬ cb = g := k1.1.1
      have k9 : ¬ g = tb := k1.2.1.2
      have k10 : ¬ tb = g := k1.2.1.1
      repeat' first | (with_reducible refine And.intro (by omega) ?_) | (refine SW.seq_k fun K hK => ?_) | (refine SW.block ?_) | ((first | refine SW.region ?_ | refine SW.regionD (Checked.mixed Tryz.checked) (by kernel_rfl) ?_ | refine SW.cond ?_ | refine SW.skip ?_ | refine SW.exit ?_ | refine SW.ret ?_ | (refine allF_i fun b hb => ?_; replace hD := And.intro hb hD; clear hb; try simp only [fresh_cons, fresh_nil, and_true, ne_eq, neF] at hD) | simp only [appK, appOsK]); try simp only [go_sem, hD, d1, d2, c1, c2, c3, c4, k2, k3, k7, k8, k9, k10, w1]) | (refine And.intro (by omega) ?_) | (refine ifI (fun hc => ?_) (fun hc => ?_) <;> first | (exfalso; omega) | skip) | ((first | apply hK | ((iterate 1 (clear hK K)); apply hK) | ((iterate 2 (clear hK K)); apply hK) | ((iterate 3 (clear hK K)); apply hK) | ((iterate 4 (clear hK K)); apply hK) | ((iterate 5 (clear hK K)); apply hK)); clear hK K)
      refine Rnd.le (St.le_del' (b := cb) (h' := WB bb g blk (linesS ats L (i + 1)) [(tb, Blk.svs [Str nm, SL ats, RL l])]) ?_) ?_
      · rw [hln]
        (simp only [WB, del_cons, c2, k7, if_false, if_true]) <;> rfl
      refine Rnd.sub (L.length - (i + 1)) (by omega) ((hI _ _).2 ⟨i + 1, _, rfl, by omega, .inr ⟨by omega, g, blk, k1.2, k2, k3, by rw [hln]; exact k4, by rw [hln]; exact kn, by rw [hln]; unfold lineS; omega, rfl⟩, rfl⟩) (by repeat' (first | exact rfl | exact trivial | exact int_eq (by omega) | exact int_eq (by (rw [i64_wrap] <;> omega)) | constructor))
    · have v1 : ¬ g = tb := u1.1.2
      have v2 : ¬ tb = g := u1.1.1
      have hD := And.intro (And.intro (eq_false v1) (eq_false v2)) (And.intro (And.intro (eq_false u2) (eq_false u3)) hD)
      repeat' first | (with_reducible refine And.intro (by omega) ?_) | (refine SW.seq_k fun K hK => ?_) | (refine SW.block ?_) | ((first | refine SW.region ?_ | refine SW.regionD (Checked.mixed Tryz.checked) (by kernel_rfl) ?_ | refine SW.cond ?_ | refine SW.skip ?_ | refine SW.exit ?_ | refine SW.ret ?_ | (refine allF_i fun b hb => ?_; replace hD := And.intro hb hD; clear hb; try simp only [fresh_cons, fresh_nil, and_true, ne_eq, neF] at hD) | simp only [appK, appOsK]); try simp only [go_sem, hD, hli, hli2, ie, i0, w1, fa, hcc]) | (refine And.intro (by omega) ?_) | (refine ifI (fun hc => ?_) (fun hc => ?_) <;> first | (exfalso; omega) | skip) | ((first | apply hK | ((iterate 1 (clear hK K)); apply hK) | ((iterate 2 (clear hK K)); apply hK) | ((iterate 3 (clear hK K)); apply hK) | ((iterate 4 (clear hK K)); apply hK) | ((iterate 5 (clear hK K)); apply hK)); clear hK K)
      obtain ⟨cb, rfl⟩ : ∃ x, x = b := ⟨_, rfl⟩
      have c1 : ¬ cb = bb := by simp [hD]
      have c2 : ¬ bb = cb := by simp [hD]
      have c3 : ¬ cb = tb := by simp [hD]
      have c4 : ¬ tb = cb := by simp [hD]
      have c5 : ¬ cb = g := by simp [hD]
      have c6 : ¬ g = cb := by simp [hD]
      clear hD
      have hD : (0 : Nat) = 0 := rfl
      have hb2 : fresh [(cb, Blk.svs (coC c)), (tb, Blk.svs [Str nm, SL ats, RL l])] bb := ⟨⟨c1, c2⟩, ⟨d2, d1⟩, trivial⟩
      generalize linesS ats L i = ll at *
      have P : (WB bb g blk ll [(cb, Blk.svs (coC c)), (tb, Blk.svs [Str nm, SL ats, RL l])]).Perm ((cb, Blk.svs (coC c)) :: WB bb g blk ll [(tb, Blk.svs [Str nm, SL ats, RL l])]) := (List.Perm.cons _ (List.Perm.swap ..)).trans (List.Perm.swap ..)
      refine Call.perm (Call.mono (wr_c bb g blk ll [(cb, Blk.svs (coC c)), (tb, Blk.svs [Str nm, SL ats, RL l])] ⟨⟨c5, c6⟩, u1⟩ u2 u4 u5 hb2 a ha.1 (by omega) (by omega)) ?_) (fun x => P.mem_iff) (fun hn => (P.map _).nodup_iff.2 hn)
      clear u1 u2 u3 u4 u5 v1 v2 c5 c6 P
      intro r h' hx
      obtain ⟨rfl, g, blk, l', k1, k2, k3, k4, kn, rfl, k6, rfl⟩ := hx
      have k7 : ¬ g = cb := k1.1.2
      have k8 : ¬ cb = g := k1.1.1
      have k9 : ¬ g = tb := k1.2.1.2
      have k10 : ¬ tb = g := k1.2.1.1
      repeat' first | (with_reducible refine And.intro (by omega) ?_) | (refine SW.seq_k fun K hK => ?_) | (refine SW.block ?_) | ((first | refine SW.region ?_ | refine SW.regionD (Checked.mixed Tryz.checked) (by kernel_rfl) ?_ | refine SW.cond ?_ | refine SW.skip ?_ | refine SW.exit ?_ | refine SW.ret ?_ | (refine allF_i fun b hb => ?_; replace hD := And.intro hb hD; clear hb; try simp only [fresh_cons, fresh_nil, and_true, ne_eq, neF] at hD) | simp only [appK, appOsK]); try simp only [go_sem, hD, d1, d2, c1, c2, c3, c4, k2, k3, k7, k8, k9, k10]) | (refine And.intro (by omega) ?_) | (refine ifI (fun hc => ?_) (fun hc => ?_) <;> first | (exfalso; omega) | skip) | ((first | apply hK | ((iterate 1 (clear hK K)); apply hK) | ((iterate 2 (clear hK K)); apply hK) | ((iterate 3 (clear hK K)); apply hK) | ((iterate 4 (clear hK K)); apply hK) | ((iterate 5 (clear hK K)); apply hK)); clear hK K)
      refine Call.mono (num_c bb g blk _ [(cb, Blk.svs (coC c)), (tb, Blk.svs [Str nm, SL ats, RL l])] k1 k2 k4 kn hb2 wRows c.rows (by decide) o1 (by omega)) ?_
      intro r h' hx
      obtain ⟨rfl, g, blk, l', k1, k2, k3, k4, kn, rfl, k6, rfl⟩ := hx
      have k7 : ¬ g = cb := k1.1.2
      have k8 : ¬ cb = g := k1.1.1
      have k9 : ¬ g = tb := k1.2.1.2
      have k10 : ¬ tb = g := k1.2.1.1
      repeat' first | (with_reducible refine And.intro (by omega) ?_) | (refine SW.seq_k fun K hK => ?_) | (refine SW.block ?_) | ((first | refine SW.region ?_ | refine SW.regionD (Checked.mixed Tryz.checked) (by kernel_rfl) ?_ | refine SW.cond ?_ | refine SW.skip ?_ | refine SW.exit ?_ | refine SW.ret ?_ | (refine allF_i fun b hb => ?_; replace hD := And.intro hb hD; clear hb; try simp only [fresh_cons, fresh_nil, and_true, ne_eq, neF] at hD) | simp only [appK, appOsK]); try simp only [go_sem, hD, d1, d2, c1, c2, c3, c4, k2, k3, k7, k8, k9, k10]) | (refine And.intro (by omega) ?_) | (refine ifI (fun hc => ?_) (fun hc => ?_) <;> first | (exfalso; omega) | skip) | ((first | apply hK | ((iterate 1 (clear hK K)); apply hK) | ((iterate 2 (clear hK K)); apply hK) | ((iterate 3 (clear hK K)); apply hK) | ((iterate 4 (clear hK K)); apply hK) | ((iterate 5 (clear hK K)); apply hK)); clear hK K)
      refine Call.mono (num_c bb g blk _ [(cb, Blk.svs (coC c)), (tb, Blk.svs [Str nm, SL ats, RL l])] k1 k2 k4 kn hb2 wNulls c.nulls (by decide) o2 (by omega)) ?_
      intro r h' hx
      obtain ⟨rfl, g, blk, l', k1, k2, k3, k4, kn, rfl, k6, rfl⟩ := hx
      have k7 : ¬ g = cb := k1.1.2
      have k8 : ¬ cb = g := k1.1.1
      have k9 : ¬ g = tb := k1.2.1.2
      have k10 : ¬ tb = g := k1.2.1.1
      repeat' first | (with_reducible refine And.intro (by omega) ?_) | (refine SW.seq_k fun K hK => ?_) | (refine SW.block ?_) | ((first | refine SW.region ?_ | refine SW.regionD (Checked.mixed Tryz.checked) (by kernel_rfl) ?_ | refine SW.cond ?_ | refine SW.skip ?_ | refine SW.exit ?_ | refine SW.ret ?_ | (refine allF_i fun b hb => ?_; replace hD := And.intro hb hD; clear hb; try simp only [fresh_cons, fresh_nil, and_true, ne_eq, neF] at hD) | simp only [appK, appOsK]); try simp only [go_sem, hD, d1, d2, c1, c2, c3, c4, k2, k3, k7, k8, k9, k10]) | (refine And.intro (by omega) ?_) | (refine ifI (fun hc => ?_) (fun hc => ?_) <;> first | (exfalso; omega) | skip) | ((first | apply hK | ((iterate 1 (clear hK K)); apply hK) | ((iterate 2 (clear hK K)); apply hK) | ((iterate 3 (clear hK K)); apply hK) | ((iterate 4 (clear hK K)); apply hK) | ((iterate 5 (clear hK K)); apply hK)); clear hK K)
      refine Call.mono (num_c bb g blk _ [(cb, Blk.svs (coC c)), (tb, Blk.svs [Str nm, SL ats, RL l])] k1 k2 k4 kn hb2 wDist c.distinct (by decide) o3 (by omega)) ?_
      intro r h' hx
      obtain ⟨rfl, g, blk, l', k1, k2, k3, k4, kn, rfl, k6, rfl⟩ := hx
      have k7 : ¬ g = cb := k1.1.2
      have k8 : ¬ cb = g := k1.1.1
      have k9 : ¬ g = tb := k1.2.1.2
      have k10 : ¬ tb = g := k1.2.1.1
      repeat' first | (with_reducible refine And.intro (by omega) ?_) | (refine SW.seq_k fun K hK => ?_) | (refine SW.block ?_) | ((first | refine SW.region ?_ | refine SW.regionD (Checked.mixed Tryz.checked) (by kernel_rfl) ?_ | refine SW.cond ?_ | refine SW.skip ?_ | refine SW.exit ?_ | refine SW.ret ?_ | (refine allF_i fun b hb => ?_; replace hD := And.intro hb hD; clear hb; try simp only [fresh_cons, fresh_nil, and_true, ne_eq, neF] at hD) | simp only [appK, appOsK]); try simp only [go_sem, hD, d1, d2, c1, c2, c3, c4, k2, k3, k7, k8, k9, k10]) | (refine And.intro (by omega) ?_) | (refine ifI (fun hc => ?_) (fun hc => ?_) <;> first | (exfalso; omega) | skip) | ((first | apply hK | ((iterate 1 (clear hK K)); apply hK) | ((iterate 2 (clear hK K)); apply hK) | ((iterate 3 (clear hK K)); apply hK) | ((iterate 4 (clear hK K)); apply hK) | ((iterate 5 (clear hK K)); apply hK)); clear hK K)
      refine Call.mono (num_c bb g blk _ [(cb, Blk.svs (coC c)), (tb, Blk.svs [Str nm, SL ats, RL l])] k1 k2 k4 kn hb2 wNums c.numbers (by decide) o4 (by omega)) ?_
      intro r h' hx
      obtain ⟨rfl, g, blk, l', k1, k2, k3, k4, kn, rfl, k6, rfl⟩ := hx
      have k7 : ¬ g = cb := k1.1.2
      have k8 : ¬ cb = g := k1.1.1
      have k9 : ¬ g = tb := k1.2.1.2
      have k10 : ¬ tb = g := k1.2.1.1
      repeat' first | (with_reducible refine And.intro (by omega) ?_) | (refine SW.seq_k fun K hK => ?_) | (refine SW.block ?_) | ((first | refine SW.region ?_ | refine SW.regionD (Checked.mixed Tryz.checked) (by kernel_rfl) ?_ | refine SW.cond ?_ | refine SW.skip ?_ | refine SW.exit ?_ | refine SW.ret ?_ | (refine allF_i fun b hb => ?_; replace hD := And.intro hb hD; clear hb; try simp only [fresh_cons, fresh_nil, and_true, ne_eq, neF] at hD) | simp only [appK, appOsK]); try simp only [go_sem, hD, d1, d2, c1, c2, c3, c4, k2, k3, k7, k8, k9, k10]) | (refine And.intro (by omega) ?_) | (refine ifI (fun hc => ?_) (fun hc => ?_) <;> first | (exfalso; omega) | skip) | ((first | apply hK | ((iterate 1 (clear hK K)); apply hK) | ((iterate 2 (clear hK K)); apply hK) | ((iterate 3 (clear hK K)); apply hK) | ((iterate 4 (clear hK K)); apply hK) | ((iterate 5 (clear hK K)); apply hK)); clear hK K)
      refine Call.mono (num_c bb g blk _ [(cb, Blk.svs (coC c)), (tb, Blk.svs [Str nm, SL ats, RL l])] k1 k2 k4 kn hb2 wTexts c.texts (by decide) o5 (by omega)) ?_
      intro r h' hx
      obtain ⟨rfl, g, blk, l', k1, k2, k3, k4, kn, rfl, k6, rfl⟩ := hx
      have k7 : ¬ g = cb := k1.1.2
      have k8 : ¬ cb = g := k1.1.1
      have k9 : ¬ g = tb := k1.2.1.2
      have k10 : ¬ tb = g := k1.2.1.1
      repeat' first | (with_reducible refine And.intro (by omega) ?_) | (refine SW.seq_k fun K hK => ?_) | (refine SW.block ?_) | ((first | refine SW.region ?_ | refine SW.regionD (Checked.mixed Tryz.checked) (by kernel_rfl) ?_ | refine SW.cond ?_ | refine SW.skip ?_ | refine SW.exit ?_ | refine SW.ret ?_ | (refine allF_i fun b hb => ?_; replace hD := And.intro hb hD; clear hb; try simp only [fresh_cons, fresh_nil, and_true, ne_eq, neF] at hD) | simp only [appK, appOsK]); try simp only [go_sem, hD, d1, d2, c1, c2, c3, c4, k2, k3, k7, k8, k9, k10]) | (refine And.intro (by omega) ?_) | (refine ifI (fun hc => ?_) (fun hc => ?_) <;> first | (exfalso; omega) | skip) | ((first | apply hK | ((iterate 1 (clear hK K)); apply hK) | ((iterate 2 (clear hK K)); apply hK) | ((iterate 3 (clear hK K)); apply hK) | ((iterate 4 (clear hK K)); apply hK) | ((iterate 5 (clear hK K)); apply hK)); clear hK K)
      refine Call.mono (txt_c bb g blk _ [(cb, Blk.svs (coC c)), (tb, Blk.svs [Str nm, SL ats, RL l])] k1 k2 k4 kn hb2 wLeast c.least (by decide) o7.1 o7.2 (by omega)) ?_
      intro r h' hx
      obtain ⟨rfl, g, blk, l', k1, k2, k3, k4, kn, rfl, k6, rfl⟩ := hx
      have k7 : ¬ g = cb := k1.1.2
      have k8 : ¬ cb = g := k1.1.1
      have k9 : ¬ g = tb := k1.2.1.2
      have k10 : ¬ tb = g := k1.2.1.1
      repeat' first | (with_reducible refine And.intro (by omega) ?_) | (refine SW.seq_k fun K hK => ?_) | (refine SW.block ?_) | ((first | refine SW.region ?_ | refine SW.regionD (Checked.mixed Tryz.checked) (by kernel_rfl) ?_ | refine SW.cond ?_ | refine SW.skip ?_ | refine SW.exit ?_ | refine SW.ret ?_ | (refine allF_i fun b hb => ?_; replace hD := And.intro hb hD; clear hb; try simp only [fresh_cons, fresh_nil, and_true, ne_eq, neF] at hD) | simp only [appK, appOsK]); try simp only [go_sem, hD, d1, d2, c1, c2, c3, c4, k2, k3, k7, k8, k9, k10]) | (refine And.intro (by omega) ?_) | (refine ifI (fun hc => ?_) (fun hc => ?_) <;> first | (exfalso; omega) | skip) | ((first | apply hK | ((iterate 1 (clear hK K)); apply hK) | ((iterate 2 (clear hK K)); apply hK) | ((iterate 3 (clear hK K)); apply hK) | ((iterate 4 (clear hK K)); apply hK) | ((iterate 5 (clear hK K)); apply hK)); clear hK K)
      refine Call.mono (txt_c bb g blk _ [(cb, Blk.svs (coC c)), (tb, Blk.svs [Str nm, SL ats, RL l])] k1 k2 k4 kn hb2 wGreat c.greatest (by decide) o8.1 o8.2 (by omega)) ?_
      intro r h' hx
      obtain ⟨rfl, g, blk, l', k1, k2, k3, k4, kn, rfl, k6, rfl⟩ := hx
      have k7 : ¬ g = cb := k1.1.2
      have k8 : ¬ cb = g := k1.1.1
      have k9 : ¬ g = tb := k1.2.1.2
      have k10 : ¬ tb = g := k1.2.1.1
      repeat' first | (with_reducible refine And.intro (by omega) ?_) | (refine SW.seq_k fun K hK => ?_) | (refine SW.block ?_) | ((first | refine SW.region ?_ | refine SW.regionD (Checked.mixed Tryz.checked) (by kernel_rfl) ?_ | refine SW.cond ?_ | refine SW.skip ?_ | refine SW.exit ?_ | refine SW.ret ?_ | (refine allF_i fun b hb => ?_; replace hD := And.intro hb hD; clear hb; try simp only [fresh_cons, fresh_nil, and_true, ne_eq, neF] at hD) | simp only [appK, appOsK]); try simp only [go_sem, hD, d1, d2, c1, c2, c3, c4, k2, k3, k7, k8, k9, k10]) | (refine And.intro (by omega) ?_) | (refine ifI (fun hc => ?_) (fun hc => ?_) <;> first | (exfalso; omega) | skip) | ((first | apply hK | ((iterate 1 (clear hK K)); apply hK) | ((iterate 2 (clear hK K)); apply hK) | ((iterate 3 (clear hK K)); apply hK) | ((iterate 4 (clear hK K)); apply hK) | ((iterate 5 (clear hK K)); apply hK)); clear hK K)
      refine Call.mono (txt_c bb g blk _ [(cb, Blk.svs (coC c)), (tb, Blk.svs [Str nm, SL ats, RL l])] k1 k2 k4 kn hb2 wComm c.common (by decide) o9.1 o9.2 (by omega)) ?_
      intro r h' hx
      obtain ⟨rfl, g, blk, l', k1, k2, k3, k4, kn, rfl, k6, rfl⟩ := hx
      have k7 : ¬ g = cb := k1.1.2
      have k8 : ¬ cb = g := k1.1.1
      have k9 : ¬ g = tb := k1.2.1.2
      have k10 : ¬ tb = g := k1.2.1.1
      repeat' first | (with_reducible refine And.intro (by omega) ?_) | (refine SW.seq_k fun K hK => ?_) | (refine SW.block ?_) | ((first | refine SW.region ?_ | refine SW.regionD (Checked.mixed Tryz.checked) (by kernel_rfl) ?_ | refine SW.cond ?_ | refine SW.skip ?_ | refine SW.exit ?_ | refine SW.ret ?_ | (refine allF_i fun b hb => ?_; replace hD := And.intro hb hD; clear hb; try simp only [fresh_cons, fresh_nil, and_true, ne_eq, neF] at hD) | simp only [appK, appOsK]); try simp only [go_sem, hD, d1, d2, c1, c2, c3, c4, k2, k3, k7, k8, k9, k10]) | (refine And.intro (by omega) ?_) | (refine ifI (fun hc => ?_) (fun hc => ?_) <;> first | (exfalso; omega) | skip) | ((first | apply hK | ((iterate 1 (clear hK K)); apply hK) | ((iterate 2 (clear hK K)); apply hK) | ((iterate 3 (clear hK K)); apply hK) | ((iterate 4 (clear hK K)); apply hK) | ((iterate 5 (clear hK K)); apply hK)); clear hK K)
      refine Call.mono (num_c bb g blk _ [(cb, Blk.svs (coC c)), (tb, Blk.svs [Str nm, SL ats, RL l])] k1 k2 k4 kn hb2 wTimes c.times (by decide) o6 (by omega)) ?_
      intro r h' hx
      obtain ⟨rfl, g, blk, l', k1, k2, k3, k4, kn, rfl, k6, rfl⟩ := hx
      have k7 : ¬ g = cb := k1.1.2
      have k8 : ¬ cb = g := k1.1.1
      have k9 : ¬ g = tb := k1.2.1.2
      have k10 : ¬ tb = g := k1.2.1.1
      repeat' first | (with_reducible refine And.intro (by omega) ?_) | (refine SW.seq_k fun K hK => ?_) | (refine SW.block ?_) | ((first | refine SW.region ?_ | refine SW.regionD (Checked.mixed Tryz.checked) (by kernel_rfl) ?_ | refine SW.cond ?_ | refine SW.skip ?_ | refine SW.exit ?_ | refine SW.ret ?_ | (refine allF_i fun b hb => ?_; replace hD := And.intro hb hD; clear hb; try simp only [fresh_cons, fresh_nil, and_true, ne_eq, neF] at hD) | simp only [appK, appOsK]); try simp only [go_sem, hD, d1, d2, c1, c2, c3, c4, k2, k3, k7, k8, k9, k10]) | (refine And.intro (by omega) ?_) | (refine ifI (fun hc => ?_) (fun hc => ?_) <;> first | (exfalso; omega) | skip) | ((first | apply hK | ((iterate 1 (clear hK K)); apply hK) | ((iterate 2 (clear hK K)); apply hK) | ((iterate 3 (clear hK K)); apply hK) | ((iterate 4 (clear hK K)); apply hK) | ((iterate 5 (clear hK K)); apply hK)); clear hK K)
      refine Call.mono (wr_c bb g blk _ [(cb, Blk.svs (coC c)), (tb, Blk.svs [Str nm, SL ats, RL l])] k1 k2 k4 kn hb2 ⟨#[10]⟩ (by decide) (by decide) (by omega)) ?_
      intro r h' hx
      obtain ⟨rfl, g, blk, l', k1, k2, k3, k4, kn, rfl, k6, rfl⟩ := hx
      have k7 : ¬ g = cb := k1.1.2
      have k8 : ¬ cb = g := k1.1.1
      have k9 : ¬ g = tb := k1.2.1.2
      have k10 : ¬ tb = g := k1.2.1.1
      repeat' first | (with_reducible refine And.intro (by omega) ?_) | (refine SW.seq_k fun K hK => ?_) | (refine SW.block ?_) | ((first | refine SW.region ?_ | refine SW.regionD (Checked.mixed Tryz.checked) (by kernel_rfl) ?_ | refine SW.cond ?_ | refine SW.skip ?_ | refine SW.exit ?_ | refine SW.ret ?_ | (refine allF_i fun b hb => ?_; replace hD := And.intro hb hD; clear hb; try simp only [fresh_cons, fresh_nil, and_true, ne_eq, neF] at hD) | simp only [appK, appOsK]); try simp only [go_sem, hD, d1, d2, c1, c2, c3, c4, k2, k3, k7, k8, k9, k10, w1]) | (refine And.intro (by omega) ?_) | (refine ifI (fun hc => ?_) (fun hc => ?_) <;> first | (exfalso; omega) | skip) | ((first | apply hK | ((iterate 1 (clear hK K)); apply hK) | ((iterate 2 (clear hK K)); apply hK) | ((iterate 3 (clear hK K)); apply hK) | ((iterate 4 (clear hK K)); apply hK) | ((iterate 5 (clear hK K)); apply hK)); clear hK K)
      refine Rnd.le (St.le_del' (b := cb) (h' := WB bb g blk (linesS ats L (i + 1)) [(tb, Blk.svs [Str nm, SL ats, RL l])]) ?_) ?_
      · rw [hln]
        (simp only [WB, del_cons, c2, k7, if_false, if_true]) <;> rfl
      refine Rnd.sub (L.length - (i + 1)) (by omega) ((hI _ _).2 ⟨i + 1, _, rfl, by omega, .inr ⟨by omega, g, blk, k1.2, k2, k3, by rw [hln]; exact k4, by rw [hln]; exact kn, by rw [hln]; unfold lineS; omega, rfl⟩, rfl⟩) (by repeat' (first | exact rfl | exact trivial | exact int_eq (by omega) | exact int_eq (by (rw [i64_wrap] <;> omega)) | constructor))
  · have hli : ¬ ((i : Nat) : Int) < (((L.length) : Nat) : Int) := by omega
    obtain rfl : i = L.length := by omega
    rcases hB with ⟨hi0, rfl⟩ | ⟨hi0, g, blk, u1, u2, u3, u4, u5, u6, rfl⟩
    · have hX0 : X = [] := by rw [hX, hi0]; rfl
      subst hX0
      have sn := string_n bb (.sc (.pointer none)) [(tb, Blk.svs [Str nm, SL ats, RL l])]
      repeat' first | (with_reducible refine Call.mono sn ?_; intro r h' hx; obtain ⟨rfl, rfl⟩ := hx) | (with_reducible refine And.intro (by omega) ?_) | (refine SW.seq_k fun K hK => ?_) | (refine SW.block ?_) | ((first | refine SW.region ?_ | refine SW.regionD (Checked.mixed Tryz.checked) (by kernel_rfl) ?_ | refine SW.cond ?_ | refine SW.skip ?_ | refine SW.exit ?_ | refine SW.ret ?_ | (refine allF_i fun b hb => ?_; replace hD := And.intro hb hD; clear hb; try simp only [fresh_cons, fresh_nil, and_true, ne_eq, neF] at hD) | simp only [appK, appOsK]); try simp only [go_sem, hD, hli, true_implies]) | (refine And.intro (by omega) ?_) | (refine ifI (fun hc => ?_) (fun hc => ?_) <;> first | (exfalso; omega) | skip) | ((first | apply hK | ((iterate 1 (clear hK K)); apply hK) | ((iterate 2 (clear hK K)); apply hK) | ((iterate 3 (clear hK K)); apply hK) | ((iterate 4 (clear hK K)); apply hK) | ((iterate 5 (clear hK K)); apply hK)); clear hK K)
      refine ret_pure ?_; simp only [resL_tmp, resL_nil, tupOf, go_sem, hD]
    · rw [← hX] at u4 u5 u6
      have ss := string_c bb g (.op bb 0) blk X u5 (by omega) u4 [(tb, Blk.svs [Str nm, SL ats, RL l])]
      rw [← hX]
      repeat' first | (with_reducible refine Call.mono ss ?_; intro r h' hx; obtain ⟨rfl, rfl⟩ := hx) | (with_reducible refine And.intro (by omega) ?_) | (refine SW.seq_k fun K hK => ?_) | (refine SW.block ?_) | ((first | refine SW.region ?_ | refine SW.regionD (Checked.mixed Tryz.checked) (by kernel_rfl) ?_ | refine SW.cond ?_ | refine SW.skip ?_ | refine SW.exit ?_ | refine SW.ret ?_ | (refine allF_i fun b hb => ?_; replace hD := And.intro hb hD; clear hb; try simp only [fresh_cons, fresh_nil, and_true, ne_eq, neF] at hD) | simp only [appK, appOsK]); try simp only [go_sem, hD, hli, true_implies]) | (refine And.intro (by omega) ?_) | (refine ifI (fun hc => ?_) (fun hc => ?_) <;> first | (exfalso; omega) | skip) | ((first | apply hK | ((iterate 1 (clear hK K)); apply hK) | ((iterate 2 (clear hK K)); apply hK) | ((iterate 3 (clear hK K)); apply hK) | ((iterate 4 (clear hK K)); apply hK) | ((iterate 5 (clear hK K)); apply hK)); clear hK K)
      refine ret_pure ?_; simp only [resL_tmp, resL_nil, tupOf, go_sem, hD]
end Go.Proofs.YtddkacbcecedaaaGreatDoor
