/- Contracts: the writer of a proof's steps. -/
import Derived.Test.YtmcmphmhjikgkaaDoorA4
set_option linter.unusedSimpArgs false
set_option linter.unusedVariables false
set_option linter.unusedSectionVars false
namespace Go.Ab.A20
open Go Go.Ab
/-- A step: rule, what it comes from, the dependency. -/
abbrev Dv := Int × List Int × Nat × Nat
def dv0 : Dv := (0, [], 0, 0)
def vC (s : Dv) : List SV := [I64 s.1, NL s.2.1, U32 s.2.2.1, U32 s.2.2.2]
theorem vC_len (s : Dv) : (vC s).length = 4 := rfl
def vF (l : List Dv) (i : Nat) : List SV := vC (l.getD i dv0)
abbrev VL (l : List Dv) : SV := .fl l.length 4 (vF l)
/-- A writer with steps, ahead of other blocks. -/
abbrev WK (wb g : Nat) (L : List Dv) (hr : Heap) : Heap := (wb, .svs [.os g 0 L.length 4]) :: (g, .svs (fC vC L)) :: hr
def WQ (wb : Nat) (L : List Dv) (hr h' : Heap) : Prop := ∃ g, fresh hr g ∧ ¬ g = wb ∧ ¬ wb = g ∧ h' = WK wb g L hr
end Go.Ab.A20
namespace Go.Ab
theorem St.le_two [Gl] {t : List (Nat × SV)} {b1 b2 b3 : Nat} {k1 k2 k3 : Blk} {hr : Heap} : (St.mk t ((b1, k1) :: (b2, k2) :: (b3, k3) :: hr)).le ⟨t, (b3, k3) :: (b1, k1) :: hr⟩ := by
  refine St.le_sublist (fun x hx => ?_) (fun hn => ?_)
  · simp only [List.mem_cons] at hx ⊢
    rcases hx with rfl | rfl | hx
    · exact .inr (.inr (.inl rfl))
    · exact .inl rfl
    · exact .inr (.inr (.inr hx))
  · simp only [List.map_cons, List.nodup_cons, List.mem_cons, not_or] at hn ⊢
    exact ⟨⟨fun e => hn.1.2.1 e.symm, hn.2.2.1⟩, hn.1.2.2, hn.2.2.2⟩
theorem St.le_tail [Gl] {t : List (Nat × SV)} {x : Nat × Blk} {hr : Heap} : (St.mk t (x :: hr)).le ⟨t, hr⟩ :=
  St.le_sublist (fun y hy => List.mem_cons_of_mem _ hy) (fun hn => (List.nodup_cons.1 hn).2)
end Go.Ab
namespace Go.Proofs.YtmcmphmhjikgkaaDoor
open Go Go.Ab Go.Ab.A20
variable [Gl]

set_option maxHeartbeats 1000000 in
set_option maxRecDepth 20000 in
theorem add_n (wb : Nat) (hr : Heap) (hf : fresh hr wb) (u : Int) (fr : List Int) (a c : Nat) : Ab.Call Tryd.prog 31 [.op wb 0, I64 u, U32 a, U32 c, NL fr] ((wb, .svs [.sc (.slice none 0 0)]) :: hr) (fun r h' => r = I64 0 ∧ WQ wb [(u, fr, a, c)] hr h') := by
  have w0 : IntKind.i64.wrap (((1 : Nat) : Int) - 1) = 0 := by decide
  refine Call.enter' (N := 32) (rs := [.tmp 10]) Tryd.func31 rfl rfl rfl (by decide) rfl ?_; simp only [argT]; have hD : (0 : Nat) = 0 := rfl
  repeat' first | (with_reducible refine And.intro (by omega) ?_) | (refine SW.seq_k fun K hK => ?_) | (refine SW.block ?_) | ((first | refine SW.region ?_ | refine SW.regionD (Checked.mixed Tryd.checked) (by kernel_rfl) ?_ | refine SW.cond ?_ | refine SW.skip ?_ | refine SW.exit ?_ | refine SW.ret ?_ | (refine allF_i fun b hb => ?_; replace hD := And.intro hb hD; clear hb; try simp only [fresh_cons, fresh_nil, and_true, ne_eq, neF] at hD) | simp only [appK, appOsK]); try simp only [go_sem, hD, true_implies, w0]) | (refine And.intro (by omega) ?_) | (refine ifI (fun hc => ?_) (fun hc => ?_) <;> first | (exfalso; omega) | skip) | ((first | apply hK | ((iterate 1 (clear hK K)); apply hK) | ((iterate 2 (clear hK K)); apply hK) | ((iterate 3 (clear hK K)); apply hK) | ((iterate 4 (clear hK K)); apply hK) | ((iterate 5 (clear hK K)); apply hK)); clear hK K)
  refine retQ_le St.le_two ?_
  simp only [resL_tmp, resL_nil, tupOf, go_sem, hD]
  exact ⟨b, hD.1.2.2, fun e => by simp [e] at hD, fun e => by simp [e] at hD, rfl⟩

set_option maxHeartbeats 1000000 in
set_option maxRecDepth 20000 in
theorem add_c (wb g : Nat) (L : List Dv) (hr : Heap) (hf : fresh hr wb) (hg : fresh hr g) (h1 : ¬ g = wb) (h2 : ¬ wb = g) (hL : L.length ≤ 100000000000) (u : Int) (fr : List Int) (a c : Nat) : Ab.Call Tryd.prog 31 [.op wb 0, I64 u, U32 a, U32 c, NL fr] (WK wb g L hr) (fun r h' => r = I64 L.length ∧ WQ wb (L ++ [(u, fr, a, c)]) hr h') := by
  have w0 : IntKind.i64.wrap (((L.length + 1 : Nat) : Int) - 1) = (L.length : Int) := by rw [i64_wrap (by omega) (by omega)]; omega
  have ba : (L.length + 1) * 48 ≤ 140737488355328 := by omega
  have e0 := fC_len vC_len L
  refine Call.enter' (N := 32) (rs := [.tmp 10]) Tryd.func31 rfl rfl rfl (by decide) rfl ?_; simp only [argT]; have hD : (0 : Nat) = 0 := rfl
  repeat' first | (with_reducible refine And.intro (by omega) ?_) | (refine SW.seq_k fun K hK => ?_) | (refine SW.block ?_) | ((first | refine SW.region ?_ | refine SW.regionD (Checked.mixed Tryd.checked) (by kernel_rfl) ?_ | refine SW.cond ?_ | refine SW.skip ?_ | refine SW.exit ?_ | refine SW.ret ?_ | (refine allF_i fun b hb => ?_; replace hD := And.intro hb hD; clear hb; try simp only [fresh_cons, fresh_nil, and_true, ne_eq, neF] at hD) | simp only [appK, appOsK]); try simp only [go_sem, hD, true_implies, w0, h1, h2, ba, e0]) | (refine And.intro (by omega) ?_) | (refine ifI (fun hc => ?_) (fun hc => ?_) <;> first | (exfalso; omega) | skip) | ((first | apply hK | ((iterate 1 (clear hK K)); apply hK) | ((iterate 2 (clear hK K)); apply hK) | ((iterate 3 (clear hK K)); apply hK) | ((iterate 4 (clear hK K)); apply hK) | ((iterate 5 (clear hK K)); apply hK)); clear hK K)
  refine retQ_le St.le_tail ?_
  simp only [resL_tmp, resL_nil, tupOf, go_sem, hD]
  refine ⟨b, hD.1.2.2, fun e => by simp [e] at hD, fun e => by simp [e] at hD, ?_⟩
  unfold WK
  rw [List.length_append, ← fC_snoc]
  rfl
/-- The numbers that a step comes from stand in a block of their own. -/
theorem add_b (wb g nb : Nat) (L : List Dv) (hr : Heap) (blk : Blk) (hf : fresh hr wb) (hg : fresh hr g) (h1 : ¬ g = wb) (h2 : ¬ wb = g) (hL : L.length ≤ 100000000000) (u : Int) (fr : List Int) (n : Nat) (hn : n = fr.length) (hb : blk.cells = fr.map fun n => .sc (.int .i64 n)) (a c : Nat) :
    Ab.Call Tryd.prog 31 [.op wb 0, I64 u, U32 a, U32 c, .os nb 0 n 1] ((nb, blk) :: WK wb g L hr) (fun r h' => r = I64 L.length ∧ WQ wb (L ++ [(u, fr, a, c)]) hr h') := by
  refine Call.freeze_ints 4 .i64 fr (by simp) rfl hn (by rw [find_cons, if_pos rfl]) hb ?_
  rw [del_cons, if_pos rfl]
  exact add_c wb g L hr hf hg h1 h2 hL u fr a c
theorem add_e (wb g : Nat) (L : List Dv) (hr : Heap) (hf : fresh hr wb) (hg : fresh hr g) (h1 : ¬ g = wb) (h2 : ¬ wb = g) (hL : L.length ≤ 100000000000) (u : Int) (a c : Nat) :
    Ab.Call Tryd.prog 31 [.op wb 0, I64 u, U32 a, U32 c, .sc (.slice none 0 0)] (WK wb g L hr) (fun r h' => r = I64 L.length ∧ WQ wb (L ++ [(u, [], a, c)]) hr h') := by
  refine Call.nil_ints 4 .i64 (by simp) rfl ?_
  exact add_c wb g L hr hf hg h1 h2 hL u [] a c
theorem add_0 (wb : Nat) (hr : Heap) (hf : fresh hr wb) (u : Int) (a c : Nat) : Ab.Call Tryd.prog 31 [.op wb 0, I64 u, U32 a, U32 c, .sc (.slice none 0 0)] ((wb, .svs [.sc (.slice none 0 0)]) :: hr) (fun r h' => r = I64 0 ∧ WQ wb [(u, [], a, c)] hr h') := by
  refine Call.nil_ints 4 .i64 (by simp) rfl ?_
  exact add_n wb hr hf u [] a c
end Go.Proofs.YtmcmphmhjikgkaaDoor
