/- Sorting and compacting one row or two. -/
import Derived.Test.YtmcmphmhjikgkaaGreatDoorC2
set_option linter.unusedSimpArgs false
set_option linter.unusedVariables false
set_option linter.unusedSectionVars false
namespace Go.Proofs.YtmcmphmhjikgkaaGreatDoor
open Go Go.Ab Go.Ab.A20
variable [Gl]

set_option maxHeartbeats 1000000 in
set_option maxRecDepth 20000 in
theorem pdq_k (b k : Nat) (cs : List SV) (lim : Int) (hk : k ≤ 12) (hi : Ab.Call Tryz.prog 118 [.os b 0 k 1, I64 0, I64 k, .fn (.func 62) [] []] [(b, .svs cs)] (fun r h' => r = .tup [] ∧ h' = [(b, .svs cs)])) :
    Ab.Call Tryz.prog 93 [.os b 0 k 1, I64 0, I64 k, I64 lim, .fn (.func 62) [] []] [(b, .svs cs)] (fun r h' => r = .tup [] ∧ h' = [(b, .svs cs)]) := by
  have w0 : IntKind.i64.wrap ((k : Int) - 0) = k := by rw [Int.sub_zero]; exact i64_wrap (by omega) (by omega)
  have k12 : ((k : Nat) : Int) ≤ 12 := by omega
  refine Call.enter' (N := 148) (rs := []) Tryz.func93 rfl rfl rfl (by decide) rfl ?_; simp only [argT]; have hD : (0 : Nat) = 0 := rfl
  repeat' first | (with_reducible refine And.intro (by omega) ?_) | (refine SW.seq_k fun K hK => ?_) | (refine SW.block ?_) | ((first | refine SW.region ?_ | refine SW.regionD (Checked.mixed Tryz.checked) (by kernel_rfl) ?_ | refine SW.cond ?_ | refine SW.skip ?_ | refine SW.exit ?_ | refine SW.ret ?_ | (refine allF_i fun b hb => ?_; replace hD := And.intro hb hD; clear hb; try simp only [fresh_cons, fresh_nil, and_true, ne_eq, neF] at hD) | simp only [appK, appOsK]); try simp only [go_sem, hD]) | (refine And.intro (by omega) ?_) | (refine ifI (fun hc => ?_) (fun hc => ?_) <;> first | (exfalso; omega) | skip) | ((first | apply hK | ((iterate 1 (clear hK K)); apply hK) | ((iterate 2 (clear hK K)); apply hK) | ((iterate 3 (clear hK K)); apply hK) | ((iterate 4 (clear hK K)); apply hK) | ((iterate 5 (clear hK K)); apply hK)); clear hK K)
  obtain ⟨J, hJ⟩ : ∃ J : Nat → St → Prop, ∀ m S, J m S ↔ S = ⟨[(0, .os b 0 k 1), (1, I64 0), (2, I64 k), (4, .fn (.func 62) [] [])], [(b, .svs cs)]⟩ := ⟨fun m S => _, fun _ _ => Iff.rfl⟩
  refine SW.loop' J 0 ((hJ _ _).2 rfl) (by repeat' (first | exact rfl | exact trivial | exact int_eq (by omega) | exact int_eq (by (rw [i64_wrap] <;> omega)) | constructor)) ?_
  intro m S hIn
  obtain rfl := (hJ _ _).1 hIn
  clear hIn
  repeat' first | (with_reducible refine And.intro (by omega) ?_) | (refine SW.seq_k fun K hK => ?_) | (refine SW.block ?_) | ((first | refine SW.region ?_ | refine SW.regionD (Checked.mixed Tryz.checked) (by kernel_rfl) ?_ | refine SW.cond ?_ | refine SW.skip ?_ | refine SW.exit ?_ | refine SW.ret ?_ | (refine allF_i fun b hb => ?_; replace hD := And.intro hb hD; clear hb; try simp only [fresh_cons, fresh_nil, and_true, ne_eq, neF] at hD) | simp only [appK, appOsK]); try simp only [go_sem, hD, w0, k12]) | (refine And.intro (by omega) ?_) | (refine ifI (fun hc => ?_) (fun hc => ?_) <;> first | (exfalso; omega) | skip) | ((first | apply hK | ((iterate 1 (clear hK K)); apply hK) | ((iterate 2 (clear hK K)); apply hK) | ((iterate 3 (clear hK K)); apply hK) | ((iterate 4 (clear hK K)); apply hK) | ((iterate 5 (clear hK K)); apply hK)); clear hK K)
  refine Call.mono hi ?_
  intro r h' hx
  obtain ⟨rfl, rfl⟩ := hx
  (first | apply hK | ((iterate 1 (clear hK K)); apply hK) | ((iterate 2 (clear hK K)); apply hK) | ((iterate 3 (clear hK K)); apply hK) | ((iterate 4 (clear hK K)); apply hK) | ((iterate 5 (clear hK K)); apply hK)); clear hK K
  repeat' first | (with_reducible refine And.intro (by omega) ?_) | (refine SW.seq_k fun K hK => ?_) | (refine SW.block ?_) | ((first | refine SW.region ?_ | refine SW.regionD (Checked.mixed Tryz.checked) (by kernel_rfl) ?_ | refine SW.cond ?_ | refine SW.skip ?_ | refine SW.exit ?_ | refine SW.ret ?_ | (refine allF_i fun b hb => ?_; replace hD := And.intro hb hD; clear hb; try simp only [fresh_cons, fresh_nil, and_true, ne_eq, neF] at hD) | simp only [appK, appOsK]); try simp only [go_sem, hD]) | (refine And.intro (by omega) ?_) | (refine ifI (fun hc => ?_) (fun hc => ?_) <;> first | (exfalso; omega) | skip) | ((first | apply hK | ((iterate 1 (clear hK K)); apply hK) | ((iterate 2 (clear hK K)); apply hK) | ((iterate 3 (clear hK K)); apply hK) | ((iterate 4 (clear hK K)); apply hK) | ((iterate 5 (clear hK K)); apply hK)); clear hK K)
  refine retQ_le (fun M w0 D N a w r => r) ?_
  simp only [resL_tmp, resL_nil, tupOf, go_sem, hD]
  all_goals first | exact ⟨rfl, rfl⟩ | rfl

set_option maxHeartbeats 1000000 in
set_option maxRecDepth 20000 in
theorem sort_k (b k : Nat) (cs : List SV) (lim : Int) (hk : k ≤ 12) (hl : PCall Tryz.prog 94 [.sc (.int .u64 k)] (I64 lim))
    (hi : Ab.Call Tryz.prog 118 [.os b 0 k 1, I64 0, I64 k, .fn (.func 62) [] []] [(b, .svs cs)] (fun r h' => r = .tup [] ∧ h' = [(b, .svs cs)])) :
    Ab.Call Tryz.prog 61 [.os b 0 k 1, .fn (.func 62) [] []] [(b, .svs cs)] (fun r h' => r = .tup [] ∧ h' = [(b, .svs cs)]) := by
  have w0 : IntKind.u64.wrap (k : Int) = k := by
    have e : (2 : Int) ^ 64 = 18446744073709551616 := by decide
    show (if (false && decide ((k : Int) % (2 : Int) ^ 64 ≥ (2 : Int) ^ 63)) = true then (k : Int) % (2 : Int) ^ 64 - (2 : Int) ^ 64 else (k : Int) % (2 : Int) ^ 64) = _
    simp only [e, Bool.false_and, Bool.false_eq_true, if_false]
    omega
  have pd := pdq_k b k cs lim hk hi
  refine Call.enter' (N := 14) (rs := []) Tryz.func61 rfl rfl rfl (by decide) rfl ?_; simp only [argT]; have hD : (0 : Nat) = 0 := rfl
  repeat' first | (with_reducible refine And.intro (by omega) ?_) | (refine SW.seq_k fun K hK => ?_) | (refine SW.block ?_) | ((first | refine SW.region ?_ | refine SW.regionD (Checked.mixed Tryz.checked) (by kernel_rfl) ?_ | refine SW.cond ?_ | refine SW.skip ?_ | refine SW.exit ?_ | refine SW.ret ?_ | refine Call.of_pure (hl) ?_ | refine ⟨_, hl, ?_⟩ | (refine allF_i fun b hb => ?_; replace hD := And.intro hb hD; clear hb; try simp only [fresh_cons, fresh_nil, and_true, ne_eq, neF] at hD) | simp only [appK, appOsK]); try simp only [go_sem, hD, w0]) | (refine And.intro (by omega) ?_) | (refine ifI (fun hc => ?_) (fun hc => ?_) <;> first | (exfalso; omega) | skip) | ((first | apply hK | ((iterate 1 (clear hK K)); apply hK) | ((iterate 2 (clear hK K)); apply hK) | ((iterate 3 (clear hK K)); apply hK) | ((iterate 4 (clear hK K)); apply hK) | ((iterate 5 (clear hK K)); apply hK)); clear hK K)
  refine Call.mono pd ?_
  intro r h' hx
  obtain ⟨rfl, rfl⟩ := hx
  refine retQ_n (retQ_le (fun M w0 D N a w r => r) ?_)
  simp only [resL_tmp, resL_nil, tupOf, go_sem, hD]
  all_goals first | exact ⟨rfl, rfl⟩ | rfl

set_option maxHeartbeats 1000000 in
set_option maxRecDepth 20000 in
theorem comp_1 (n s b : Nat) : Ab.Call Tryz.prog 63 [.os b 0 1 1, .fn (.func 45) [] []] [(b, .svs [NR n s])] (fun r h' => r = RL n [s] ∧ h' = []) := by
  refine Call.enter' (N := 66) (rs := [.tmp 4]) Tryz.func63 rfl rfl rfl (by decide) rfl ?_; simp only [argT]; have hD : (0 : Nat) = 0 := rfl
  repeat' first | (with_reducible refine And.intro (by omega) ?_) | (refine SW.seq_k fun K hK => ?_) | (refine SW.block ?_) | ((first | refine SW.region ?_ | refine SW.regionD (Checked.mixed Tryz.checked) (by kernel_rfl) ?_ | refine SW.cond ?_ | refine SW.skip ?_ | refine SW.exit ?_ | refine SW.ret ?_ | (refine allF_i fun b hb => ?_; replace hD := And.intro hb hD; clear hb; try simp only [fresh_cons, fresh_nil, and_true, ne_eq, neF] at hD) | simp only [appK, appOsK]); try simp only [go_sem, hD]) | (refine And.intro (by omega) ?_) | (refine ifI (fun hc => ?_) (fun hc => ?_) <;> first | (exfalso; omega) | skip) | ((first | apply hK | ((iterate 1 (clear hK K)); apply hK) | ((iterate 2 (clear hK K)); apply hK) | ((iterate 3 (clear hK K)); apply hK) | ((iterate 4 (clear hK K)); apply hK) | ((iterate 5 (clear hK K)); apply hK)); clear hK K)
  refine retQ_le (St.le_freeze (i := 4) (b := b) (off := 0) (len := 1) (sz := 1) (k := .svs [NR n s]) rfl (by rw [find_cons, if_pos rfl]) (by exact Nat.le_refl 1) (rF n [s]) (fun j hj => by
    obtain rfl : j = 0 := by omega
    rfl)) ?_
  rw [del_head]
  simp only [resL_tmp, resL_nil, tupOf, go_sem, hD]
  all_goals first | exact ⟨rfl, rfl⟩ | rfl

set_option maxHeartbeats 1000000 in
set_option maxRecDepth 20000 in
theorem comp_2 (n s t b : Nat) (hn : n ≤ 6) (hc : eqR n t s = false) : Ab.Call Tryz.prog 63 [.os b 0 2 1, .fn (.func 45) [] []] [(b, .svs [NR n s, NR n t])] (fun r h' => r = RL n [s, t] ∧ h' = []) := by
  have cp := equal_r n t s hn
  rw [hc] at cp
  refine Call.enter' (N := 66) (rs := [.tmp 4]) Tryz.func63 rfl rfl rfl (by decide) rfl ?_; simp only [argT]; have hD : (0 : Nat) = 0 := rfl
  repeat' first | (with_reducible refine And.intro (by omega) ?_) | (refine SW.seq_k fun K hK => ?_) | (refine SW.block ?_) | ((first | refine SW.region ?_ | refine SW.regionD (Checked.mixed Tryz.checked) (by kernel_rfl) ?_ | refine SW.cond ?_ | refine SW.skip ?_ | refine SW.exit ?_ | refine SW.ret ?_ | (refine allF_i fun b hb => ?_; replace hD := And.intro hb hD; clear hb; try simp only [fresh_cons, fresh_nil, and_true, ne_eq, neF] at hD) | simp only [appK, appOsK]); try simp only [go_sem, hD]) | (refine And.intro (by omega) ?_) | (refine ifI (fun hc => ?_) (fun hc => ?_) <;> first | (exfalso; omega) | skip) | ((first | apply hK | ((iterate 1 (clear hK K)); apply hK) | ((iterate 2 (clear hK K)); apply hK) | ((iterate 3 (clear hK K)); apply hK) | ((iterate 4 (clear hK K)); apply hK) | ((iterate 5 (clear hK K)); apply hK)); clear hK K)
  obtain ⟨J, hJ⟩ : ∃ J : Nat → St → Prop, ∀ m S, J m S ↔ (∃ i : Int, (m = 1 ∧ i = 1 ∨ m = 0 ∧ i = 2) ∧ S = ⟨[(0, .os b 0 2 1), (1, .fn (.func 45) [] []), (5, I64 i)], [(b, .svs [NR n s, NR n t])]⟩) := ⟨fun m S => _, fun _ _ => Iff.rfl⟩
  refine SW.loop' J 1 ((hJ _ _).2 ⟨1, .inl ⟨rfl, rfl⟩, rfl⟩) (by repeat' (first | exact rfl | exact trivial | exact int_eq (by omega) | exact int_eq (by (rw [i64_wrap] <;> omega)) | constructor)) ?_
  intro m S hIn
  obtain ⟨i, hi, rfl⟩ := (hJ _ _).1 hIn
  clear hIn
  have wz : IntKind.i64.wrap ((1 : Int) - 1) = 0 := by decide
  have w2 : IntKind.i64.wrap ((1 : Int) + 1) = 2 := by decide
  rcases hi with ⟨rfl, rfl⟩ | ⟨rfl, rfl⟩
  · repeat' first | (with_reducible refine And.intro (by omega) ?_) | (refine SW.seq_k fun K hK => ?_) | (refine SW.block ?_) | ((first | refine SW.region ?_ | refine SW.regionD (Checked.mixed Tryz.checked) (by kernel_rfl) ?_ | refine SW.cond ?_ | refine SW.skip ?_ | refine SW.exit ?_ | refine SW.ret ?_ | refine Call.of_pure (cp) ?_ | refine ⟨_, cp, ?_⟩ | (refine allF_i fun b hb => ?_; replace hD := And.intro hb hD; clear hb; try simp only [fresh_cons, fresh_nil, and_true, ne_eq, neF] at hD) | simp only [appK, appOsK]); try simp only [go_sem, hD, wz, w2]) | (refine And.intro (by omega) ?_) | (refine ifI (fun hc => ?_) (fun hc => ?_) <;> first | (exfalso; omega) | skip) | ((first | apply hK | ((iterate 1 (clear hK K)); apply hK) | ((iterate 2 (clear hK K)); apply hK) | ((iterate 3 (clear hK K)); apply hK) | ((iterate 4 (clear hK K)); apply hK) | ((iterate 5 (clear hK K)); apply hK)); clear hK K)
    refine Rnd.sub 0 (by omega) ((hJ _ _).2 ⟨2, .inr ⟨rfl, rfl⟩, rfl⟩) (by repeat' (first | exact rfl | exact trivial | exact int_eq (by omega) | exact int_eq (by (rw [i64_wrap] <;> omega)) | constructor))
  · repeat' first | (with_reducible refine And.intro (by omega) ?_) | (refine SW.seq_k fun K hK => ?_) | (refine SW.block ?_) | ((first | refine SW.region ?_ | refine SW.regionD (Checked.mixed Tryz.checked) (by kernel_rfl) ?_ | refine SW.cond ?_ | refine SW.skip ?_ | refine SW.exit ?_ | refine SW.ret ?_ | (refine allF_i fun b hb => ?_; replace hD := And.intro hb hD; clear hb; try simp only [fresh_cons, fresh_nil, and_true, ne_eq, neF] at hD) | simp only [appK, appOsK]); try simp only [go_sem, hD]) | (refine And.intro (by omega) ?_) | (refine ifI (fun hc => ?_) (fun hc => ?_) <;> first | (exfalso; omega) | skip) | ((first | apply hK | ((iterate 1 (clear hK K)); apply hK) | ((iterate 2 (clear hK K)); apply hK) | ((iterate 3 (clear hK K)); apply hK) | ((iterate 4 (clear hK K)); apply hK) | ((iterate 5 (clear hK K)); apply hK)); clear hK K)
    refine retQ_le (St.le_freeze (i := 4) (b := b) (off := 0) (len := 2) (sz := 1) (k := .svs [NR n s, NR n t]) rfl (by rw [find_cons, if_pos rfl]) (by exact Nat.le_refl 2) (rF n [s, t]) (fun j hj => by
      have : j = 0 ∨ j = 1 := by omega
      rcases this with rfl | rfl <;> rfl)) ?_
    rw [del_head]
    simp only [resL_tmp, resL_nil, tupOf, go_sem, hD]
    all_goals first | exact ⟨rfl, rfl⟩ | rfl

set_option maxHeartbeats 1000000 in
set_option maxRecDepth 20000 in
theorem comp_e (n s t b : Nat) (hn : n ≤ 6) (hc : eqR n t s = true) : Ab.Call Tryz.prog 63 [.os b 0 2 1, .fn (.func 45) [] []] [(b, .svs [NR n s, NR n t])] (fun r h' => r = RL n [s] ∧ h' = []) := by
  have cp := equal_r n t s hn
  rw [hc] at cp
  refine Call.enter' (N := 66) (rs := [.tmp 4]) Tryz.func63 rfl rfl rfl (by decide) rfl ?_; simp only [argT]; have hD : (0 : Nat) = 0 := rfl
  repeat' first | (with_reducible refine And.intro (by omega) ?_) | (refine SW.seq_k fun K hK => ?_) | (refine SW.block ?_) | ((first | refine SW.region ?_ | refine SW.regionD (Checked.mixed Tryz.checked) (by kernel_rfl) ?_ | refine SW.cond ?_ | refine SW.skip ?_ | refine SW.exit ?_ | refine SW.ret ?_ | (refine allF_i fun b hb => ?_; replace hD := And.intro hb hD; clear hb; try simp only [fresh_cons, fresh_nil, and_true, ne_eq, neF] at hD) | simp only [appK, appOsK]); try simp only [go_sem, hD]) | (refine And.intro (by omega) ?_) | (refine ifI (fun hc => ?_) (fun hc => ?_) <;> first | (exfalso; omega) | skip) | ((first | apply hK | ((iterate 1 (clear hK K)); apply hK) | ((iterate 2 (clear hK K)); apply hK) | ((iterate 3 (clear hK K)); apply hK) | ((iterate 4 (clear hK K)); apply hK) | ((iterate 5 (clear hK K)); apply hK)); clear hK K)
  obtain ⟨J, hJ⟩ : ∃ J : Nat → St → Prop, ∀ m S, J m S ↔ S = ⟨[(0, .os b 0 2 1), (1, .fn (.func 45) [] []), (5, I64 1)], [(b, .svs [NR n s, NR n t])]⟩ := ⟨fun m S => _, fun _ _ => Iff.rfl⟩
  refine SW.loop' J 1 ((hJ _ _).2 rfl) (by repeat' (first | exact rfl | exact trivial | exact int_eq (by omega) | exact int_eq (by (rw [i64_wrap] <;> omega)) | constructor)) ?_
  intro m S hIn
  obtain rfl := (hJ _ _).1 hIn
  clear hIn
  have wz : IntKind.i64.wrap ((1 : Int) - 1) = 0 := by decide
  have w2 : IntKind.i64.wrap ((1 : Int) + 1) = 2 := by decide
  repeat' first | (with_reducible refine And.intro (by omega) ?_) | (refine SW.seq_k fun K hK => ?_) | (refine SW.block ?_) | ((first | refine SW.region ?_ | refine SW.regionD (Checked.mixed Tryz.checked) (by kernel_rfl) ?_ | refine SW.cond ?_ | refine SW.skip ?_ | refine SW.exit ?_ | refine SW.ret ?_ | refine Call.of_pure (cp) ?_ | refine ⟨_, cp, ?_⟩ | (refine allF_i fun b hb => ?_; replace hD := And.intro hb hD; clear hb; try simp only [fresh_cons, fresh_nil, and_true, ne_eq, neF] at hD) | simp only [appK, appOsK]); try simp only [go_sem, hD, wz, w2]) | (refine And.intro (by omega) ?_) | (refine ifI (fun hc => ?_) (fun hc => ?_) <;> first | (exfalso; omega) | skip) | ((first | apply hK | ((iterate 1 (clear hK K)); apply hK) | ((iterate 2 (clear hK K)); apply hK) | ((iterate 3 (clear hK K)); apply hK) | ((iterate 4 (clear hK K)); apply hK) | ((iterate 5 (clear hK K)); apply hK)); clear hK K)
  obtain ⟨J2, hJ2⟩ : ∃ J2 : Nat → St → Prop, ∀ m S, J2 m S ↔ S = ⟨[(0, .os b 0 2 1), (5, I64 1), (6, .os b 1 1 1), (7, I64 1)], [(b, .svs [NR n s, NR n t])]⟩ := ⟨fun m S => _, fun _ _ => Iff.rfl⟩
  refine SW.loop' J2 0 ((hJ2 _ _).2 rfl) (by repeat' (first | exact rfl | exact trivial | exact int_eq (by omega) | exact int_eq (by (rw [i64_wrap] <;> omega)) | constructor)) ?_
  intro m S hIn
  obtain rfl := (hJ2 _ _).1 hIn
  clear hIn
  have hz : (Tryz.prog.info? 45).bind (fun i => i.zero) = some (.slice none 0 0) := by kernel_rfl
  repeat' first | ((refine Ab.SW.region_clear (l := [_, _, _]) rfl rfl rfl Tryz.underlying38 hz ?_; simp only [go_sem, hD])) | (with_reducible refine And.intro (by omega) ?_) | (refine SW.seq_k fun K hK => ?_) | (refine SW.block ?_) | ((first | refine SW.region ?_ | refine SW.regionD (Checked.mixed Tryz.checked) (by kernel_rfl) ?_ | refine SW.cond ?_ | refine SW.skip ?_ | refine SW.exit ?_ | refine SW.ret ?_ | (refine allF_i fun b hb => ?_; replace hD := And.intro hb hD; clear hb; try simp only [fresh_cons, fresh_nil, and_true, ne_eq, neF] at hD) | simp only [appK, appOsK]); try simp only [go_sem, hD, wz, w2]) | (refine And.intro (by omega) ?_) | (refine ifI (fun hc => ?_) (fun hc => ?_) <;> first | (exfalso; omega) | skip) | ((first | apply hK | ((iterate 1 (clear hK K)); apply hK) | ((iterate 2 (clear hK K)); apply hK) | ((iterate 3 (clear hK K)); apply hK) | ((iterate 4 (clear hK K)); apply hK) | ((iterate 5 (clear hK K)); apply hK)); clear hK K)
  refine ⟨_, _, _, rfl, by rw [find_cons, if_pos rfl], by exact Nat.lt_succ_self 1, rfl, ?_⟩
  simp only [go_sem, hD]
  (first | apply hK | ((iterate 1 (clear hK K)); apply hK) | ((iterate 2 (clear hK K)); apply hK) | ((iterate 3 (clear hK K)); apply hK) | ((iterate 4 (clear hK K)); apply hK) | ((iterate 5 (clear hK K)); apply hK)); clear hK K
  repeat' first | (with_reducible refine And.intro (by omega) ?_) | (refine SW.seq_k fun K hK => ?_) | (refine SW.block ?_) | ((first | refine SW.region ?_ | refine SW.regionD (Checked.mixed Tryz.checked) (by kernel_rfl) ?_ | refine SW.cond ?_ | refine SW.skip ?_ | refine SW.exit ?_ | refine SW.ret ?_ | (refine allF_i fun b hb => ?_; replace hD := And.intro hb hD; clear hb; try simp only [fresh_cons, fresh_nil, and_true, ne_eq, neF] at hD) | simp only [appK, appOsK]); try simp only [go_sem, hD, wz, w2]) | (refine And.intro (by omega) ?_) | (refine ifI (fun hc => ?_) (fun hc => ?_) <;> first | (exfalso; omega) | skip) | ((first | apply hK | ((iterate 1 (clear hK K)); apply hK) | ((iterate 2 (clear hK K)); apply hK) | ((iterate 3 (clear hK K)); apply hK) | ((iterate 4 (clear hK K)); apply hK) | ((iterate 5 (clear hK K)); apply hK)); clear hK K)
  refine retQ_le (St.le_freeze (i := 4) (b := b) (off := 0) (len := 1) (sz := 1) (k := .svs [NR n s, .sc (.slice none 0 0)]) rfl (by rw [find_cons, if_pos rfl]) (by exact Nat.le_succ 1) (rF n [s]) (fun j hj => by
    obtain rfl : j = 0 := by omega
    rfl)) ?_
  rw [del_head]
  simp only [resL_tmp, resL_nil, tupOf, go_sem, hD]
  all_goals first | exact ⟨rfl, rfl⟩ | rfl
end Go.Proofs.YtmcmphmhjikgkaaGreatDoor
