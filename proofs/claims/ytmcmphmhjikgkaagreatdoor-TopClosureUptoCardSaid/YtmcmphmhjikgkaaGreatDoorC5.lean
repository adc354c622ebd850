/- The members of a set; copies of tableaux. -/
import Derived.Test.YtmcmphmhjikgkaaGreatDoorC4
set_option linter.unusedSimpArgs false
set_option linter.unusedVariables false
set_option linter.unusedSectionVars false
namespace Go.Ab.A20
open Go Go.Ab
def tzM (x : Nat) : Nat := if x % 2 = 1 then 0 else if x % 4 = 2 then 1 else if x % 8 = 4 then 2 else if x % 16 = 8 then 3 else if x % 32 = 16 then 4 else 5
/-- The members of a set. -/
def memN (e : Nat) : List Nat := (List.range 6).filter fun i => e.testBit i
theorem mem_fin : ∀ r : _root_.Fin 64, r.val ≠ 0 → memN r.val = tzM r.val :: memN (r.val - lowN r.val) := by decide +kernel
theorem memN_0 : memN 0 = [] := by decide
theorem mem_len (e : Nat) : (memN e).length ≤ 6 := by
  unfold memN
  have := List.length_filter_le (fun i => e.testBit i) (List.range 6)
  rwa [List.length_range] at this
theorem memN_mem {e i : Nat} : i ∈ memN e ↔ i < 6 ∧ e.testBit i = true := by
  unfold memN
  rw [List.mem_filter, List.mem_range]
end Go.Ab.A20
namespace Go.Proofs.YtmcmphmhjikgkaaGreatDoor
open Go Go.Ab Go.Ab.A20
variable [Gl] [Bru]
theorem tzm_and : ∀ x : Fin 64, x.val ≠ 0 → bits .and .u32 (x.val : Int) (IntKind.u32.wrap (0 - (x.val : Int))) = (2 ^ tzM x.val : Nat) := by decide +kernel
theorem tzm_mul : ∀ k : Fin 6, dbT.getD ((IntKind.u32.wrap (((2 ^ k.val : Nat) : Int) * 125613361)).fdiv (2 ^ 27)).toNat 0 = k.val ∧ 0 ≤ (IntKind.u32.wrap (((2 ^ k.val : Nat) : Int) * 125613361)).fdiv (2 ^ 27) ∧ (IntKind.u32.wrap (((2 ^ k.val : Nat) : Int) * 125613361)).fdiv (2 ^ 27) < 32 := by decide

theorem tz_m (x : Nat) (h0 : x ≠ 0) (h : x < 64) : PCall Tryz.prog 114 [U32 x] (I64 (tzM x)) := by
  have e1 := tzm_and ⟨x, h⟩ h0
  simp only at e1
  have k5 : tzM x < 6 := by unfold tzM; repeat' split
                            all_goals omega
  obtain ⟨t1, t2, t3⟩ := tzm_mul ⟨tzM x, k5⟩
  simp only at t1 t2 t3
  obtain ⟨d, hd⟩ := Int.eq_ofNat_of_zero_le t2
  rw [hd] at t1 t3
  rw [Int.toNat_natCast] at t1
  have hd2 : (IntKind.u32.wrap (((2 ^ tzM x : Nat) : Int) * 125613361)).fdiv (2 ^ min 27 32) = (d : Int) := hd
  have d0 : (0 : Int) ≤ ((d : Nat) : Int) := by omega
  have de : ((d : Nat) : Int).toNat = d := Int.toNat_natCast _
  have g0 : ∀ S : St, S.ev (.global 0) = .fp (dbT.map fun z => .sc (.int .u8 z)) := fun S => Bru.g0
  have hx0 : ¬ ((x : Nat) : Int) = 0 := by omega
  have hdl : d < 32 := by omega
  have hl32 : (dbT.map fun z => SV.sc (.int .u8 z)).length = 32 := by simp [dbT]
  have hdb : (dbT.map fun z => SV.sc (.int .u8 z)).getD d .any = .sc (.int .u8 (tzM x)) := by
    rw [List.getD_eq_getElem?_getD, List.getElem?_map]
    rw [List.getD_eq_getElem?_getD] at t1
    have : d < dbT.length := by simp [dbT]; exact hdl
    rw [List.getElem?_eq_getElem this] at t1 ⊢
    simp only [Option.getD_some, Option.map_some] at t1 ⊢
    rw [t1]
  have wc : IntKind.i64.wrap ((tzM x : Nat) : Int) = ((tzM x : Nat) : Int) := by rw [i64_wrap (by omega) (by omega)]
  have hdt : ((dbT.map fun z => SV.sc (.int .u8 z)).drop d).take 1 = [.sc (.int .u8 (tzM x))] := by
    rw [List.drop_eq_getElem_cons (by omega), List.take_succ_cons, List.take_zero]
    rw [getD_list _ _ _ (by omega)] at hdb
    rw [hdb]
  generalize dbT.map (fun z => SV.sc (.int .u8 z)) = T at *
  refine Call.enter' (N := 14) (rs := [.tmp 2]) Tryz.func114 rfl rfl rfl (by decide) rfl ?_; simp only [argT]; have hD : (0 : Nat) = 0 := rfl
  repeat' first | (with_reducible refine And.intro (by omega) ?_) | (refine SW.seq_k fun K hK => ?_) | (refine SW.block ?_) | ((first | refine SW.region ?_ | refine SW.regionD (Checked.mixed Tryz.checked) (by kernel_rfl) ?_ | refine SW.cond ?_ | refine SW.skip ?_ | refine SW.exit ?_ | refine SW.ret ?_ | (refine allF_i fun b hb => ?_; replace hD := And.intro hb hD; clear hb; try simp only [fresh_cons, fresh_nil, and_true, ne_eq, neF] at hD) | simp only [appK, appOsK]); try simp only [go_sem, hD, e1, hd2, d0, de, g0, hx0, t3, hl32, hdt, wc]) | (refine And.intro (by omega) ?_) | (refine ifI (fun hc => ?_) (fun hc => ?_) <;> first | (exfalso; omega) | skip) | ((first | apply hK | ((iterate 1 (clear hK K)); apply hK) | ((iterate 2 (clear hK K)); apply hK) | ((iterate 3 (clear hK K)); apply hK) | ((iterate 4 (clear hK K)); apply hK) | ((iterate 5 (clear hK K)); apply hK)); clear hK K)
  refine ret_pure ?_; simp only [resL_tmp, resL_nil, tupOf, go_sem, hD]



set_option maxHeartbeats 1000000 in
set_option maxRecDepth 20000 in
theorem mem_p (s : Nat) (hs : s < 64) : PCall Tryz.prog 87 [U32 s] (NL (natI (memN s))) := by
  obtain ⟨X, hX⟩ : ∃ X, X = natI (memN s) := ⟨_, rfl⟩
  rw [← hX]
  have hXl : X.length ≤ 6 := by
    rw [hX, natI_len]
    exact mem_len s
  refine Call.enter' (N := 16) (rs := [.tmp 2]) Tryz.func87 rfl rfl rfl (by decide) rfl ?_; simp only [argT]; have hD : (0 : Nat) = 0 := rfl
  repeat' first | (with_reducible refine And.intro (by omega) ?_) | (refine SW.seq_k fun K hK => ?_) | (refine SW.block ?_) | ((first | refine SW.region ?_ | refine SW.regionD (Checked.mixed Tryz.checked) (by kernel_rfl) ?_ | refine SW.cond ?_ | refine SW.skip ?_ | refine SW.exit ?_ | refine SW.ret ?_ | (refine allF_i fun b hb => ?_; replace hD := And.intro hb hD; clear hb; try simp only [fresh_cons, fresh_nil, and_true, ne_eq, neF] at hD) | simp only [appK, appOsK]); try simp only [go_sem, hD]) | (refine And.intro (by omega) ?_) | (refine ifI (fun hc => ?_) (fun hc => ?_) <;> first | (exfalso; omega) | skip) | ((first | apply hK | ((iterate 1 (clear hK K)); apply hK) | ((iterate 2 (clear hK K)); apply hK) | ((iterate 3 (clear hK K)); apply hK) | ((iterate 4 (clear hK K)); apply hK) | ((iterate 5 (clear hK K)); apply hK)); clear hK K)
  obtain ⟨I, hI⟩ : ∃ I : Nat → St → Prop, ∀ k S, I k S ↔ (∃ (r : Nat) (x : SV) (h : Heap) (acc : List Int), r < 64 ∧ k = r ∧ Acc 1 x h [] acc.length (fC nC1 acc) ∧ X = acc ++ natI (memN r) ∧ S = ⟨[(0, U32 r), (3, x)], h⟩) := ⟨fun k S => _, fun _ _ => Iff.rfl⟩
  refine SW.loop' I s ((hI _ _).2 ⟨s, _, _, [], hs, rfl, .nil _ _, hX, rfl⟩) (by repeat' (first | exact rfl | exact trivial | exact int_eq (by omega) | exact int_eq (by (rw [i64_wrap] <;> omega)) | constructor)) ?_
  clear hX
  intro k S hIn
  obtain ⟨r, x, h, acc, hr, rfl, hB, hC, rfl⟩ := (hI _ _).1 hIn
  clear hIn
  by_cases h0 : k = 0
  · subst h0
    have z0 : ((0 : Nat) : Int) = 0 := rfl
    rw [memN_0, show natI [] = ([] : List Int) from rfl, List.append_nil] at hC
    subst hC
    repeat' first | (with_reducible refine And.intro (by omega) ?_) | (refine SW.seq_k fun K hK => ?_) | (refine SW.block ?_) | ((first | refine SW.region ?_ | refine SW.regionD (Checked.mixed Tryz.checked) (by kernel_rfl) ?_ | refine SW.cond ?_ | refine SW.skip ?_ | refine SW.exit ?_ | refine SW.ret ?_ | (refine allF_i fun b hb => ?_; replace hD := And.intro hb hD; clear hb; try simp only [fresh_cons, fresh_nil, and_true, ne_eq, neF] at hD) | simp only [appK, appOsK]); try simp only [go_sem, hD, z0]) | (refine And.intro (by omega) ?_) | (refine ifI (fun hc => ?_) (fun hc => ?_) <;> first | (exfalso; omega) | skip) | ((first | apply hK | ((iterate 1 (clear hK K)); apply hK) | ((iterate 2 (clear hK K)); apply hK) | ((iterate 3 (clear hK K)); apply hK) | ((iterate 4 (clear hK K)); apply hK) | ((iterate 5 (clear hK K)); apply hK)); clear hK K)
    refine retQ_le ((St.le_acc_fl (i := 2) (n := X.length) (sz := 1) (x := x) ?_ hB (nF X) (fun j hj => fC_at nC1_len 0 _ j hj)).trans St.le_drop) ?_
    · exact rfl
    · simp only [resL_tmp, resL_nil, tupOf, go_sem, hD]
  · have tz := tz_m k h0 hr
    obtain ⟨_, e2, _, e4, e5, e6⟩ := low_N hr h0
    have e3 : memN k = tzM k :: memN (k - lowN k) := mem_fin ⟨k, hr⟩ h0
    have hki : ¬ ((k : Nat) : Int) = 0 := by omega
    rw [e3] at hC
    have hC2 : X = (acc ++ [((tzM k : Nat) : Int)]) ++ natI (memN (k - lowN k)) := by rw [hC]; unfold natI; simp
    have hCl := congrArg List.length hC
    rw [List.length_append, natI_len, List.length_cons] at hCl
    have ba : (acc.length + 1) * 8 ≤ 140737488355328 := by omega
    generalize tzM k = z at *
    generalize lowN k = w at *
    rcases hB.casesH with ⟨e0, e1, rfl, rfl⟩ | ⟨g, hgf, e0, rfl, hle⟩
    · have hLn : acc = [] := List.eq_nil_of_length_eq_zero e0
      subst hLn
      repeat' first | (with_reducible refine And.intro (by omega) ?_) | (refine SW.seq_k fun K hK => ?_) | (refine SW.block ?_) | ((first | refine SW.region ?_ | refine SW.regionD (Checked.mixed Tryz.checked) (by kernel_rfl) ?_ | refine SW.cond ?_ | refine SW.skip ?_ | refine SW.exit ?_ | refine SW.ret ?_ | refine Call.of_pure (tz) ?_ | refine ⟨_, tz, ?_⟩ | (refine allF_i fun b hb => ?_; replace hD := And.intro hb hD; clear hb; try simp only [fresh_cons, fresh_nil, and_true, ne_eq, neF] at hD) | simp only [appK, appOsK]); try simp only [go_sem, hD, hki, e2, ba, true_implies]) | (refine And.intro (by omega) ?_) | (refine ifI (fun hc => ?_) (fun hc => ?_) <;> first | (exfalso; omega) | skip) | ((first | apply hK | ((iterate 1 (clear hK K)); apply hK) | ((iterate 2 (clear hK K)); apply hK) | ((iterate 3 (clear hK K)); apply hK) | ((iterate 4 (clear hK K)); apply hK) | ((iterate 5 (clear hK K)); apply hK)); clear hK K)
      refine Rnd.le (St.le_pick [(b, .ints .i64 [(z : Int)])] ?_ ?_) (Rnd.sub (k - w) (by omega) ((hI _ _).2 ⟨_, _, _, [(z : Int)], by omega, rfl, .inr ⟨b, .ints .i64 [(z : Int)], by simp [fresh_nil], rfl, rfl, rfl, rfl, rfl⟩, hC2, rfl⟩) (by repeat' (first | exact rfl | exact trivial | exact int_eq (by omega) | exact int_eq (by (rw [i64_wrap] <;> omega)) | constructor)))
      · repeat' (first | exact (fun x hx => (List.not_mem_nil hx).elim) | refine List.forall_mem_cons.2 ⟨?_, ?_⟩ | exact List.mem_cons_self | apply List.mem_cons_of_mem)
      · simp [fresh_cons, fresh_nil, hD]
    · refine Ab.SW.le (hle _) ?_
      repeat' first | (with_reducible refine And.intro (by omega) ?_) | (refine SW.seq_k fun K hK => ?_) | (refine SW.block ?_) | ((first | refine SW.region ?_ | refine SW.regionD (Checked.mixed Tryz.checked) (by kernel_rfl) ?_ | refine SW.cond ?_ | refine SW.skip ?_ | refine SW.exit ?_ | refine SW.ret ?_ | refine Call.of_pure (tz) ?_ | refine ⟨_, tz, ?_⟩ | (refine allF_i fun b hb => ?_; replace hD := And.intro hb hD; clear hb; try simp only [fresh_cons, fresh_nil, and_true, ne_eq, neF] at hD) | simp only [appK, appOsK]); try simp only [go_sem, hD, hki, e2, ba, true_implies, e0]) | (refine And.intro (by omega) ?_) | (refine ifI (fun hc => ?_) (fun hc => ?_) <;> first | (exfalso; omega) | skip) | ((first | apply hK | ((iterate 1 (clear hK K)); apply hK) | ((iterate 2 (clear hK K)); apply hK) | ((iterate 3 (clear hK K)); apply hK) | ((iterate 4 (clear hK K)); apply hK) | ((iterate 5 (clear hK K)); apply hK)); clear hK K)
      refine Rnd.le (St.le_pick [(b, .svs (fC nC1 acc ++ nC1 (z : Int)))] ?_ ?_) (Rnd.sub (k - w) (by omega) ((hI _ _).2 ⟨_, _, _, acc ++ [(z : Int)], by omega, rfl, by rw [List.length_append, ← fC_snoc]; exact Acc.osH (by simp [fresh_nil]) (by rw [List.length_append, ← e0]; simp [nC1]), hC2, rfl⟩) (by repeat' (first | exact rfl | exact trivial | exact int_eq (by omega) | exact int_eq (by (rw [i64_wrap] <;> omega)) | constructor)))
      · repeat' (first | exact (fun x hx => (List.not_mem_nil hx).elim) | refine List.forall_mem_cons.2 ⟨?_, ?_⟩ | exact List.mem_cons_self | apply List.mem_cons_of_mem)
      · simp [fresh_cons, fresh_nil, hD]
end Go.Proofs.YtmcmphmhjikgkaaGreatDoor
