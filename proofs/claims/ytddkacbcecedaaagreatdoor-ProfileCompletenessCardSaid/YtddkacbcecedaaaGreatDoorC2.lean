/- Contracts: members of small sets. -/
import Derived.Test.YtddkacbcecedaaaGreatDoorI2
set_option linter.unusedSimpArgs false
set_option linter.unusedVariables false
set_option linter.unusedSectionVars false
namespace Go.Ab.A34
open Go Go.Ab Go.Proofs
abbrev U32 (n : Int) : SV := .sc (.int .u32 n)
def dbT : List Int := [0, 1, 28, 2, 29, 14, 24, 3, 30, 22, 20, 15, 25, 17, 4, 8, 31, 27, 13, 23, 21, 19, 16, 7, 26, 12, 18, 6, 11, 5, 10, 9]
/-- The least member. -/
def tzN (x : Nat) : Nat := if x % 2 = 1 then 0 else if x % 4 = 2 then 1 else if x % 8 = 4 then 2 else if x % 16 = 8 then 3 else 4
/-- Without the least member. -/
def clrN (x : Nat) : Nat := x - 2 ^ tzN x
def memF : Nat → Nat → List Int
  | 0, _ => []
  | g + 1, x => if x = 0 then [] else (tzN x : Int) :: memF g (clrN x)
/-- The members. -/
def memS (x : Nat) : List Int := memF x x
end Go.Ab.A34
namespace Go.Proofs.YtddkacbcecedaaaGreatDoor
open Go Go.Ab Go.Ab.A34
/-- A table of the library. -/
class Bru [Gl] : Prop where
  g0 : Gl.gl 0 = .fp (dbT.map fun z => .sc (.int .u8 z))
variable [Gl] [Tabs] [Bru]

theorem tz_and : ∀ x : Fin 32, x.val ≠ 0 → bits .and .u32 (x.val : Int) (IntKind.u32.wrap (0 - (x.val : Int))) = (2 ^ tzN x.val : Nat) := by decide
theorem tz_mul : ∀ k : Fin 5, dbT.getD ((IntKind.u32.wrap (((2 ^ k.val : Nat) : Int) * 125613361)).fdiv (2 ^ 27)).toNat 0 = k.val ∧ 0 ≤ (IntKind.u32.wrap (((2 ^ k.val : Nat) : Int) * 125613361)).fdiv (2 ^ 27) ∧ (IntKind.u32.wrap (((2 ^ k.val : Nat) : Int) * 125613361)).fdiv (2 ^ 27) < 32 := by decide

theorem tz_c (x : Nat) (h0 : x ≠ 0) (h : x < 32) : PCall Tryz.prog 52 [U32 x] (I64 (tzN x)) := by
  have e1 := tz_and ⟨x, h⟩ h0
  simp only at e1
  have k5 : tzN x < 5 := by unfold tzN; repeat' split
                            all_goals omega
  obtain ⟨t1, t2, t3⟩ := tz_mul ⟨tzN x, k5⟩
  simp only at t1 t2 t3
  obtain ⟨d, hd⟩ := Int.eq_ofNat_of_zero_le t2
  rw [hd] at t1 t3
  rw [Int.toNat_natCast] at t1
  have hd2 : (IntKind.u32.wrap (((2 ^ tzN x : Nat) : Int) * 125613361)).fdiv (2 ^ min 27 32) = (d : Int) := hd
  have d0 : (0 : Int) ≤ ((d : Nat) : Int) := by omega
  have de : ((d : Nat) : Int).toNat = d := Int.toNat_natCast _
  have g0 : ∀ S : St, S.ev (.global 0) = .fp (dbT.map fun z => .sc (.int .u8 z)) := fun S => Bru.g0
  have hx0 : ¬ ((x : Nat) : Int) = 0 := by omega
  have hdl : d < 32 := by omega
  have hl32 : (dbT.map fun z => SV.sc (.int .u8 z)).length = 32 := by simp [dbT]
  have hdb : (dbT.map fun z => SV.sc (.int .u8 z)).getD d .any = .sc (.int .u8 (tzN x)) := by
    rw [List.getD_eq_getElem?_getD, List.getElem?_map]
    rw [List.getD_eq_getElem?_getD] at t1
    have : d < dbT.length := by simp [dbT]; exact hdl
    rw [List.getElem?_eq_getElem this] at t1 ⊢
    simp only [Option.getD_some, Option.map_some] at t1 ⊢
    rw [t1]
  have wc : IntKind.i64.wrap ((tzN x : Nat) : Int) = ((tzN x : Nat) : Int) := by rw [i64_wrap (by omega) (by omega)]
  have hdt : ((dbT.map fun z => SV.sc (.int .u8 z)).drop d).take 1 = [.sc (.int .u8 (tzN x))] := by
    rw [List.drop_eq_getElem_cons (by omega), List.take_succ_cons, List.take_zero]
    rw [getD_list _ _ _ (by omega)] at hdb
    rw [hdb]
  generalize dbT.map (fun z => SV.sc (.int .u8 z)) = T at *
  refine Call.enter' (N := 14) (rs := [.tmp 2]) Tryz.func52 rfl rfl rfl (by decide) rfl ?_; simp only [argT]; have hD : (0 : Nat) = 0 := rfl
  repeat' first | (with_reducible refine And.intro (by omega) ?_) | (refine SW.seq_k fun K hK => ?_) | (refine SW.block ?_) | ((first | refine SW.region ?_ | refine SW.regionD (Checked.mixed Tryz.checked) (by kernel_rfl) ?_ | refine SW.cond ?_ | refine SW.skip ?_ | refine SW.exit ?_ | refine SW.ret ?_ | (refine allF_i fun b hb => ?_; replace hD := And.intro hb hD; clear hb; try simp only [fresh_cons, fresh_nil, and_true, ne_eq, neF] at hD) | simp only [appK, appOsK]); try simp only [go_sem, hD, e1, hd2, d0, de, g0, hx0, t3, hl32, hdt, wc]) | (refine And.intro (by omega) ?_) | (refine ifI (fun hc => ?_) (fun hc => ?_) <;> first | (exfalso; omega) | skip) | ((first | apply hK | ((iterate 1 (clear hK K)); apply hK) | ((iterate 2 (clear hK K)); apply hK) | ((iterate 3 (clear hK K)); apply hK) | ((iterate 4 (clear hK K)); apply hK) | ((iterate 5 (clear hK K)); apply hK)); clear hK K)
  refine ret_pure ?_; simp only [resL_tmp, resL_nil, tupOf, go_sem, hD]

theorem mem_and : ∀ x : Fin 32, x.val ≠ 0 → bits .and .u32 (x.val : Int) (IntKind.u32.wrap ((x.val : Int) - 1)) = (clrN x.val : Nat) := by decide
theorem mem_step : ∀ x : Fin 32, x.val ≠ 0 → memS x.val = (tzN x.val : Int) :: memS (clrN x.val) := by decide
theorem mem_len : ∀ x : Fin 32, (memS x.val).length ≤ 5 := by decide
theorem clr_lt : ∀ x : Fin 32, x.val ≠ 0 → clrN x.val < x.val := by decide

set_option maxHeartbeats 1000000 in
set_option maxRecDepth 20000 in
theorem members_c (s : Nat) (hs : s < 32) : PCall Tryz.prog 27 [U32 s] (NL (memS s)) := by
  obtain ⟨X, hX⟩ : ∃ X, X = memS s := ⟨_, rfl⟩
  have hXl : X.length ≤ 5 := by rw [hX]; exact mem_len ⟨s, hs⟩
  rw [← hX]
  refine Call.enter' (N := 16) (rs := [.tmp 2]) Tryz.func27 rfl rfl rfl (by decide) rfl ?_; simp only [argT]; have hD : (0 : Nat) = 0 := rfl
  repeat' first | (with_reducible refine And.intro (by omega) ?_) | (refine SW.seq_k fun K hK => ?_) | (refine SW.block ?_) | ((first | refine SW.region ?_ | refine SW.regionD (Checked.mixed Tryz.checked) (by kernel_rfl) ?_ | refine SW.cond ?_ | refine SW.skip ?_ | refine SW.exit ?_ | refine SW.ret ?_ | (refine allF_i fun b hb => ?_; replace hD := And.intro hb hD; clear hb; try simp only [fresh_cons, fresh_nil, and_true, ne_eq, neF] at hD) | simp only [appK, appOsK]); try simp only [go_sem, hD]) | (refine And.intro (by omega) ?_) | (refine ifI (fun hc => ?_) (fun hc => ?_) <;> first | (exfalso; omega) | skip) | ((first | apply hK | ((iterate 1 (clear hK K)); apply hK) | ((iterate 2 (clear hK K)); apply hK) | ((iterate 3 (clear hK K)); apply hK) | ((iterate 4 (clear hK K)); apply hK) | ((iterate 5 (clear hK K)); apply hK)); clear hK K)
  obtain ⟨I, hI⟩ : ∃ I : Nat → St → Prop, ∀ k S, I k S ↔ (∃ (x : SV) (h : Heap) (acc : List Int), k < 32 ∧ Acc 1 x h [] acc.length (fC nC1 acc) ∧ X = acc ++ memS k ∧ S = ⟨[(0, U32 k), (3, x)], h⟩) := ⟨fun k S => _, fun _ _ => Iff.rfl⟩
  refine SW.loop' I s ((hI _ _).2 ⟨_, _, [], hs, .nil _ _, by rw [hX]; rfl, rfl⟩) (by repeat' (first | exact rfl | exact trivial | exact int_eq (by omega) | exact int_eq (by (rw [i64_wrap] <;> omega)) | constructor)) ?_
  clear hX
  intro k S hIn
  obtain ⟨x, h, acc, hk, hB, hC, rfl⟩ := (hI _ _).1 hIn
  clear hIn
  by_cases hz : k = 0
  · subst hz
    have h0 : ((0 : Nat) : Int) = 0 := rfl
    have hm0 : memS 0 = [] := rfl
    rw [hm0, List.append_nil] at hC
    subst hC
    repeat' first | (with_reducible refine And.intro (by omega) ?_) | (refine SW.seq_k fun K hK => ?_) | (refine SW.block ?_) | ((first | refine SW.region ?_ | refine SW.regionD (Checked.mixed Tryz.checked) (by kernel_rfl) ?_ | refine SW.cond ?_ | refine SW.skip ?_ | refine SW.exit ?_ | refine SW.ret ?_ | (refine allF_i fun b hb => ?_; replace hD := And.intro hb hD; clear hb; try simp only [fresh_cons, fresh_nil, and_true, ne_eq, neF] at hD) | simp only [appK, appOsK]); try simp only [go_sem, hD, h0]) | (refine And.intro (by omega) ?_) | (refine ifI (fun hc => ?_) (fun hc => ?_) <;> first | (exfalso; omega) | skip) | ((first | apply hK | ((iterate 1 (clear hK K)); apply hK) | ((iterate 2 (clear hK K)); apply hK) | ((iterate 3 (clear hK K)); apply hK) | ((iterate 4 (clear hK K)); apply hK) | ((iterate 5 (clear hK K)); apply hK)); clear hK K)
    refine retQ_le ((St.le_acc_fl (i := 2) (n := X.length) (sz := 1) (x := x) ?_ hB (fun j => [I64 (X.getD j 0)]) (fun j hj => fC_at nC1_len 0 _ j hj)).trans St.le_drop) ?_
    · exact rfl
    · simp only [resL_tmp, resL_nil, tupOf, go_sem, hD]
      rfl
  · have hz0 : ¬ ((k : Nat) : Int) = 0 := by omega
    have tz := tz_c k hz hk
    have e2 := mem_and ⟨k, hk⟩ hz
    have e3 := mem_step ⟨k, hk⟩ hz
    have e4 := clr_lt ⟨k, hk⟩ hz
    simp only at e2 e3 e4
    rw [e3] at hC
    have hCl := congrArg List.length hC
    rw [List.length_append, List.length_cons] at hCl
    have ba : (acc.length + 1) * 8 ≤ 140737488355328 := by omega
    rcases hB.casesH with ⟨e0, e1, rfl, rfl⟩ | ⟨g, hgf, e0, rfl, hle⟩
    · have hLn : acc = [] := List.eq_nil_of_length_eq_zero e0
      subst hLn
      repeat' first | (with_reducible refine And.intro (by omega) ?_) | (refine SW.seq_k fun K hK => ?_) | (refine SW.block ?_) | ((first | refine SW.region ?_ | refine SW.regionD (Checked.mixed Tryz.checked) (by kernel_rfl) ?_ | refine SW.cond ?_ | refine SW.skip ?_ | refine SW.exit ?_ | refine SW.ret ?_ | refine Call.of_pure (tz) ?_ | refine ⟨_, tz, ?_⟩ | (refine allF_i fun b hb => ?_; replace hD := And.intro hb hD; clear hb; try simp only [fresh_cons, fresh_nil, and_true, ne_eq, neF] at hD) | simp only [appK, appOsK]); try simp only [go_sem, hD, hz0, e2, ba, true_implies]) | (refine And.intro (by omega) ?_) | (refine ifI (fun hc => ?_) (fun hc => ?_) <;> first | (exfalso; omega) | skip) | ((first | apply hK | ((iterate 1 (clear hK K)); apply hK) | ((iterate 2 (clear hK K)); apply hK) | ((iterate 3 (clear hK K)); apply hK) | ((iterate 4 (clear hK K)); apply hK) | ((iterate 5 (clear hK K)); apply hK)); clear hK K)
      refine Rnd.le (St.le_pick [(b, .ints .i64 [(tzN k : Int)])] ?_ ?_) (Rnd.sub (clrN k) (by omega) ((hI _ _).2 ⟨_, _, [(tzN k : Int)], by omega, .inr ⟨b, .ints .i64 [(tzN k : Int)], by simp [fresh_nil], rfl, rfl, rfl, rfl⟩, hC, rfl⟩) (by repeat' (first | exact rfl | exact trivial | exact int_eq (by omega) | exact int_eq (by (rw [i64_wrap] <;> omega)) | constructor)))
      · repeat' (first | exact (fun x hx => (List.not_mem_nil hx).elim) | refine List.forall_mem_cons.2 ⟨?_, ?_⟩ | exact List.mem_cons_self | apply List.mem_cons_of_mem)
      · simp [fresh_cons, fresh_nil, hD]
    · refine Ab.SW.le (hle _) ?_
      repeat' first | (with_reducible refine And.intro (by omega) ?_) | (refine SW.seq_k fun K hK => ?_) | (refine SW.block ?_) | ((first | refine SW.region ?_ | refine SW.regionD (Checked.mixed Tryz.checked) (by kernel_rfl) ?_ | refine SW.cond ?_ | refine SW.skip ?_ | refine SW.exit ?_ | refine SW.ret ?_ | refine Call.of_pure (tz) ?_ | refine ⟨_, tz, ?_⟩ | (refine allF_i fun b hb => ?_; replace hD := And.intro hb hD; clear hb; try simp only [fresh_cons, fresh_nil, and_true, ne_eq, neF] at hD) | simp only [appK, appOsK]); try simp only [go_sem, hD, hz0, e2, ba, true_implies, e0]) | (refine And.intro (by omega) ?_) | (refine ifI (fun hc => ?_) (fun hc => ?_) <;> first | (exfalso; omega) | skip) | ((first | apply hK | ((iterate 1 (clear hK K)); apply hK) | ((iterate 2 (clear hK K)); apply hK) | ((iterate 3 (clear hK K)); apply hK) | ((iterate 4 (clear hK K)); apply hK) | ((iterate 5 (clear hK K)); apply hK)); clear hK K)
      refine Rnd.le (St.le_pick [(b, .svs (fC nC1 acc ++ nC1 (tzN k : Int)))] ?_ ?_) (Rnd.sub (clrN k) (by omega) ((hI _ _).2 ⟨_, _, acc ++ [(tzN k : Int)], by omega, by rw [List.length_append, ← fC_snoc]; exact Acc.osH (by simp [fresh_nil]) (by rw [List.length_append, ← e0]; simp [nC1]), by rw [hC]; simp, rfl⟩) (by repeat' (first | exact rfl | exact trivial | exact int_eq (by omega) | exact int_eq (by (rw [i64_wrap] <;> omega)) | constructor)))
      · repeat' (first | exact (fun x hx => (List.not_mem_nil hx).elim) | refine List.forall_mem_cons.2 ⟨?_, ?_⟩ | exact List.mem_cons_self | apply List.mem_cons_of_mem)
      · simp [fresh_cons, fresh_nil, hD]
end Go.Proofs.YtddkacbcecedaaaGreatDoor
