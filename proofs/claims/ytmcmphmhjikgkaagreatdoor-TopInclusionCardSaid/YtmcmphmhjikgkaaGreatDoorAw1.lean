/- The least member of a set; the examples hold. -/
import Derived.Test.YtmcmphmhjikgkaaGreatDoorAw0
import Derived.Test.YtmcmphmhjikgkaaGreatDoorB1
set_option linter.unusedSimpArgs false
set_option linter.unusedVariables false
set_option linter.unusedSectionVars false
namespace Go.Ab.A20
open Go Go.Ab Go.Proofs
abbrev U32 (n : Int) : SV := .sc (.int .u32 n)
def dbT : List Int := [0, 1, 28, 2, 29, 14, 24, 3, 30, 22, 20, 15, 25, 17, 4, 8, 31, 27, 13, 23, 21, 19, 16, 7, 26, 12, 18, 6, 11, 5, 10, 9]
end Go.Ab.A20
namespace Go.Proofs.YtmcmphmhjikgkaaGreatDoor
open Go Go.Ab Go.Ab.A20
class Bru [Gl] : Prop where
  g0 : Gl.gl 0 = .fp (dbT.map fun z => .sc (.int .u8 z))
variable [Gl] [Bru]
theorem tz_and : ∀ x : Fin 32, x.val ≠ 0 → bits .and .u32 (x.val : Int) (IntKind.u32.wrap (0 - (x.val : Int))) = (2 ^ tzN x.val : Nat) := by decide
theorem tz_mul : ∀ k : Fin 5, dbT.getD ((IntKind.u32.wrap (((2 ^ k.val : Nat) : Int) * 125613361)).fdiv (2 ^ 27)).toNat 0 = k.val ∧ 0 ≤ (IntKind.u32.wrap (((2 ^ k.val : Nat) : Int) * 125613361)).fdiv (2 ^ 27) ∧ (IntKind.u32.wrap (((2 ^ k.val : Nat) : Int) * 125613361)).fdiv (2 ^ 27) < 32 := by decide
theorem tz_c (x : Nat) (h0 : x ≠ 0) (h : x < 32) : PCall Tryz.prog 114 [U32 x] (I64 (tzN x)) := by
  have e1 := tz_and ⟨x, h⟩ h0
  simp only at e1
  have k5 : tzN x < 5 := by unfold tzN; repeat' split
                            all_goals omega
  obtain ⟨t1, t2, t3⟩ := tz_mul ⟨tzN x, k5⟩
  simp only at t1 t2 t3
  obtain ⟨d, hd⟩ := Int.eq_ofNat_of_zero_le t2
  rw [hd] at t1 t3
  rw [Int.toNat_natCast] at t1
  have hd2 : (IntKind.u32.wrap (((2 ^ tzN x : Nat) : Int) * 125613361)).fdiv (2 ^ min 27 32) = (d : Int) := hd
  have d0 : (0 : Int) ≤ ((d : Nat) : Int) := by omega
  have de : ((d : Nat) : Int).toNat = d := Int.toNat_natCast _
  have g0 : ∀ S : St, S.ev (.global 0) = .fp (dbT.map fun z => .sc (.int .u8 z)) := fun S => Bru.g0
  have hx0 : ¬ ((x : Nat) : Int) = 0 := by omega
  have hdl : d < 32 := by omega
  have hl32 : (dbT.map fun z => SV.sc (.int .u8 z)).length = 32 := by simp [dbT]
  have hdb : (dbT.map fun z => SV.sc (.int .u8 z)).getD d .any = .sc (.int .u8 (tzN x)) := by
    rw [List.getD_eq_getElem?_getD, List.getElem?_map]
    rw [List.getD_eq_getElem?_getD] at t1
    have : d < dbT.length := by simp [dbT]; exact hdl
    rw [List.getElem?_eq_getElem this] at t1 ⊢
    simp only [Option.getD_some, Option.map_some] at t1 ⊢
    rw [t1]
  have wc : IntKind.i64.wrap ((tzN x : Nat) : Int) = ((tzN x : Nat) : Int) := by rw [i64_wrap (by omega) (by omega)]
  have hdt : ((dbT.map fun z => SV.sc (.int .u8 z)).drop d).take 1 = [.sc (.int .u8 (tzN x))] := by
    rw [List.drop_eq_getElem_cons (by omega), List.take_succ_cons, List.take_zero]
    rw [getD_list _ _ _ (by omega)] at hdb
    rw [hdb]
  generalize dbT.map (fun z => SV.sc (.int .u8 z)) = T at *
  refine Call.enter' (N := 14) (rs := [.tmp 2]) Tryz.func114 rfl rfl rfl (by decide) rfl ?_; simp only [argT]; have hD : (0 : Nat) = 0 := rfl
  repeat' first | (with_reducible refine And.intro (by omega) ?_) | (refine SW.seq_k fun K hK => ?_) | (refine SW.block ?_) | ((first | refine SW.region ?_ | refine SW.regionD (Checked.mixed Tryz.checked) (by kernel_rfl) ?_ | refine SW.cond ?_ | refine SW.skip ?_ | refine SW.exit ?_ | refine SW.ret ?_ | (refine allF_i fun b hb => ?_; replace hD := And.intro hb hD; clear hb; try simp only [fresh_cons, fresh_nil, and_true, ne_eq, neF] at hD) | simp only [appK, appOsK]); try simp only [go_sem, hD, e1, hd2, d0, de, g0, hx0, t3, hl32, hdt, wc]) | (refine And.intro (by omega) ?_) | (refine ifI (fun hc => ?_) (fun hc => ?_) <;> first | (exfalso; omega) | skip) | (apply hK; clear hK K) | (clear hK K; apply hK; clear hK K) | (clear hK K; clear hK K; apply hK; clear hK K) | (clear hK K; clear hK K; clear hK K; apply hK; clear hK K) | (clear hK K; clear hK K; clear hK K; clear hK K; apply hK; clear hK K) | (clear hK K; clear hK K; clear hK K; clear hK K; clear hK K; apply hK; clear hK K)
  refine ret_pure ?_; simp only [resL_tmp, resL_nil, tupOf, go_sem, hD]
theorem prA_ok : PrOK Tryz.prog (prA 114) := by
  intro g f vs r hg hf
  unfold prA at hg
  cases hb : Nat.beq g 114 with
  | false => rw [hb] at hg; cases hg
  | true =>
    rw [hb] at hg
    rw [Nat.beq_eq] at hb
    subst hb
    cases hg
    unfold tzR at hf
    split at hf
    · rename_i n
      cases hc : (Nat.blt 0 n && Nat.blt n 32) with
      | false => rw [hc] at hf; cases hf
      | true =>
        rw [hc] at hf
        cases hf
        simp only [Bool.and_eq_true, Nat.blt_eq] at hc
        exact tz_c n (by omega) hc.2
    · cases hf
theorem awake_c : PCall Tryz.prog 6 [] (SB true) := pcall_of_readsF mixed prA_ok awake_reads
end Go.Proofs.YtmcmphmhjikgkaaGreatDoor
