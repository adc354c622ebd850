/- Contracts: the reference's Join; the law. (The numbers are those of the seat with LexerJoin.) -/
import Derived.Test.YtajbifibhgppfaaGreatDoorC9
import Derived.Test.YtajbifibhgppfaaGreatDoorM4
set_option linter.unusedSimpArgs false
set_option linter.unusedVariables false
set_option linter.unusedSectionVars false
namespace Go.Ab.A05
open Go Go.Ab Go.Ab.A01 Go.Proofs.YtajbifibhgppfaaGreatDoor
/-- The token before a place. -/
def pvT (L : List Tok) (i : Nat) : Option Tok := if i = 0 then .none else some (L.getD (i - 1) tok0)
theorem app_mkB (a : List UInt8) (s : ByteArray) : mkB a ++ s = mkB (a ++ s.data.toList) := by
  rw [← mkB_list (mkB a ++ s), ByteArray.data_append, Array.toList_append, mkB_L]
theorem app_list (a s : ByteArray) : a ++ s = mkB (a.data.toList ++ s.data.toList) := by
  rw [← mkB_list (a ++ s), ByteArray.data_append, Array.toList_append]
end Go.Ab.A05
namespace Go.Proofs.YtajbifibhgppfaaGreatDoor
open Go Go.Ab Go.Ab.A01 Go.Ab.A05
variable [Gl] [Tabs] [Syms]

set_option maxHeartbeats 4000000 in
set_option maxRecDepth 20000 in
theorem join_r (l : List Tok) (hl : l.length ≤ 30) (hs : ∀ t ∈ l, t.text.size ≤ 1000) : PCall Tryz.prog 8 [TS l] (Str (mkB (jq .none (plainS l)))) := by
  have pl := plain_r l (by omega) (fun t ht => by have := hs t ht; omega)
  have hP := plain_Pl l
  have hPl := plain_len l
  generalize plainS l = L at *
  obtain ⟨J, hJ⟩ : ∃ J, J = jq .none L := ⟨_, rfl⟩
  rw [← hJ]
  have hC0 : J = [] ++ jq (pvT L 0) (L.drop 0) := hJ
  clear hJ
  refine Call.enter' (N := 67) (rs := [.tmp 2]) Tryz.func8 rfl rfl rfl (by decide) rfl ?_; simp only [argT]; have hD : (0 : Nat) = 0 := rfl
  repeat' first | (with_reducible refine And.intro (by omega) ?_) | (refine SW.seq_k fun K hK => ?_) | (refine SW.block ?_) | ((first | refine SW.region ?_ | refine SW.regionD (Checked.mixed Tryz.checked) (by kernel_rfl) ?_ | refine SW.cond ?_ | refine SW.skip ?_ | refine SW.exit ?_ | refine SW.ret ?_ | refine Call.of_pure (pl) ?_ | refine ⟨_, pl, ?_⟩ | (refine allF_i fun b hb => ?_; replace hD := And.intro hb hD; clear hb; try simp only [fresh_cons, fresh_nil, and_true, ne_eq, neF] at hD) | simp only [appK, appOsK]); try simp only [go_sem, ↓reduceIte, reduceCtorEq, Nat.reduceAdd, Nat.reduceMul, Nat.reduceSub, Nat.reduceLT, Nat.reduceLeDiff, Nat.reduceEqDiff, Nat.reduceBEq, Nat.reduceBneDiff, Int.reduceToNat, Int.reduceEq, hD, true_implies]) | (refine And.intro (by omega) ?_) | (refine ifI (fun hc => ?_) (fun hc => ?_) <;> first | (exfalso; omega) | skip) | (first | (apply hK; clear hK K) | ((iterate 1 (clear hK K)); apply hK; clear hK K) | ((iterate 2 (clear hK K)); apply hK; clear hK K) | ((iterate 3 (clear hK K)); apply hK; clear hK K) | ((iterate 4 (clear hK K)); apply hK; clear hK K) | ((iterate 5 (clear hK K)); apply hK; clear hK K))
  obtain ⟨I, hI⟩ : ∃ I : Nat → St → Prop, ∀ k S, I k S ↔ (∃ (i : Nat) (acc : List UInt8), k = L.length - i ∧ i ≤ L.length ∧ acc.length ≤ 1001 * i ∧ J = acc ++ jq (pvT L i) (L.drop i) ∧ S = ⟨[(0, TS L), (3, Str (mkB acc)), (4, I64 i)], []⟩) := ⟨fun k S => _, fun _ _ => Iff.rfl⟩
  refine SW.loop' I L.length ((hI _ _).2 ⟨0, [], rfl, Nat.zero_le _, Nat.zero_le _, hC0, rfl⟩) (by repeat' (first | exact rfl | exact trivial | exact int_eq (by omega) | exact int_eq (by (rw [i64_wrap] <;> omega)) | constructor)) ?_
  clear hC0
  intro k S hIn
  obtain ⟨i, acc, rfl, hi, hacc, hC, rfl⟩ := (hI _ _).1 hIn
  clear hIn
  have ie : ((i : Nat) : Int).toNat = i := Int.toNat_natCast _
  have i0 : (0 : Int) ≤ ((i : Nat) : Int) := by omega
  by_cases hlt : i < L.length
  · have hli : ((i : Nat) : Int) < ((L.length : Nat) : Int) := by omega
    have w1 : IntKind.i64.wrap ((i : Int) + 1) = ((i + 1 : Nat) : Int) := by rw [i64_wrap (by omega) (by omega)]; omega
    have hg : L.getD i tok0 = L[i] := by simp [List.getD_eq_getElem?_getD, hlt]
    have hd : L.drop i = L.getD i tok0 :: L.drop (i + 1) := by rw [List.drop_eq_getElem_cons hlt, hg]
    have hm : L.getD i tok0 ∈ L := by rw [hg]; exact List.getElem_mem hlt
    obtain ⟨_, u, hu, eu, _⟩ := hP _ hm
    have hs1 : (L.getD i tok0).text.size ≤ 1000 := by rw [← eu]; exact hs u hu
    have pn : pvT L (i + 1) = some (L.getD i tok0) := by unfold pvT; rw [if_neg (by omega)]; rfl
    rw [hd] at hC
    have hC' : J = acc ++ (sepQ (pvT L i) (L.getD i tok0) ++ ((L.getD i tok0).text.data.toList ++ jq (pvT L (i + 1)) (L.drop (i + 1)))) := by rw [hC, pn]; rfl
    clear hC pn
    obtain ⟨k, s, ⟨a, n, t⟩, ln, cl, ht⟩ : ∃ k s v ln cl, L.getD i tok0 = ⟨k, s, v, ln, cl⟩ := ⟨_, _, _, _, _, rfl⟩
    have tf : tokF L i = [I64 k, Str s, I64 a, I64 n, Str t, I64 ln, I64 cl] := by unfold tokF; rw [ht]; rfl
    rw [ht] at hC' hs1
    simp only at hC' hs1
    have f1 : (([I64 k, Str s, I64 a, I64 n, Str t, I64 ln, I64 cl] : List SV).drop 1).take 1 = [Str s] := rfl
    have ap := app_mkB acc s
    have ls := len_list s
    have hsz : (mkB acc).size = acc.length := mkB_size _
    have hsz3 : (mkB (acc ++ [32])).size = acc.length + 1 := by rw [mkB_size, List.length_append]; rfl
    by_cases hi0 : i = 0
    · have hi1 : ¬ (0 : Int) < ((i : Nat) : Int) := by omega
      have hp : pvT L i = .none := by unfold pvT; rw [if_pos hi0]
      rw [hp] at hC'
      repeat' first | (with_reducible refine And.intro (by omega) ?_) | (refine SW.seq_k fun K hK => ?_) | (refine SW.block ?_) | ((first | refine SW.region ?_ | refine SW.regionZ (id := 7) (Checked.mixed Tryz.checked) ((.one 0 [0, 3, 4, 5, 11, 12, 13, 14, 15, 16, 17, 18, 19, 20, 21] (.one 1 [1, 2, 3, 4, 5, 11, 12, 13, 14, 15, 16, 17, 18, 19, 20, 21] (.one 2 [2, 3, 4, 5, 11, 12, 13, 14, 15, 16, 17, 18, 19, 20, 21] (.one 3 [3, 4, 5, 11, 12, 13, 14, 15, 16, 17, 18, 19, 20, 21] (.one 4 [4, 5, 11, 12, 13, 14, 15, 16, 17, 18, 19, 20, 21] (.one 5 [5, 11, 12, 13, 14, 15, 16, 17, 18, 19, 20, 21] (.one 6 [6, 8, 9, 10, 11, 12, 13, 14, 15, 16, 17, 18, 19, 20, 21] (.one 7 [7, 8, 9, 10, 11, 12, 13, 14, 15, 16, 17, 18, 19, 20, 21] (.one 8 [8, 9, 10, 11, 12, 13, 14, 15, 16, 17, 18, 19, 20, 21] (.one 9 [9, 10, 11, 12, 13, 14, 15, 16, 17, 18, 19, 20, 21] (.one 10 [10, 11, 12, 13, 14, 15, 16, 17, 18, 19, 20, 21] (.one 11 [11, 12, 13, 14, 15, 16, 17, 18, 19, 20, 21] (.one 12 [12, 13, 14, 15, 16, 17, 18, 19, 20, 21] (.one 13 [13, 14, 15, 16, 17, 18, 19, 20, 21] (.one 14 [14, 18, 19, 20, 21] (.one 15 [15, 19, 20, 21] (.one 16 [16, 20, 21] (.one 17 [17, 21] (.one 18 [18, 19, 20, 21] (.one 19 [19, 20, 21] (.one 20 [20, 21] (.one 21 [21] .done)))))))))))))))))))))) : OZ) (by kernel_rfl) ?_ | refine SW.regionZ (id := 8) (Checked.mixed Tryz.checked) ((.one 0 [0, 1, 2, 3, 4, 5, 6, 7, 8, 9, 10, 11, 12, 13, 14, 15, 16, 17, 18, 19] (.one 1 [1, 2, 3, 4, 5, 6, 7, 8, 9, 10, 11, 12, 13, 14, 15, 16, 17, 18, 19] (.one 2 [2, 3, 4, 5, 6, 7, 8, 9, 10, 11, 12, 13, 14, 15, 16, 17, 18, 19] (.one 3 [3, 4, 5, 6, 7, 8, 9, 10, 11, 12, 13, 14, 15, 16, 17, 18, 19] (.one 4 [4, 5, 6, 7, 8, 9, 10, 11, 12, 13, 14, 15, 16, 17, 18, 19] (.one 5 [5, 6, 7, 8, 9, 10, 11, 12, 13, 14, 15, 16, 17, 18, 19] (.one 6 [6, 7, 8, 9, 10, 11, 12, 13, 14, 15, 16, 17, 18, 19] (.one 7 [7, 8, 9, 10, 11, 12, 13, 14, 15, 16, 17, 18, 19] (.one 8 [8, 9, 10, 11, 18, 19] (.one 9 [9, 10, 11, 18, 19] (.one 10 [10, 11, 18, 19] (.one 11 [11, 18, 19] (.one 12 [12, 15, 16, 17, 18, 19] (.one 13 [13, 14, 15, 16, 17, 18, 19] (.one 14 [14, 15, 16, 17, 18, 19] (.one 15 [15, 16, 17, 18, 19] (.one 16 [16, 17, 18, 19] (.one 17 [17, 18, 19] (.one 18 [18, 19] (.one 19 [19] .done)))))))))))))))))))) : OZ) (by kernel_rfl) ?_ | refine SW.regionD (Checked.mixed Tryz.checked) (by kernel_rfl) ?_ | refine SW.cond ?_ | refine SW.skip ?_ | refine SW.exit ?_ | refine SW.ret ?_ | (refine allF_i fun b hb => ?_; replace hD := And.intro hb hD; clear hb; try simp only [fresh_cons, fresh_nil, and_true, ne_eq, neF] at hD) | simp only [appK, appOsK]); try simp only [go_sem, ↓reduceIte, reduceCtorEq, Nat.reduceAdd, Nat.reduceMul, Nat.reduceSub, Nat.reduceLT, Nat.reduceLeDiff, Nat.reduceEqDiff, Nat.reduceBEq, Nat.reduceBneDiff, Int.reduceToNat, Int.reduceEq, hD, hli, ie, i0, w1, tf, f1, ap, hi1]) | (refine And.intro (by omega) ?_) | (refine ifI (fun hc => ?_) (fun hc => ?_) <;> first | (exfalso; omega) | skip) | (first | (apply hK; clear hK K) | ((iterate 1 (clear hK K)); apply hK; clear hK K) | ((iterate 2 (clear hK K)); apply hK; clear hK K) | ((iterate 3 (clear hK K)); apply hK; clear hK K) | ((iterate 4 (clear hK K)); apply hK; clear hK K) | ((iterate 5 (clear hK K)); apply hK; clear hK K)) | (refine And.intro ?_ ?_)
      refine Rnd.sub (L.length - (i + 1)) (by omega) ((hI _ _).2 ⟨i + 1, acc ++ s.data.toList, rfl, by omega, by rw [List.length_append]; omega, by rw [hC', List.append_assoc]; rfl, rfl⟩) (by repeat' (first | exact rfl | exact trivial | exact int_eq (by omega) | exact int_eq (by (rw [i64_wrap] <;> omega)) | constructor))
    · have hi1 : (0 : Int) < ((i : Nat) : Int) := by omega
      have hlt2 : i - 1 < L.length := by omega
      have hg2 : L.getD (i - 1) tok0 = L[i - 1] := by simp [List.getD_eq_getElem?_getD, hlt2]
      have hm2 : L.getD (i - 1) tok0 ∈ L := by rw [hg2]; exact List.getElem_mem hlt2
      obtain ⟨_, u2, hu2, eu2, _⟩ := hP _ hm2
      have hs2 : (L.getD (i - 1) tok0).text.size ≤ 1000 := by rw [← eu2]; exact hs u2 hu2
      have hp : pvT L i = some (L.getD (i - 1) tok0) := by unfold pvT; rw [if_neg hi0]
      rw [hp] at hC'
      obtain ⟨ka, sa, ⟨aa, na, ta⟩, lna, cla, hta⟩ : ∃ k s v ln cl, L.getD (i - 1) tok0 = ⟨k, s, v, ln, cl⟩ := ⟨_, _, _, _, _, rfl⟩
      have tfa : tokF L (i - 1) = [I64 ka, Str sa, I64 aa, I64 na, Str ta, I64 lna, I64 cla] := by unfold tokF; rw [hta]; rfl
      rw [hta] at hC' hs2
      simp only at hC' hs2
      have f1a : (([I64 ka, Str sa, I64 aa, I64 na, Str ta, I64 lna, I64 cla] : List SV).drop 1).take 1 = [Str sa] := rfl
      have w0 : IntKind.i64.wrap ((i : Int) - 1) = ((i - 1 : Nat) : Int) := by rw [i64_wrap (by omega) (by omega)]; omega
      have j0 : (0 : Int) ≤ ((i - 1 : Nat) : Int) := by omega
      have j1 : ((i - 1 : Nat) : Int) < ((L.length : Nat) : Int) := by omega
      have je : ((i - 1 : Nat) : Int).toNat = i - 1 := Int.toNat_natCast _
      have lsa := len_list sa
      have tr := tokens_r (sa ++ s) (by rw [app_list, mkB_size, List.length_append]; omega)
      have hC2 : J = acc ++ ((if spaceS sa.data.toList s.data.toList = true then [32] else []) ++ (s.data.toList ++ jq (pvT L (i + 1)) (L.drop (i + 1)))) := hC'
      clear hC'
      unfold spaceS at hC2
      rw [← app_list, mkB_list] at hC2
      have ap32 := app_mkB acc ⟨#[32]⟩
      have ap2 := app_mkB (acc ++ [32]) s
      have e32 : (⟨#[32]⟩ : ByteArray).data.toList = [32] := rfl
      rw [e32] at ap32
      have hsp : ∀ X : Bool, X = true → acc ++ ((if X = true then [32] else []) ++ (s.data.toList ++ jq (pvT L (i + 1)) (L.drop (i + 1)))) = (acc ++ [32] ++ s.data.toList) ++ jq (pvT L (i + 1)) (L.drop (i + 1)) := fun X h => by rw [if_pos h]; simp only [List.append_assoc]
      have hns : ∀ X : Bool, X = false → acc ++ ((if X = true then [32] else []) ++ (s.data.toList ++ jq (pvT L (i + 1)) (L.drop (i + 1)))) = (acc ++ s.data.toList) ++ jq (pvT L (i + 1)) (L.drop (i + 1)) := fun X h => by rw [if_neg (by rw [h]; simp)]; simp only [List.append_assoc, List.nil_append]
      have hl1 : (acc ++ [32] ++ s.data.toList).length ≤ 1001 * (i + 1) := by rw [List.length_append, List.length_append]; simp only [List.length_cons, List.length_nil]; omega
      have hl2 : (acc ++ s.data.toList).length ≤ 1001 * (i + 1) := by rw [List.length_append]; omega
      obtain ⟨T, x, y, z, hR⟩ : ∃ T x y z, tokensS (sa ++ s) = (T, x, y, z) := ⟨_, _, _, _, rfl⟩
      unfold tokR at tr
      rw [hR] at tr hC2
      simp only at tr hC2
      by_cases hz : z = 0
      · subst hz
        by_cases hT : T.length = 2
        · have hT2 : ((T.length : Nat) : Int) = 2 := by omega
          have hT3 : (0 : Int) < ((T.length : Nat) : Int) := by omega
          have z0 : (0 : Int).toNat = 0 := rfl
          obtain ⟨k0, s0, ⟨a0, n0, t0⟩, ln0, cl0, ht0⟩ : ∃ k s v ln cl, T.getD 0 tok0 = ⟨k, s, v, ln, cl⟩ := ⟨_, _, _, _, _, rfl⟩
          have tf0 : tokF T 0 = [I64 k0, Str s0, I64 a0, I64 n0, Str t0, I64 ln0, I64 cl0] := by unfold tokF; rw [ht0]; rfl
          have f10 : (([I64 k0, Str s0, I64 a0, I64 n0, Str t0, I64 ln0, I64 cl0] : List SV).drop 1).take 1 = [Str s0] := rfl
          have eT : (T.getD 0 ⟨0, ⟨#[]⟩, (0, 0, ⟨#[]⟩), 0, 0⟩).text = s0 := by
            have : T.getD 0 ⟨0, ⟨#[]⟩, (0, 0, ⟨#[]⟩), 0, 0⟩ = ⟨k0, s0, (a0, n0, t0), ln0, cl0⟩ := ht0
            rw [this]
          rw [eT] at hC2
          by_cases hq : s0 = sa
          · subst hq
            have b1 : (s0.toList == s0.toList) = true := by rw [beq_self_eq_true]
            rw [hns _ (by simp [hT])] at hC2
            repeat' first | (with_reducible refine And.intro (by omega) ?_) | (refine SW.seq_k fun K hK => ?_) | (refine SW.block ?_) | ((first | refine SW.region ?_ | refine SW.regionZ (id := 7) (Checked.mixed Tryz.checked) ((.one 0 [0, 3, 4, 5, 11, 12, 13, 14, 15, 16, 17, 18, 19, 20, 21] (.one 1 [1, 2, 3, 4, 5, 11, 12, 13, 14, 15, 16, 17, 18, 19, 20, 21] (.one 2 [2, 3, 4, 5, 11, 12, 13, 14, 15, 16, 17, 18, 19, 20, 21] (.one 3 [3, 4, 5, 11, 12, 13, 14, 15, 16, 17, 18, 19, 20, 21] (.one 4 [4, 5, 11, 12, 13, 14, 15, 16, 17, 18, 19, 20, 21] (.one 5 [5, 11, 12, 13, 14, 15, 16, 17, 18, 19, 20, 21] (.one 6 [6, 8, 9, 10, 11, 12, 13, 14, 15, 16, 17, 18, 19, 20, 21] (.one 7 [7, 8, 9, 10, 11, 12, 13, 14, 15, 16, 17, 18, 19, 20, 21] (.one 8 [8, 9, 10, 11, 12, 13, 14, 15, 16, 17, 18, 19, 20, 21] (.one 9 [9, 10, 11, 12, 13, 14, 15, 16, 17, 18, 19, 20, 21] (.one 10 [10, 11, 12, 13, 14, 15, 16, 17, 18, 19, 20, 21] (.one 11 [11, 12, 13, 14, 15, 16, 17, 18, 19, 20, 21] (.one 12 [12, 13, 14, 15, 16, 17, 18, 19, 20, 21] (.one 13 [13, 14, 15, 16, 17, 18, 19, 20, 21] (.one 14 [14, 18, 19, 20, 21] (.one 15 [15, 19, 20, 21] (.one 16 [16, 20, 21] (.one 17 [17, 21] (.one 18 [18, 19, 20, 21] (.one 19 [19, 20, 21] (.one 20 [20, 21] (.one 21 [21] .done)))))))))))))))))))))) : OZ) (by kernel_rfl) ?_ | refine SW.regionZ (id := 8) (Checked.mixed Tryz.checked) ((.one 0 [0, 1, 2, 3, 4, 5, 6, 7, 8, 9, 10, 11, 12, 13, 14, 15, 16, 17, 18, 19] (.one 1 [1, 2, 3, 4, 5, 6, 7, 8, 9, 10, 11, 12, 13, 14, 15, 16, 17, 18, 19] (.one 2 [2, 3, 4, 5, 6, 7, 8, 9, 10, 11, 12, 13, 14, 15, 16, 17, 18, 19] (.one 3 [3, 4, 5, 6, 7, 8, 9, 10, 11, 12, 13, 14, 15, 16, 17, 18, 19] (.one 4 [4, 5, 6, 7, 8, 9, 10, 11, 12, 13, 14, 15, 16, 17, 18, 19] (.one 5 [5, 6, 7, 8, 9, 10, 11, 12, 13, 14, 15, 16, 17, 18, 19] (.one 6 [6, 7, 8, 9, 10, 11, 12, 13, 14, 15, 16, 17, 18, 19] (.one 7 [7, 8, 9, 10, 11, 12, 13, 14, 15, 16, 17, 18, 19] (.one 8 [8, 9, 10, 11, 18, 19] (.one 9 [9, 10, 11, 18, 19] (.one 10 [10, 11, 18, 19] (.one 11 [11, 18, 19] (.one 12 [12, 15, 16, 17, 18, 19] (.one 13 [13, 14, 15, 16, 17, 18, 19] (.one 14 [14, 15, 16, 17, 18, 19] (.one 15 [15, 16, 17, 18, 19] (.one 16 [16, 17, 18, 19] (.one 17 [17, 18, 19] (.one 18 [18, 19] (.one 19 [19] .done)))))))))))))))))))) : OZ) (by kernel_rfl) ?_ | refine SW.regionD (Checked.mixed Tryz.checked) (by kernel_rfl) ?_ | refine SW.cond ?_ | refine SW.skip ?_ | refine SW.exit ?_ | refine SW.ret ?_ | refine Call.of_pure (tr) ?_ | refine ⟨_, tr, ?_⟩ | (refine allF_i fun b hb => ?_; replace hD := And.intro hb hD; clear hb; try simp only [fresh_cons, fresh_nil, and_true, ne_eq, neF] at hD) | simp only [appK, appOsK]); try simp only [go_sem, ↓reduceIte, reduceCtorEq, Nat.reduceAdd, Nat.reduceMul, Nat.reduceSub, Nat.reduceLT, Nat.reduceLeDiff, Nat.reduceEqDiff, Nat.reduceBEq, Nat.reduceBneDiff, Int.reduceToNat, Int.reduceEq, hD, hli, ie, i0, w1, tf, f1, ap, hi1, tfa, f1a, w0, j0, j1, je, hT2, hT3, z0, tf0, f10, b1]) | (refine And.intro (by omega) ?_) | (refine ifI (fun hc => ?_) (fun hc => ?_) <;> first | (exfalso; omega) | skip) | (first | (apply hK; clear hK K) | ((iterate 1 (clear hK K)); apply hK; clear hK K) | ((iterate 2 (clear hK K)); apply hK; clear hK K) | ((iterate 3 (clear hK K)); apply hK; clear hK K) | ((iterate 4 (clear hK K)); apply hK; clear hK K) | ((iterate 5 (clear hK K)); apply hK; clear hK K)) | (refine And.intro ?_ ?_)
            refine Rnd.sub (L.length - (i + 1)) (by omega) ((hI _ _).2 ⟨i + 1, _, rfl, by omega, hl2, hC2, rfl⟩) (by repeat' (first | exact rfl | exact trivial | exact int_eq (by omega) | exact int_eq (by (rw [i64_wrap] <;> omega)) | constructor))
          · have b1 : (s0.toList == sa.toList) = false := by
              have te := text_eq s0 sa.data.toList sa.data rfl
              rw [decide_eq_false (fun x => hq (by rw [← mkB_list s0, ← mkB_list sa, x]))] at te
              exact te
            rw [hsp _ (by simp [hq])] at hC2
            repeat' first | (with_reducible refine And.intro (by omega) ?_) | (refine SW.seq_k fun K hK => ?_) | (refine SW.block ?_) | ((first | refine SW.region ?_ | refine SW.regionZ (id := 7) (Checked.mixed Tryz.checked) ((.one 0 [0, 3, 4, 5, 11, 12, 13, 14, 15, 16, 17, 18, 19, 20, 21] (.one 1 [1, 2, 3, 4, 5, 11, 12, 13, 14, 15, 16, 17, 18, 19, 20, 21] (.one 2 [2, 3, 4, 5, 11, 12, 13, 14, 15, 16, 17, 18, 19, 20, 21] (.one 3 [3, 4, 5, 11, 12, 13, 14, 15, 16, 17, 18, 19, 20, 21] (.one 4 [4, 5, 11, 12, 13, 14, 15, 16, 17, 18, 19, 20, 21] (.one 5 [5, 11, 12, 13, 14, 15, 16, 17, 18, 19, 20, 21] (.one 6 [6, 8, 9, 10, 11, 12, 13, 14, 15, 16, 17, 18, 19, 20, 21] (.one 7 [7, 8, 9, 10, 11, 12, 13, 14, 15, 16, 17, 18, 19, 20, 21] (.one 8 [8, 9, 10, 11, 12, 13, 14, 15, 16, 17, 18, 19, 20, 21] (.one 9 [9, 10, 11, 12, 13, 14, 15, 16, 17, 18, 19, 20, 21] (.one 10 [10, 11, 12, 13, 14, 15, 16, 17, 18, 19, 20, 21] (.one 11 [11, 12, 13, 14, 15, 16, 17, 18, 19, 20, 21] (.one 12 [12, 13, 14, 15, 16, 17, 18, 19, 20, 21] (.one 13 [13, 14, 15, 16, 17, 18, 19, 20, 21] (.one 14 [14, 18, 19, 20, 21] (.one 15 [15, 19, 20, 21] (.one 16 [16, 20, 21] (.one 17 [17, 21] (.one 18 [18, 19, 20, 21] (.one 19 [19, 20, 21] (.one 20 [20, 21] (.one 21 [21] .done)))))))))))))))))))))) : OZ) (by kernel_rfl) ?_ | refine SW.regionZ (id := 8) (Checked.mixed Tryz.checked) ((.one 0 [0, 1, 2, 3, 4, 5, 6, 7, 8, 9, 10, 11, 12, 13, 14, 15, 16, 17, 18, 19] (.one 1 [1, 2, 3, 4, 5, 6, 7, 8, 9, 10, 11, 12, 13, 14, 15, 16, 17, 18, 19] (.one 2 [2, 3, 4, 5, 6, 7, 8, 9, 10, 11, 12, 13, 14, 15, 16, 17, 18, 19] (.one 3 [3, 4, 5, 6, 7, 8, 9, 10, 11, 12, 13, 14, 15, 16, 17, 18, 19] (.one 4 [4, 5, 6, 7, 8, 9, 10, 11, 12, 13, 14, 15, 16, 17, 18, 19] (.one 5 [5, 6, 7, 8, 9, 10, 11, 12, 13, 14, 15, 16, 17, 18, 19] (.one 6 [6, 7, 8, 9, 10, 11, 12, 13, 14, 15, 16, 17, 18, 19] (.one 7 [7, 8, 9, 10, 11, 12, 13, 14, 15, 16, 17, 18, 19] (.one 8 [8, 9, 10, 11, 18, 19] (.one 9 [9, 10, 11, 18, 19] (.one 10 [10, 11, 18, 19] (.one 11 [11, 18, 19] (.one 12 [12, 15, 16, 17, 18, 19] (.one 13 [13, 14, 15, 16, 17, 18, 19] (.one 14 [14, 15, 16, 17, 18, 19] (.one 15 [15, 16, 17, 18, 19] (.one 16 [16, 17, 18, 19] (.one 17 [17, 18, 19] (.one 18 [18, 19] (.one 19 [19] .done)))))))))))))))))))) : OZ) (by kernel_rfl) ?_ | refine SW.regionD (Checked.mixed Tryz.checked) (by kernel_rfl) ?_ | refine SW.cond ?_ | refine SW.skip ?_ | refine SW.exit ?_ | refine SW.ret ?_ | refine Call.of_pure (tr) ?_ | refine ⟨_, tr, ?_⟩ | (refine allF_i fun b hb => ?_; replace hD := And.intro hb hD; clear hb; try simp only [fresh_cons, fresh_nil, and_true, ne_eq, neF] at hD) | simp only [appK, appOsK]); try simp only [go_sem, ↓reduceIte, reduceCtorEq, Nat.reduceAdd, Nat.reduceMul, Nat.reduceSub, Nat.reduceLT, Nat.reduceLeDiff, Nat.reduceEqDiff, Nat.reduceBEq, Nat.reduceBneDiff, Int.reduceToNat, Int.reduceEq, hD, hli, ie, i0, w1, tf, f1, ap32, ap2, hi1, tfa, f1a, w0, j0, j1, je, hT2, hT3, z0, tf0, f10, b1]) | (refine And.intro (by omega) ?_) | (refine ifI (fun hc => ?_) (fun hc => ?_) <;> first | (exfalso; omega) | skip) | (first | (apply hK; clear hK K) | ((iterate 1 (clear hK K)); apply hK; clear hK K) | ((iterate 2 (clear hK K)); apply hK; clear hK K) | ((iterate 3 (clear hK K)); apply hK; clear hK K) | ((iterate 4 (clear hK K)); apply hK; clear hK K) | ((iterate 5 (clear hK K)); apply hK; clear hK K)) | (refine And.intro ?_ ?_)
            refine Rnd.sub (L.length - (i + 1)) (by omega) ((hI _ _).2 ⟨i + 1, _, rfl, by omega, hl1, hC2, rfl⟩) (by repeat' (first | exact rfl | exact trivial | exact int_eq (by omega) | exact int_eq (by (rw [i64_wrap] <;> omega)) | constructor))
        · have hT2 : ¬ ((T.length : Nat) : Int) = 2 := by omega
          rw [hsp _ (by simp [hT])] at hC2
          repeat' first | (with_reducible refine And.intro (by omega) ?_) | (refine SW.seq_k fun K hK => ?_) | (refine SW.block ?_) | ((first | refine SW.region ?_ | refine SW.regionZ (id := 7) (Checked.mixed Tryz.checked) ((.one 0 [0, 3, 4, 5, 11, 12, 13, 14, 15, 16, 17, 18, 19, 20, 21] (.one 1 [1, 2, 3, 4, 5, 11, 12, 13, 14, 15, 16, 17, 18, 19, 20, 21] (.one 2 [2, 3, 4, 5, 11, 12, 13, 14, 15, 16, 17, 18, 19, 20, 21] (.one 3 [3, 4, 5, 11, 12, 13, 14, 15, 16, 17, 18, 19, 20, 21] (.one 4 [4, 5, 11, 12, 13, 14, 15, 16, 17, 18, 19, 20, 21] (.one 5 [5, 11, 12, 13, 14, 15, 16, 17, 18, 19, 20, 21] (.one 6 [6, 8, 9, 10, 11, 12, 13, 14, 15, 16, 17, 18, 19, 20, 21] (.one 7 [7, 8, 9, 10, 11, 12, 13, 14, 15, 16, 17, 18, 19, 20, 21] (.one 8 [8, 9, 10, 11, 12, 13, 14, 15, 16, 17, 18, 19, 20, 21] (.one 9 [9, 10, 11, 12, 13, 14, 15, 16, 17, 18, 19, 20, 21] (.one 10 [10, 11, 12, 13, 14, 15, 16, 17, 18, 19, 20, 21] (.one 11 [11, 12, 13, 14, 15, 16, 17, 18, 19, 20, 21] (.one 12 [12, 13, 14, 15, 16, 17, 18, 19, 20, 21] (.one 13 [13, 14, 15, 16, 17, 18, 19, 20, 21] (.one 14 [14, 18, 19, 20, 21] (.one 15 [15, 19, 20, 21] (.one 16 [16, 20, 21] (.one 17 [17, 21] (.one 18 [18, 19, 20, 21] (.one 19 [19, 20, 21] (.one 20 [20, 21] (.one 21 [21] .done)))))))))))))))))))))) : OZ) (by kernel_rfl) ?_ | refine SW.regionZ (id := 8) (Checked.mixed Tryz.checked) ((.one 0 [0, 1, 2, 3, 4, 5, 6, 7, 8, 9, 10, 11, 12, 13, 14, 15, 16, 17, 18, 19] (.one 1 [1, 2, 3, 4, 5, 6, 7, 8, 9, 10, 11, 12, 13, 14, 15, 16, 17, 18, 19] (.one 2 [2, 3, 4, 5, 6, 7, 8, 9, 10, 11, 12, 13, 14, 15, 16, 17, 18, 19] (.one 3 [3, 4, 5, 6, 7, 8, 9, 10, 11, 12, 13, 14, 15, 16, 17, 18, 19] (.one 4 [4, 5, 6, 7, 8, 9, 10, 11, 12, 13, 14, 15, 16, 17, 18, 19] (.one 5 [5, 6, 7, 8, 9, 10, 11, 12, 13, 14, 15, 16, 17, 18, 19] (.one 6 [6, 7, 8, 9, 10, 11, 12, 13, 14, 15, 16, 17, 18, 19] (.one 7 [7, 8, 9, 10, 11, 12, 13, 14, 15, 16, 17, 18, 19] (.one 8 [8, 9, 10, 11, 18, 19] (.one 9 [9, 10, 11, 18, 19] (.one 10 [10, 11, 18, 19] (.one 11 [11, 18, 19] (.one 12 [12, 15, 16, 17, 18, 19] (.one 13 [13, 14, 15, 16, 17, 18, 19] (.one 14 [14, 15, 16, 17, 18, 19] (.one 15 [15, 16, 17, 18, 19] (.one 16 [16, 17, 18, 19] (.one 17 [17, 18, 19] (.one 18 [18, 19] (.one 19 [19] .done)))))))))))))))))))) : OZ) (by kernel_rfl) ?_ | refine SW.regionD (Checked.mixed Tryz.checked) (by kernel_rfl) ?_ | refine SW.cond ?_ | refine SW.skip ?_ | refine SW.exit ?_ | refine SW.ret ?_ | refine Call.of_pure (tr) ?_ | refine ⟨_, tr, ?_⟩ | (refine allF_i fun b hb => ?_; replace hD := And.intro hb hD; clear hb; try simp only [fresh_cons, fresh_nil, and_true, ne_eq, neF] at hD) | simp only [appK, appOsK]); try simp only [go_sem, ↓reduceIte, reduceCtorEq, Nat.reduceAdd, Nat.reduceMul, Nat.reduceSub, Nat.reduceLT, Nat.reduceLeDiff, Nat.reduceEqDiff, Nat.reduceBEq, Nat.reduceBneDiff, Int.reduceToNat, Int.reduceEq, hD, hli, ie, i0, w1, tf, f1, ap32, ap2, hi1, tfa, f1a, w0, j0, j1, je, hT2]) | (refine And.intro (by omega) ?_) | (refine ifI (fun hc => ?_) (fun hc => ?_) <;> first | (exfalso; omega) | skip) | (first | (apply hK; clear hK K) | ((iterate 1 (clear hK K)); apply hK; clear hK K) | ((iterate 2 (clear hK K)); apply hK; clear hK K) | ((iterate 3 (clear hK K)); apply hK; clear hK K) | ((iterate 4 (clear hK K)); apply hK; clear hK K) | ((iterate 5 (clear hK K)); apply hK; clear hK K)) | (refine And.intro ?_ ?_)
          refine Rnd.sub (L.length - (i + 1)) (by omega) ((hI _ _).2 ⟨i + 1, _, rfl, by omega, hl1, hC2, rfl⟩) (by repeat' (first | exact rfl | exact trivial | exact int_eq (by omega) | exact int_eq (by (rw [i64_wrap] <;> omega)) | constructor))
      · rw [hsp _ (by simp [hz])] at hC2
        repeat' first | (with_reducible refine And.intro (by omega) ?_) | (refine SW.seq_k fun K hK => ?_) | (refine SW.block ?_) | ((first | refine SW.region ?_ | refine SW.regionZ (id := 7) (Checked.mixed Tryz.checked) ((.one 0 [0, 3, 4, 5, 11, 12, 13, 14, 15, 16, 17, 18, 19, 20, 21] (.one 1 [1, 2, 3, 4, 5, 11, 12, 13, 14, 15, 16, 17, 18, 19, 20, 21] (.one 2 [2, 3, 4, 5, 11, 12, 13, 14, 15, 16, 17, 18, 19, 20, 21] (.one 3 [3, 4, 5, 11, 12, 13, 14, 15, 16, 17, 18, 19, 20, 21] (.one 4 [4, 5, 11, 12, 13, 14, 15, 16, 17, 18, 19, 20, 21] (.one 5 [5, 11, 12, 13, 14, 15, 16, 17, 18, 19, 20, 21] (.one 6 [6, 8, 9, 10, 11, 12, 13, 14, 15, 16, 17, 18, 19, 20, 21] (.one 7 [7, 8, 9, 10, 11, 12, 13, 14, 15, 16, 17, 18, 19, 20, 21] (.one 8 [8, 9, 10, 11, 12, 13, 14, 15, 16, 17, 18, 19, 20, 21] (.one 9 [9, 10, 11, 12, 13, 14, 15, 16, 17, 18, 19, 20, 21] (.one 10 [10, 11, 12, 13, 14, 15, 16, 17, 18, 19, 20, 21] (.one 11 [11, 12, 13, 14, 15, 16, 17, 18, 19, 20, 21] (.one 12 [12, 13, 14, 15, 16, 17, 18, 19, 20, 21] (.one 13 [13, 14, 15, 16, 17, 18, 19, 20, 21] (.one 14 [14, 18, 19, 20, 21] (.one 15 [15, 19, 20, 21] (.one 16 [16, 20, 21] (.one 17 [17, 21] (.one 18 [18, 19, 20, 21] (.one 19 [19, 20, 21] (.one 20 [20, 21] (.one 21 [21] .done)))))))))))))))))))))) : OZ) (by kernel_rfl) ?_ | refine SW.regionZ (id := 8) (Checked.mixed Tryz.checked) ((.one 0 [0, 1, 2, 3, 4, 5, 6, 7, 8, 9, 10, 11, 12, 13, 14, 15, 16, 17, 18, 19] (.one 1 [1, 2, 3, 4, 5, 6, 7, 8, 9, 10, 11, 12, 13, 14, 15, 16, 17, 18, 19] (.one 2 [2, 3, 4, 5, 6, 7, 8, 9, 10, 11, 12, 13, 14, 15, 16, 17, 18, 19] (.one 3 [3, 4, 5, 6, 7, 8, 9, 10, 11, 12, 13, 14, 15, 16, 17, 18, 19] (.one 4 [4, 5, 6, 7, 8, 9, 10, 11, 12, 13, 14, 15, 16, 17, 18, 19] (.one 5 [5, 6, 7, 8, 9, 10, 11, 12, 13, 14, 15, 16, 17, 18, 19] (.one 6 [6, 7, 8, 9, 10, 11, 12, 13, 14, 15, 16, 17, 18, 19] (.one 7 [7, 8, 9, 10, 11, 12, 13, 14, 15, 16, 17, 18, 19] (.one 8 [8, 9, 10, 11, 18, 19] (.one 9 [9, 10, 11, 18, 19] (.one 10 [10, 11, 18, 19] (.one 11 [11, 18, 19] (.one 12 [12, 15, 16, 17, 18, 19] (.one 13 [13, 14, 15, 16, 17, 18, 19] (.one 14 [14, 15, 16, 17, 18, 19] (.one 15 [15, 16, 17, 18, 19] (.one 16 [16, 17, 18, 19] (.one 17 [17, 18, 19] (.one 18 [18, 19] (.one 19 [19] .done)))))))))))))))))))) : OZ) (by kernel_rfl) ?_ | refine SW.regionD (Checked.mixed Tryz.checked) (by kernel_rfl) ?_ | refine SW.cond ?_ | refine SW.skip ?_ | refine SW.exit ?_ | refine SW.ret ?_ | refine Call.of_pure (tr) ?_ | refine ⟨_, tr, ?_⟩ | (refine allF_i fun b hb => ?_; replace hD := And.intro hb hD; clear hb; try simp only [fresh_cons, fresh_nil, and_true, ne_eq, neF] at hD) | simp only [appK, appOsK]); try simp only [go_sem, ↓reduceIte, reduceCtorEq, Nat.reduceAdd, Nat.reduceMul, Nat.reduceSub, Nat.reduceLT, Nat.reduceLeDiff, Nat.reduceEqDiff, Nat.reduceBEq, Nat.reduceBneDiff, Int.reduceToNat, Int.reduceEq, hD, hli, ie, i0, w1, tf, f1, ap32, ap2, hi1, tfa, f1a, w0, j0, j1, je, hz]) | (refine And.intro (by omega) ?_) | (refine ifI (fun hc => ?_) (fun hc => ?_) <;> first | (exfalso; omega) | skip) | (first | (apply hK; clear hK K) | ((iterate 1 (clear hK K)); apply hK; clear hK K) | ((iterate 2 (clear hK K)); apply hK; clear hK K) | ((iterate 3 (clear hK K)); apply hK; clear hK K) | ((iterate 4 (clear hK K)); apply hK; clear hK K) | ((iterate 5 (clear hK K)); apply hK; clear hK K)) | (refine And.intro ?_ ?_)
        refine Rnd.sub (L.length - (i + 1)) (by omega) ((hI _ _).2 ⟨i + 1, _, rfl, by omega, hl1, hC2, rfl⟩) (by repeat' (first | exact rfl | exact trivial | exact int_eq (by omega) | exact int_eq (by (rw [i64_wrap] <;> omega)) | constructor))
  · have hli : ¬ ((i : Nat) : Int) < ((L.length : Nat) : Int) := by omega
    rw [List.drop_of_length_le (by omega)] at hC
    have hC2 : J = acc := by rw [hC]; unfold jq; exact List.append_nil _
    subst hC2
    repeat' first | (with_reducible refine And.intro (by omega) ?_) | (refine SW.seq_k fun K hK => ?_) | (refine SW.block ?_) | ((first | refine SW.region ?_ | refine SW.regionD (Checked.mixed Tryz.checked) (by kernel_rfl) ?_ | refine SW.cond ?_ | refine SW.skip ?_ | refine SW.exit ?_ | refine SW.ret ?_ | (refine allF_i fun b hb => ?_; replace hD := And.intro hb hD; clear hb; try simp only [fresh_cons, fresh_nil, and_true, ne_eq, neF] at hD) | simp only [appK, appOsK]); try simp only [go_sem, ↓reduceIte, reduceCtorEq, Nat.reduceAdd, Nat.reduceMul, Nat.reduceSub, Nat.reduceLT, Nat.reduceLeDiff, Nat.reduceEqDiff, Nat.reduceBEq, Nat.reduceBneDiff, Int.reduceToNat, Int.reduceEq, hD, hli]) | (refine And.intro (by omega) ?_) | (refine ifI (fun hc => ?_) (fun hc => ?_) <;> first | (exfalso; omega) | skip) | (first | (apply hK; clear hK K) | ((iterate 1 (clear hK K)); apply hK; clear hK K) | ((iterate 2 (clear hK K)); apply hK; clear hK K) | ((iterate 3 (clear hK K)); apply hK; clear hK K) | ((iterate 4 (clear hK K)); apply hK; clear hK K) | ((iterate 5 (clear hK K)); apply hK; clear hK K))
    refine ret_pure ?_; simp only [resL_tmp, resL_nil, tupOf, go_sem, ↓reduceIte, reduceCtorEq, Nat.reduceAdd, Nat.reduceMul, Nat.reduceSub, Nat.reduceLT, Nat.reduceLeDiff, Nat.reduceEqDiff, Nat.reduceBEq, Nat.reduceBneDiff, Int.reduceToNat, Int.reduceEq, hD]

set_option maxHeartbeats 4000000 in
set_option maxRecDepth 20000 in
theorem law_join (l : List Tok) (hl : l.length ≤ 9223372036854775807) (hv : ∀ t ∈ l, In64 t.val.2.1) : PCall Tryz.prog 3 [TS l] (SB true) := by
  have aw := awake_c
  have sh := short_r l 30 hl
  cases q1 : shortS l 30 with
  | false =>
    rw [q1] at sh
    refine Call.enter' (N := 40) (rs := [.tmp 2]) Tryz.func3 rfl rfl rfl (by decide) rfl ?_; simp only [argT]; have hD : (0 : Nat) = 0 := rfl
    repeat' first | (with_reducible refine And.intro (by omega) ?_) | (refine SW.seq_k fun K hK => ?_) | (refine SW.block ?_) | ((first | refine SW.region ?_ | refine SW.regionD (Checked.mixed Tryz.checked) (by kernel_rfl) ?_ | refine SW.cond ?_ | refine SW.skip ?_ | refine SW.exit ?_ | refine SW.ret ?_ | refine Call.of_pure (aw) ?_ | refine ⟨_, aw, ?_⟩ | refine Call.of_pure (sh) ?_ | refine ⟨_, sh, ?_⟩ | (refine allF_i fun b hb => ?_; replace hD := And.intro hb hD; clear hb; try simp only [fresh_cons, fresh_nil, and_true, ne_eq, neF] at hD) | simp only [appK, appOsK]); try simp only [go_sem, ↓reduceIte, reduceCtorEq, Nat.reduceAdd, Nat.reduceMul, Nat.reduceSub, Nat.reduceLT, Nat.reduceLeDiff, Nat.reduceEqDiff, Nat.reduceBEq, Nat.reduceBneDiff, Int.reduceToNat, Int.reduceEq, hD, true_implies]) | (refine And.intro (by omega) ?_) | (refine ifI (fun hc => ?_) (fun hc => ?_) <;> first | (exfalso; omega) | skip) | (first | (apply hK; clear hK K) | ((iterate 1 (clear hK K)); apply hK; clear hK K) | ((iterate 2 (clear hK K)); apply hK; clear hK K) | ((iterate 3 (clear hK K)); apply hK; clear hK K) | ((iterate 4 (clear hK K)); apply hK; clear hK K) | ((iterate 5 (clear hK K)); apply hK; clear hK K))
    refine ret_pure ?_; simp only [resL_tmp, resL_nil, tupOf, go_sem, ↓reduceIte, reduceCtorEq, Nat.reduceAdd, Nat.reduceMul, Nat.reduceSub, Nat.reduceLT, Nat.reduceLeDiff, Nat.reduceEqDiff, Nat.reduceBEq, Nat.reduceBneDiff, Int.reduceToNat, Int.reduceEq, hD]
  | true =>
    rw [q1] at sh
    unfold shortS at q1
    rw [Bool.and_eq_true, decide_eq_true_eq, List.all_eq_true] at q1
    have hsz : ∀ t ∈ l, t.text.size ≤ 1000 := fun t ht => by
      have := q1.2 t ht
      unfold shortT at this
      rw [Bool.and_eq_true, decide_eq_true_eq] at this
      exact this.1
    have hl30 : l.length ≤ 30 := by have := q1.1; omega
    obtain ⟨h1, h2, T, h3, h4, h5⟩ := join_law l hsz hl30
    have jp := join_p l hl30 (fun t ht => ⟨hsz t ht, hv t ht⟩)
    have jr := join_r l hl30 hsz
    rw [← h2] at jr
    have tp := tokens_p (mkB (joinS l)) (by rw [mkB_size]; omega)
    unfold tokR at tp
    rw [h3] at tp
    simp only at tp
    obtain ⟨e1, e2⟩ := core_text h5
    have hPl := plain_len l
    have p1 := plain_r T (by omega) (fun t ht => by
      obtain ⟨u, hu, eu⟩ := e2 t ht
      obtain ⟨_, u2, hu2, eu2, _⟩ := plain_Pl l u hu
      have := hsz u2 hu2
      rw [eu2, eu] at this
      omega)
    rw [h4] at p1
    have p2 := plain_r l (by omega) (fun t ht => by have := hsz t ht; omega)
    have sm := same_r (plainS l) (by omega)
    generalize plainS l = L at *
    generalize mkB (joinS l) = X at *
    have b1 : (X.toList == X.toList) = true := by rw [beq_self_eq_true]
    refine Call.enter' (N := 40) (rs := [.tmp 2]) Tryz.func3 rfl rfl rfl (by decide) rfl ?_; simp only [argT]; have hD : (0 : Nat) = 0 := rfl
    repeat' first | (with_reducible refine And.intro (by omega) ?_) | (refine SW.seq_k fun K hK => ?_) | (refine SW.block ?_) | ((first | refine SW.region ?_ | refine SW.regionD (Checked.mixed Tryz.checked) (by kernel_rfl) ?_ | refine SW.cond ?_ | refine SW.skip ?_ | refine SW.exit ?_ | refine SW.ret ?_ | refine Call.of_pure (aw) ?_ | refine ⟨_, aw, ?_⟩ | refine Call.of_pure (sh) ?_ | refine ⟨_, sh, ?_⟩ | refine Call.of_pure (jp) ?_ | refine ⟨_, jp, ?_⟩ | refine Call.of_pure (jr) ?_ | refine ⟨_, jr, ?_⟩ | refine Call.of_pure (tp) ?_ | refine ⟨_, tp, ?_⟩ | refine Call.of_pure (p1) ?_ | refine ⟨_, p1, ?_⟩ | refine Call.of_pure (p2) ?_ | refine ⟨_, p2, ?_⟩ | refine Call.of_pure (sm) ?_ | refine ⟨_, sm, ?_⟩ | (refine allF_i fun b hb => ?_; replace hD := And.intro hb hD; clear hb; try simp only [fresh_cons, fresh_nil, and_true, ne_eq, neF] at hD) | simp only [appK, appOsK]); try simp only [go_sem, ↓reduceIte, reduceCtorEq, Nat.reduceAdd, Nat.reduceMul, Nat.reduceSub, Nat.reduceLT, Nat.reduceLeDiff, Nat.reduceEqDiff, Nat.reduceBEq, Nat.reduceBneDiff, Int.reduceToNat, Int.reduceEq, hD, true_implies, b1]) | (refine And.intro (by omega) ?_) | (refine ifI (fun hc => ?_) (fun hc => ?_) <;> first | (exfalso; omega) | skip) | (first | (apply hK; clear hK K) | ((iterate 1 (clear hK K)); apply hK; clear hK K) | ((iterate 2 (clear hK K)); apply hK; clear hK K) | ((iterate 3 (clear hK K)); apply hK; clear hK K) | ((iterate 4 (clear hK K)); apply hK; clear hK K) | ((iterate 5 (clear hK K)); apply hK; clear hK K))
    refine ret_pure ?_; simp only [resL_tmp, resL_nil, tupOf, go_sem, ↓reduceIte, reduceCtorEq, Nat.reduceAdd, Nat.reduceMul, Nat.reduceSub, Nat.reduceLT, Nat.reduceLeDiff, Nat.reduceEqDiff, Nat.reduceBEq, Nat.reduceBneDiff, Int.reduceToNat, Int.reduceEq, hD]
end Go.Proofs.YtajbifibhgppfaaGreatDoor
