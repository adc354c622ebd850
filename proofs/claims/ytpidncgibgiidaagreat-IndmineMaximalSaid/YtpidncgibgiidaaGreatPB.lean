import Derived.Test.YtpidncgibgiidaaGreatPA
set_option linter.unusedSimpArgs false
set_option linter.unusedVariables false
set_option linter.unusedSectionVars false
namespace Go.Ab.A15
open Go Go.Ab Go.Ab.A34 Go.Ab.A01
theorem anyD_step {L : List Dp} {p : Dp → Bool} {i : Nat} (h : i < L.length) : (L.drop i).any p = (p (L.getD i d0) || (L.drop (i + 1)).any p) := by
  rw [List.drop_eq_getElem_cons h, List.any_cons, show L.getD i d0 = L[i] by simp [List.getD_eq_getElem?_getD, h]]
theorem anyD_end {L : List Dp} {p : Dp → Bool} {i : Nat} (h : L.length ≤ i) : (L.drop i).any p = false := by
  rw [List.drop_eq_nil_of_le h]
  rfl
def mxP (L : List Dp) : List Dp := L.filter fun a => !(L.any fun b => shQ a b)
def mxI (L : List Dp) (i : Nat) : List Dp := (L.take i).filter fun a => !(L.any fun b => shQ a b)
theorem mxI_step {L : List Dp} {i : Nat} (h : i < L.length) : mxI L (i + 1) = mxI L i ++ if (!(L.any fun b => shQ (L.getD i d0) b)) = true then [L.getD i d0] else [] := by
  have g : L.getD i d0 = L[i] := by simp [List.getD_eq_getElem?_getD, h]
  unfold mxI
  rw [List.take_succ_eq_append_getElem h, List.filter_append, g]
  congr 1
  cases hb : (L.any fun b => shQ L[i] b) <;> simp [hb]
theorem mxI_len (L : List Dp) (i : Nat) : (mxI L i).length ≤ i := by
  unfold mxI
  refine Nat.le_trans (List.length_filter_le _ _) ?_
  rw [List.length_take]
  omega
end Go.Ab.A15
namespace Go.Proofs.YtpidncgibgiidaaGreat
open Go Go.Ab Go.Ab.A34 Go.Ab.A15 Go.Ab.A01
variable [Gl] [Tabs]
set_option maxHeartbeats 2000000 in
set_option maxRecDepth 20000 in
theorem mx_k (L : List Dp) (ia : Nat) (hia : ia < L.length) (h6 : ∀ d ∈ L, Ok6 d) (hn : L.length ≤ 2000) (x : SV) (hh : Heap) :
    Ab.SW Tryz.prog 81 (blk 2 Tryz.f17) (nrm fun S => S.le ⟨[(4, DpL L), (6, x), (7, I64 ia), (8, SB (!(L.any fun b => shQ (L.getD ia d0) b)))], hh⟩)
      ⟨[(4, DpL L), (6, x), (7, I64 ia), (8, SB true), (9, I64 (0 : Nat))], hh⟩ := by
  have hin := fun (kb : Nat) (hkb : kb < L.length) (ok : Bool) => mx_p L ia kb hia hkb ok h6 hn x hh
  obtain ⟨R, hR⟩ : ∃ R, R = (!(L.any fun b => shQ (L.getD ia d0) b)) := ⟨_, rfl⟩
  rw [← hR]
  have hR2 : R = (true && !((L.drop 0).any fun b => shQ (L.getD ia d0) b)) := by rw [hR, Bool.true_and, List.drop_zero]
  clear hR
  conv => arg 3; whnf
  refine SW.block ?_
  obtain ⟨I, hI⟩ : ∃ I : Nat → St → Prop, ∀ k S, I k S ↔ (∃ (p : Nat) (o2 : Bool), k = L.length - p ∧ p ≤ L.length ∧ R = (o2 && !((L.drop p).any fun b => shQ (L.getD ia d0) b)) ∧ S = ⟨[(4, DpL L), (6, x), (7, I64 ia), (8, SB o2), (9, I64 p)], hh⟩) := ⟨fun k S => _, fun _ _ => Iff.rfl⟩
  refine SW.loop' I (L.length) ((hI _ _).2 ⟨0, true, rfl, Nat.zero_le _, hR2, rfl⟩) (by repeat' (first | exact rfl | exact trivial | constructor)) ?_
  intro k S hIn
  obtain ⟨p, o2, rfl, hi, hC, rfl⟩ := (hI _ _).1 hIn
  clear hIn
  have ie : ((p : Nat) : Int).toNat = p := Int.toNat_natCast _
  have i0 : (0 : Int) ≤ ((p : Nat) : Int) := by omega
  clear hR2
  by_cases hlt : p < L.length
  · have hli : ((p : Nat) : Int) < (((L.length) : Nat) : Int) := by omega
    have w1 : IntKind.i64.wrap ((p : Int) + 1) = ((p + 1 : Nat) : Int) := by rw [i64_wrap (by omega) (by omega)]; omega
    rw [anyD_step hlt] at hC
    have hi2 := hin p hlt o2
    have hC2 : R = ((o2 && !(shQ (L.getD ia d0) (L.getD p d0))) && !((L.drop (p + 1)).any fun b => shQ (L.getD ia d0) b)) := by rw [hC, Bool.not_or, Bool.and_assoc]
    clear hC
    generalize hQ : shQ (L.getD ia d0) (L.getD p d0) = z at *
    clear hQ
    have hD : (0 : Nat) = 0 := rfl
    repeat' first | (refine SW.seq_k fun K hK => ?_) | ((first | refine SW.region ?_ | refine SW.cond ?_ | refine SW.skip ?_); try simp only [go_sem, hD, hli, ie, i0, w1, true_implies]) | (apply hK; clear hK K)
    refine SW.block ?_
    repeat' first | (refine SW.seq_k fun K hK => ?_) | (refine SW.region ?_; try simp only [go_sem, hD, hli, ie, i0, w1, true_implies]) | (apply hK; clear hK K)
    refine Ab.SW.cut _ (Ab.SW.le (St.le_sub (by repeat' (first | exact rfl | exact trivial | constructor))) hi2) ?_
    intro S' hle
    try simp only [go_sem, hD]
    (first | apply hK | (clear hK K; apply hK) | (clear hK K; clear hK K; apply hK)); clear hK K
    refine Ab.SW.le hle ?_
    clear hle hi2
    repeat' (refine SW.region ?_; try simp only [go_sem, hD, hli, ie, i0, w1, true_implies])
    refine Rnd.sub (L.length - (p + 1)) (by omega) ((hI _ _).2 ⟨p + 1, (o2 && !z), rfl, by omega, hC2, rfl⟩) (by repeat' (first | exact rfl | exact trivial | constructor))
  · have hli : ¬ ((p : Nat) : Int) < (((L.length) : Nat) : Int) := by omega
    rw [anyD_end (by omega), Bool.not_false, Bool.and_true] at hC
    subst hC
    have hD : (0 : Nat) = 0 := rfl
    repeat' first | (refine SW.seq_k fun K hK => ?_) | ((first | refine SW.region ?_ | refine SW.cond ?_ | refine SW.exit ?_); try simp only [go_sem, hD, hli, true_implies]) | (apply hK; clear hK K)
    exact St.le_sub (by repeat' (first | exact rfl | exact trivial | constructor))
set_option maxHeartbeats 4000000 in
set_option maxRecDepth 20000 in
theorem max_r (db : List Tb) (S : Sm db) : PCall Tryz.prog 17 [DB db] (.tup [DpL (mxP (allP db 6 0)), I64 0]) := by
  have rn := ref_sm db S 6 (by omega) (by omega)
  have hl := all_len S 6
  have h6 : ∀ x ∈ allP db 6 0, Ok6 x := fun x hx => by
    obtain ⟨_, _, _, _, a5, a6⟩ := all_mem S hx
    exact ⟨a6, by omega⟩
  clear S
  generalize allP db 6 0 = L at *
  refine pure_acc ?_
  refine Call.enter' (N := 81) (rs := [.tmp 2, .tmp 3]) Tryz.func17 rfl rfl rfl (by decide) rfl ?_; simp only [argT]; have hD : (0 : Nat) = 0 := rfl
  repeat' first | (refine SW.seq_k fun K hK => ?_) | ((first | refine SW.region ?_ | refine SW.cond ?_ | refine SW.skip ?_ | refine Call.of_pure (rn) ?_ | (refine allF_i fun b hb => ?_; replace hD := And.intro hb hD; clear hb; try simp only [fresh_cons, fresh_nil, and_true, ne_eq, neF] at hD)); try simp only [go_sem, hD, true_implies]) | (apply hK; clear hK K)
  refine Ab.SW.le (St.le_drop.trans (St.le_sub (l := [(4, DpL L), (6, SN), (7, I64 (0 : Nat))]) (by repeat' (first | exact rfl | exact trivial | constructor)))) ?_
  clear hD
  have hD : (0 : Nat) = 0 := rfl
  refine SW.block ?_
  obtain ⟨I, hI⟩ : ∃ I : Nat → St → Prop, ∀ k S, I k S ↔ (∃ (i : Nat) (y : SV) (hh : Heap), k = L.length - i ∧ i ≤ L.length ∧ Acc 4 y hh [] (mxI L i).length (dCs (mxI L i)) ∧ S = ⟨[(4, DpL L), (6, y), (7, I64 i)], hh⟩) := ⟨fun k S => _, fun _ _ => Iff.rfl⟩
  refine SW.loop' I (L.length) ((hI _ _).2 ⟨0, SN, [], rfl, Nat.zero_le _, .nil 4 [], rfl⟩) (by repeat' (first | exact rfl | exact trivial | constructor)) ?_
  intro k S hIn
  obtain ⟨i, y, hh, rfl, hi, hA2, rfl⟩ := (hI _ _).1 hIn
  clear hIn
  have ie : ((i : Nat) : Int).toNat = i := Int.toNat_natCast _
  have i0 : (0 : Int) ≤ ((i : Nat) : Int) := by omega
  by_cases hlt : i < L.length
  · have hli : ((i : Nat) : Int) < (((L.length) : Nat) : Int) := by omega
    have w1 : IntKind.i64.wrap ((i : Int) + 1) = ((i + 1 : Nat) : Int) := by rw [i64_wrap (by omega) (by omega)]; omega
    have fi : dpF L i = dC (L.getD i d0) := rfl
    have hst := mxI_step hlt
    have hml := mxI_len L i
    have hin := mx_k L i hlt h6 (by omega) y hh
    have hsn := dCs_snoc (mxI L i) (L.getD i d0)
    generalize (L.any fun b => shQ (L.getD i d0) b) = z at *
    generalize L.getD i d0 = d at *
    generalize mxI L i = M at *
    generalize hM2 : mxI L (i + 1) = M2 at *
    obtain ⟨df, dl, dt, dr⟩ := d
    have hm1 : (M.length + 1) * 80 ≤ 140737488355328 := by omega
    have hm2 : M.length + 1 ≤ 140737488355328 := by omega
    repeat' first | (refine SW.seq_k fun K hK => ?_) | ((first | refine SW.region ?_ | refine SW.cond ?_ | refine SW.skip ?_); try simp only [go_sem, hD, hli, ie, i0, w1, fi, true_implies]) | (apply hK; clear hK K)
    refine SW.block ?_
    repeat' first | (refine SW.seq_k fun K hK => ?_) | (refine SW.region ?_; try simp only [go_sem, hD, hli, ie, i0, w1, fi, true_implies]) | (apply hK; clear hK K)
    refine Ab.SW.cut _ (Ab.SW.le (St.le_sub (by repeat' (first | exact rfl | exact trivial | constructor))) hin) ?_
    intro S' hle
    try simp only [go_sem, hD]
    (first | apply hK | (clear hK K; apply hK) | (clear hK K; clear hK K; apply hK)); clear hK K
    refine Ab.SW.le hle ?_
    clear hle hin
    cases z with
    | true =>
      rw [if_neg (by simp), List.append_nil] at hst
      subst hst
      simp only [Bool.not_true]
      repeat' first | (refine SW.seq_k fun K hK => ?_) | ((first | refine SW.region ?_ | refine SW.cond ?_ | refine SW.skip ?_); try simp only [go_sem, hD, hli, ie, i0, w1, fi, true_implies]) | (apply hK; clear hK K)
      refine Rnd.sub (L.length - (i + 1)) (by omega) ((hI _ _).2 ⟨i + 1, y, hh, rfl, by omega, by rw [hM2]; exact hA2, rfl⟩) (by repeat' (first | exact rfl | exact trivial | constructor))
    | false =>
      rw [if_pos (by simp)] at hst
      simp only [Bool.not_false]
      repeat' first | ((with_reducible refine appK_acc hA2 ?_ ?_ ?_ ?_ ?_ ?_ hm1 hm2 ?_); (simp [hD]); (rfl); (rfl); (rfl); (exact Nat.succ_pos _); (rfl); (intro x3 b3 blk3 f1 f2 f3 f4 f5 f6 h3 hh3); (obtain ⟨h4, hA4, hle4⟩ := Acc.after f1 f4 f5 f6 hh3); (clear f1 f2 f3 f4 f5 f6 hh3); (try simp only [go_sem, hD])) | (refine SW.seq_k fun K hK => ?_) | ((first | refine SW.region ?_ | refine SW.cond ?_ | (refine allF_i fun b hb => ?_; replace hD := And.intro hb hD; clear hb; try simp only [fresh_cons, fresh_nil, and_true, ne_eq, neF] at hD)); try simp only [go_sem, hD, hli, ie, i0, w1, fi, true_implies]) | (apply hK; clear hK K)
      refine Rnd.le (hle4 _) ?_
      refine Rnd.sub (L.length - (i + 1)) (by omega) ((hI _ _).2 ⟨i + 1, x3, h4, rfl, by omega, by rw [hM2, hst, hsn, List.length_append]; exact hA4, rfl⟩) (by repeat' (first | exact rfl | exact trivial | constructor))
  · have hli : ¬ ((i : Nat) : Int) < (((L.length) : Nat) : Int) := by omega
    obtain rfl : i = L.length := by omega
    have hmm : mxI L L.length = mxP L := by unfold mxI mxP; rw [List.take_length]
    rw [hmm] at hA2
    generalize mxP L = M at *
    repeat' first | (refine SW.seq_k fun K hK => ?_) | ((first | refine SW.region ?_ | refine SW.cond ?_ | refine SW.exit ?_ | refine SW.ret ?_); try simp only [go_sem, hD, hli, true_implies]) | (apply hK; clear hK K) | (clear hK K; apply hK; clear hK K)
    refine retQ_le (fun M w0 D N a w r => r) ?_
    simp only [resL_tmp, resL_nil, tupOf, go_sem, hD]
    exact ⟨y, rfl, hA2⟩
end Go.Proofs.YtpidncgibgiidaaGreat
