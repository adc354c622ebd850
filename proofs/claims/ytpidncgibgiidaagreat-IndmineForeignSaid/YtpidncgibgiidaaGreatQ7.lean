/- Several texts in one: NV, OA, OB, OE, OC, OD, OF, PI, PJ, PK, PL. -/
import Derived.Test.YtpidncgibgiidaaGreatQ6
import Derived.Test.YtpidncgibgiidaaGreatZ25
import Derived.Test.YtpidncgibgiidaaGreatQ3
import Derived.Test.YtpidncgibgiidaaGreatQ4
set_option linter.unusedSimpArgs false
set_option linter.unusedVariables false
set_option linter.unusedSectionVars false
set_option maxHeartbeats 8000000
set_option maxRecDepth 20000
namespace Go.Ab.A15
open Go Go.Ab Go.Ab.A34
def posN (db : List Tb) (x : ByteArray) : Int := posF (fun t => t.name.toList == x.toList) 0 db
def keyE (db : List Tb) : List Ky → Int
  | [] => 0
  | k :: r => if posN db k.1 < 0 then 4 else if k.2 / 2 ^ (db.getD (posN db k.1).toNat t0).attrs.length = 0 then keyE db r else 6
theorem keyE_step {db : List Tb} {l : List Ky} {i : Nat} (h : i < l.length) : keyE db (l.drop i) = if posN db (l.getD i kd0).1 < 0 then 4 else if (l.getD i kd0).2 / 2 ^ (db.getD (posN db (l.getD i kd0).1).toNat t0).attrs.length = 0 then keyE db (l.drop (i + 1)) else 6 := by
  rw [List.drop_eq_getElem_cons h, show l.getD i kd0 = l[i] by simp [List.getD_eq_getElem?_getD, h]]
  rfl
theorem keyE_end {db : List Tb} {l : List Ky} {i : Nat} (h : l.length ≤ i) : keyE db (l.drop i) = 0 := by
  rw [List.drop_eq_nil_of_le h]; rfl
theorem posF_lt {α : Type} (p : α → Bool) : ∀ (l : List α) (k : Nat), posF p k l < ((k + l.length : Nat) : Int) ∧ (posF p k l < 0 ∨ 0 ≤ posF p k l)
  | [], k => ⟨by unfold posF; omega, by omega⟩
  | y :: l, k => by
    unfold posF
    have := posF_lt p l (k + 1)
    rw [List.length_cons]
    split
    · omega
    · omega
end Go.Ab.A15
namespace Go.Proofs.YtpidncgibgiidaaGreat
open Go Go.Ab Go.Ab.A34 Go.Ab.A15 Go.Ab.A01
variable [Gl] [Tabs]
theorem delete_n (g : FuncId) (caps : List SV) : PCall Tryz.prog 56 [SN, .fn (.func g) [] caps] SN := by
  have ix : PCall Tryz.prog 52 [SN, .fn (.func g) [] caps] (I64 (-1)) := PCall.nilA (args := [SN, .fn (.func g) [] caps]) 0 (by simp) rfl (indexF_d g caps (fun _ => true) [] (by simp) (fun d hd => by cases hd))
  refine Call.enter' (N := 42) (rs := [.tmp 4]) Tryz.func56 rfl rfl rfl (by decide) rfl ?_; simp only [argT]; have hD : (0 : Nat) = 0 := rfl
  repeat' first | (refine SW.seq_k fun K hK => ?_) | ((first | refine SW.region ?_ | refine SW.cond ?_ | refine SW.ret ?_ | refine Call.of_pure (ix) ?_); try simp only [go_sem, hD, true_implies]) | (apply hK; clear hK K)
  refine ret_pure ?_; simp only [resL_tmp, resL_nil, tupOf, go_sem, hD]
  try rfl
theorem chkD_6 {db : List Tb} (h : chkD db = 0) : ∀ t ∈ db, t.attrs.length ≤ 6 := by
  unfold chkD at h
  split at h
  · split at h
    · cases h
    · rename_i h1
      intro t ht
      have h2 : ¬ db.any (fun t => decide (6 < t.attrs.length)) = true := fun e => h1 (.inr e)
      rw [List.any_eq_true] at h2
      exact Nat.le_of_not_lt fun h3 => h2 ⟨t, ht, decide_eq_true h3⟩
  · rename_i h1
    exact absurd h h1
def ForQ (db : List Tb) (keys : List Ky) (R : Int) (r : SV) (h' : Heap) : Prop :=
  if R = 0 then ∃ x, r = .tup [x, I64 0] ∧ Acc 4 x h' [] ((allP db 6 0).filter fun d => !(notF keys d)).length (dCs ((allP db 6 0).filter fun d => !(notF keys d)))
  else r = .tup [SN, I64 R]
theorem foreign_p (db : List Tb) (keys : List Ky) (hk : keys.length ≤ 1000000) (hF : OkF db 6) (h0 : chkD db = 0) (h6 : ∀ d ∈ allP db 6 0, d.r.length ≤ 1000000) : Ab.Call Tryz.prog 24 [DB db, KyL keys] [] (ForQ db keys (keyE db keys)) := by
  have hdb := hF.n
  have c := checked_p db (by omega)
  rw [h0] at c
  have cs := search_p db 6 hF
  have htot := hF.tot
  have hix := fun (k : Ky) => indexF_t 55 [.fp [Str k.1, U32 k.2]] (fun t => t.name.toList == k.1.toList) db db.length (tF db) rfl (fun j hj => rfl) (by omega) (fun d _ => foreign_1 d k.1 k.2)
  obtain ⟨R, hR⟩ : ∃ R, R = keyE db keys := ⟨_, rfl⟩
  rw [← hR]
  have hCF := fun (b : Nat) => delete_o 57 [.fp [KyL keys]] (notF keys) (allP db 6 0) b (by omega) (fun d hd => foreign_2 keys d hk (h6 d hd))
  refine Call.enter' (N := 52) (rs := [.tmp 4, .tmp 5]) Tryz.func24 rfl rfl rfl (by decide) rfl ?_; simp only [argT]; have hD : (0 : Nat) = 0 := rfl
  repeat' first | (refine SW.seq_k fun K hK => ?_) | ((first | refine SW.region ?_ | refine SW.cond ?_ | refine SW.skip ?_ | refine Call.of_pure (c) ?_ | (refine allF_i fun b hb => ?_; replace hD := And.intro hb hD; clear hb; try simp only [fresh_cons, fresh_nil, and_true, ne_eq, neF] at hD)); try simp only [go_sem, hD, true_implies]) | (apply hK; clear hK K)
  obtain ⟨zb, rfl⟩ : ∃ x, x = b := ⟨_, rfl⟩
  obtain ⟨yb, rfl⟩ : ∃ x, x = b := ⟨_, rfl⟩
  refine Ab.SW.le (S' := ⟨[(2, .fp [TL db]), (3, .fp [KyL keys]), (17, KyL keys), (18, I64 keys.length), (19, I64 (0 : Nat))], []⟩) ?_ ?_
  · refine St.le.trans (St.le_freezeP (i := 3) (b := zb) (off := 0) (n := 1) (k := .svs [KyL keys]) rfl (by rw [find_cons, if_pos rfl]) (by exact Nat.le_refl 1)) ?_
    rw [del_head]
    simp only [getN, Blk.get, go_sem, hD]
    refine St.le.trans (St.le_freezeP (i := 2) (b := yb) (off := 0) (n := 1) (k := .svs [TL db]) rfl (by rw [find_cons, if_pos rfl]) (by exact Nat.le_refl 1)) ?_
    rw [del_head]
    simp only [getN, Blk.get, go_sem, hD]
    exact St.le_sub (by repeat' (first | exact rfl | exact trivial | constructor))
  clear hD
  have hD : (0 : Nat) = 0 := rfl
  refine SW.block ?_
  obtain ⟨I, hI⟩ : ∃ I : Nat → St → Prop, ∀ k S, I k S ↔ (∃ (i : Nat) , k = keys.length - i ∧ i ≤ keys.length ∧ R = keyE db (keys.drop i) ∧ S = ⟨[(2, .fp [TL db]), (3, .fp [KyL keys]), (17, KyL keys), (18, I64 keys.length), (19, I64 i)], []⟩) := ⟨fun k S => _, fun _ _ => Iff.rfl⟩
  refine SW.loop' I (keys.length) ((hI _ _).2 ⟨0, rfl, Nat.zero_le _, hR, rfl⟩) (by repeat' (first | exact rfl | exact trivial | constructor)) ?_
  intro k S hIn
  obtain ⟨i, rfl, hi, hC, rfl⟩ := (hI _ _).1 hIn
  clear hIn
  have ie : ((i : Nat) : Int).toNat = i := Int.toNat_natCast _
  have i0 : (0 : Int) ≤ ((i : Nat) : Int) := by omega
  clear hR
  by_cases hlt : i < keys.length
  · have hli : ((i : Nat) : Int) < (((keys.length) : Nat) : Int) := by omega
    have w1 : IntKind.i64.wrap ((i : Int) + 1) = ((i + 1 : Nat) : Int) := by rw [i64_wrap (by omega) (by omega)]; omega
    rw [keyE_step hlt] at hC
    have fi : kyF keys i = [Str (keys.getD i kd0).1, U32 (keys.getD i kd0).2] := rfl
    have ci := hix (keys.getD i kd0)
    generalize keys.getD i kd0 = v at *
    obtain ⟨v1, v2⟩ := v
    simp only at fi ci hC
    clear hix
    have hpl := posF_lt (fun t : Tb => t.name.toList == v1.toList) db 0
    change R = if posF (fun t : Tb => t.name.toList == v1.toList) 0 db < 0 then 4 else if v2 / 2 ^ (db.getD (posF (fun t : Tb => t.name.toList == v1.toList) 0 db).toNat t0).attrs.length = 0 then keyE db (keys.drop (i + 1)) else 6 at hC
    generalize posF (fun t : Tb => t.name.toList == v1.toList) 0 db = z at *
    by_cases hz : z < 0
    · rw [if_pos hz] at hC
      subst hC
      repeat' first | (refine SW.seq_k fun K hK => ?_) | ((first | refine SW.region ?_ | refine SW.cond ?_ | refine SW.skip ?_); try simp only [go_sem, hD, hli, ie, i0, w1, fi, true_implies]) | (apply hK; clear hK K)
      refine SW.block ?_
      repeat' first | ((refine Ab.SW.le (St.le_freezeP (i := 8) (n := 2) rfl (by rw [find_cons, if_pos rfl]) (by exact Nat.le_refl 2)) ?_); (rw [del_head]); (simp only [getN, Blk.get])) | (refine SW.seq_k fun K hK => ?_) | ((first | refine SW.region ?_ | refine SW.cond ?_ | refine SW.ret ?_ | refine Call.of_pure (ci) ?_ | (refine allF_i fun b hb => ?_; replace hD := And.intro hb hD; clear hb; try simp only [fresh_cons, fresh_nil, and_true, ne_eq, neF] at hD)); try simp only [go_sem, hD, hli, ie, i0, w1, fi, hz, true_implies]) | (apply hK; clear hK K)
      refine retQ_le (fun M w0 D N a w r => r) ?_
      simp only [resL_tmp, resL_nil, tupOf, go_sem, hD]
      unfold ForQ
      rw [if_neg (by decide)]
    · rw [if_neg hz] at hC
      obtain ⟨n, rfl⟩ : ∃ n : Nat, z = ((n : Nat) : Int) := ⟨z.toNat, by omega⟩
      have z0 : (0 : Int) ≤ ((n : Nat) : Int) := by omega
      have z1 : ((n : Nat) : Int) < ((db.length : Nat) : Int) := by omega
      have z2 : ((n : Nat) : Int).toNat = n := Int.toNat_natCast _
      rw [z2] at hC
      have ft : tF db n = tC (db.getD n t0) := rfl
      have ht6 := chkD_6 h0 _ (getD_mem' t0 (show n < db.length by omega))
      generalize db.getD n t0 = t at *
      obtain ⟨tn, ta, trs⟩ := t
      simp only at hC ht6
      have ft2 : tC ⟨tn, ta, trs⟩ = [Str tn, SL ta, RL trs] := rfl
      have sh := shr32 v2 ta.length
      have hmin : min ta.length 32 = ta.length := by omega
      clear hCF cs
      by_cases hq : v2 / 2 ^ ta.length = 0
      · rw [if_pos hq] at hC
        have hq2 : ((v2 / 2 ^ ta.length : Nat) : Int) = 0 := by rw [hq]; rfl
        repeat' first | (refine SW.seq_k fun K hK => ?_) | ((first | refine SW.region ?_ | refine SW.cond ?_ | refine SW.skip ?_); try simp only [go_sem, hD, hli, ie, i0, w1, fi, true_implies]) | (apply hK; clear hK K)
        refine SW.block ?_
        repeat' first | ((refine Ab.SW.le (St.le_freezeP (i := 8) (n := 2) rfl (by rw [find_cons, if_pos rfl]) (by exact Nat.le_refl 2)) ?_); (rw [del_head]); (simp only [getN, Blk.get])) | (refine SW.seq_k fun K hK => ?_) | ((first | refine SW.region ?_ | refine SW.regionD (Checked.mixed Tryz.checked) (by kernel_rfl) ?_ | refine SW.cond ?_ | refine SW.skip ?_ | refine Call.of_pure (ci) ?_ | (refine allF_i fun b hb => ?_; replace hD := And.intro hb hD; clear hb; try simp only [fresh_cons, fresh_nil, and_true, ne_eq, neF] at hD)); try simp only [go_sem, hD, hli, ie, i0, w1, fi, hz, z0, z1, z2, ft, ft2, hmin, sh, hq2, true_implies]) | (apply hK; clear hK K)
        refine Rnd.sub (keys.length - (i + 1)) (by omega) ((hI _ _).2 ⟨i + 1, rfl, by omega, hC, rfl⟩) (by repeat' (first | exact rfl | exact trivial | constructor))
      · rw [if_neg hq] at hC
        have hq2 : ¬ ((v2 / 2 ^ ta.length : Nat) : Int) = 0 := by omega
        subst hC
        repeat' first | (refine SW.seq_k fun K hK => ?_) | ((first | refine SW.region ?_ | refine SW.cond ?_ | refine SW.skip ?_); try simp only [go_sem, hD, hli, ie, i0, w1, fi, true_implies]) | (apply hK; clear hK K)
        refine SW.block ?_
        repeat' first | ((refine Ab.SW.le (St.le_freezeP (i := 8) (n := 2) rfl (by rw [find_cons, if_pos rfl]) (by exact Nat.le_refl 2)) ?_); (rw [del_head]); (simp only [getN, Blk.get])) | (refine SW.seq_k fun K hK => ?_) | ((first | refine SW.region ?_ | refine SW.regionD (Checked.mixed Tryz.checked) (by kernel_rfl) ?_ | refine SW.cond ?_ | refine SW.skip ?_ | refine SW.ret ?_ | refine Call.of_pure (ci) ?_ | (refine allF_i fun b hb => ?_; replace hD := And.intro hb hD; clear hb; try simp only [fresh_cons, fresh_nil, and_true, ne_eq, neF] at hD)); try simp only [go_sem, hD, hli, ie, i0, w1, fi, hz, z0, z1, z2, ft, ft2, hmin, sh, hq2, true_implies]) | (apply hK; clear hK K)
        refine retQ_le (fun M w0 D N a w r => r) ?_
        simp only [resL_tmp, resL_nil, tupOf, go_sem, hD]
        unfold ForQ
        rw [if_neg (by decide)]
  · have hli : ¬ ((i : Nat) : Int) < (((keys.length) : Nat) : Int) := by omega
    rw [keyE_end (by omega)] at hC
    subst hC
    have hdn := delete_n 57 [.fp [KyL keys]]
    clear hix
    obtain ⟨L, hL⟩ : ∃ L, L = allP db 6 0 := ⟨_, rfl⟩
    rw [← hL] at cs hCF
    repeat' first | ((with_reducible refine Call.mono cs ?_); (intro rr h' hx); (obtain ⟨x, rfl, hA⟩ := hx); (refine stop_i ?_)) | (refine SW.seq_k fun K hK => ?_) | ((first | refine SW.region ?_ | refine SW.cond ?_ | refine SW.exit ?_ | simp only [appK, appOsK]); try simp only [go_sem, hD, hli, true_implies]) | (apply hK; clear hK K) | (clear hK K; apply hK; clear hK K)
    refine ⟨?_⟩
    try simp only [go_sem, hD]
    (first | apply hK | (clear hK K; apply hK) | (clear hK K; clear hK K; apply hK)); clear hK K
    rcases Acc.cases hA with ⟨hn0, _, rfl, rfl⟩ | ⟨ob, hlen, rfl, hle2⟩
    · have hE0 : L = [] := List.eq_nil_of_length_eq_zero hn0
      repeat' first | (refine SW.seq_k fun K hK => ?_) | ((first | refine SW.region ?_ | refine SW.cond ?_ | refine SW.skip ?_ | refine SW.ret ?_ | refine Call.of_pure (hdn) ?_); try simp only [go_sem, hD, true_implies]) | (apply hK; clear hK K)
      refine retQ_le (fun M w0 D N a w r => r) ?_
      simp only [resL_tmp, resL_nil, tupOf, go_sem, hD]
      unfold ForQ
      rw [if_pos rfl, ← hL, hE0]
      exact ⟨_, rfl, .nil 4 []⟩
    · refine Ab.SW.le (hle2 _) ?_
      have hcf := hCF ob
      repeat' first | ((with_reducible refine Call.mono hcf ?_); (intro rr h' hx); (try simp only [go_sem, hD])) | (refine SW.seq_k fun K hK => ?_) | ((first | refine SW.region ?_ | refine SW.cond ?_ | refine SW.skip ?_ | refine SW.ret ?_); try simp only [go_sem, hD, true_implies]) | (apply hK; clear hK K)
      refine retQ_le (fun M w0 D N a w r => r) ?_
      simp only [resL_tmp, resL_nil, tupOf, go_sem, hD]
      unfold ForQ
      rw [if_pos rfl, ← hL]
      exact ⟨_, rfl, hx⟩
end Go.Proofs.YtpidncgibgiidaaGreat
namespace Go.Ab.A15
open Go Go.Ab Go.Ab.A34
def rcA : Rc := ⟨0, 0, [[1, 2], [2, 2]]⟩
def rcB : Rc := ⟨0, 0, [[1], [2], [11]]⟩
def exT : List Tb := [wideS rcA 2, ⟨⟨#[115]⟩, [⟨#[99]⟩], (wideS rcB 1).rows⟩]
end Go.Ab.A15
namespace Go.Proofs.YtpidncgibgiidaaGreat
open Go Go.Ab Go.Ab.A34 Go.Ab.A15 Go.Ab.A01
variable [Gl] [Tabs]
theorem wideA (b3 b4 b5 : Nat) (h1 : ¬ b5 = b4) (h2 : ¬ b5 = b3) (h3 : ¬ b4 = b3) (H : Heap) : Ab.Call Tryz.prog 87 [.agg [U8 0, U8 0, .os b5 0 2 1], I64 2] ((b5, .svs [.os b3 0 2 1, .os b4 0 2 1]) :: (b4, .svs [U8 2, U8 2]) :: (b3, .svs [U8 1, U8 2]) :: H) (fun r h' => r = TB (wideS rcA 2) ∧ h' = H) := by
  have c0 : PCall Tryz.prog 87 [RC rcA, I64 (2 : Nat)] (TB (wideS rcA 2)) := wide_r rcA ⟨by decide, by decide, by decide⟩ 2 (by omega) (by decide)
  have g1 : ¬ b4 = b5 := fun e => h1 e.symm
  have g2 : ¬ b3 = b5 := fun e => h2 e.symm
  have g3 : ¬ b3 = b4 := fun e => h3 e.symm
  have c1 : Ab.Call Tryz.prog 87 [.agg [U8 0, U8 0, .os b5 0 2 1], I64 2] [(b5, .svs [.os b3 0 2 1, .os b4 0 2 1]), (b4, .svs [U8 2, U8 2]), (b3, .svs [U8 1, U8 2])] (fun r h' => r = TB (wideS rcA 2) ∧ h' = []) := by
    refine Call.ofSt (args2 := [RC rcA, I64 (2 : Nat)]) (h2 := []) rfl (fun b hb => by obtain ⟨k, hk⟩ := hb; cases hk) ⟨[(0, RC rcA), (0, .agg [U8 0, U8 0, .os b5 0 2 1]), (1, I64 2)], ?_, fun i hi => by
      have : i = 0 ∨ i = 1 := by have h : i < 2 := hi; omega
      rcases this with rfl | rfl <;> rfl⟩ c0
    show (St.mk [(0, .agg [U8 0, U8 0, .os b5 0 2 1]), (1, I64 2)] _).le _
    refine St.le.trans (St.le_freezeC (c := b5) (j := 0) (b := b3) (off := 0) (len := 2) (sz := 1) (k := .svs [U8 1, U8 2]) (cs := [.os b3 0 2 1, .os b4 0 2 1]) (by rw [find_cons, if_pos rfl]) h2 (by simp) rfl (by simp [find_cons, h2, h3, h1]) (by decide) (fun j => [U8 ([1, 2].getD j 0)]) (fun p hp => by
      have h9 : p = 0 ∨ p = 1 := by omega
      rcases h9 with rfl | rfl <;> rfl)) ?_
    simp only [Heap.del, Heap.upd, h1, h2, h3, g1, g2, g3, if_true, if_false, List.set_cons_zero]
    refine St.le.trans (St.le_freezeC (c := b5) (j := 1) (b := b4) (off := 0) (len := 2) (sz := 1) (k := .svs [U8 2, U8 2]) (cs := [UL [1, 2], .os b4 0 2 1]) (by rw [find_cons, if_pos rfl]; rfl) h1 (by simp) rfl (by simp [find_cons, h2, h3, h1]) (by decide) (fun j => [U8 ([2, 2].getD j 0)]) (fun p hp => by
      have h9 : p = 0 ∨ p = 1 := by omega
      rcases h9 with rfl | rfl <;> rfl)) ?_
    simp only [Heap.del, Heap.upd, h1, h2, h3, g1, g2, g3, if_true, if_false, List.set_cons_zero, List.set_cons_succ]
    refine St.le.trans (St.le_freezeA (i := 0) (j := 2) (b := b5) (off := 0) (len := 2) (sz := 1) rfl (by simp) rfl (by rw [find_cons, if_pos rfl]) (by decide) (fun i => [UL ([[1, 2], [2, 2]].getD i [])]) (fun p hp => by
      have h9 : p = 0 ∨ p = 1 := by omega
      rcases h9 with rfl | rfl <;> rfl)) ?_
    simp only [Heap.del, if_true]
    exact St.le.refl _
  exact Call.mono (Call.frame (h2 := H) c1) fun r' h' ⟨h1, e, e1, e2⟩ => ⟨e1, by rw [e, e2]; rfl⟩
theorem wideB (b8 b9 b10 b11 : Nat) (h1 : ¬ b11 = b10) (h2 : ¬ b11 = b9) (h3 : ¬ b11 = b8) (h4 : ¬ b10 = b9) (h5 : ¬ b10 = b8) (h6 : ¬ b9 = b8) (H : Heap) : Ab.Call Tryz.prog 87 [.agg [U8 0, U8 0, .os b11 0 3 1], I64 1] ((b11, .svs [.os b8 0 1 1, .os b9 0 1 1, .os b10 0 1 1]) :: (b10, .svs [U8 11]) :: (b9, .svs [U8 2]) :: (b8, .svs [U8 1]) :: H) (fun r h' => r = TB (wideS rcB 1) ∧ h' = H) := by
  have c0 : PCall Tryz.prog 87 [RC rcB, I64 (1 : Nat)] (TB (wideS rcB 1)) := wide_r rcB ⟨by decide, by decide, by decide⟩ 1 (by omega) (by decide)
  have g1 : ¬ b10 = b11 := fun e => h1 e.symm
  have g2 : ¬ b9 = b11 := fun e => h2 e.symm
  have g3 : ¬ b8 = b11 := fun e => h3 e.symm
  have g4 : ¬ b9 = b10 := fun e => h4 e.symm
  have g5 : ¬ b8 = b10 := fun e => h5 e.symm
  have g6 : ¬ b8 = b9 := fun e => h6 e.symm
  have c1 : Ab.Call Tryz.prog 87 [.agg [U8 0, U8 0, .os b11 0 3 1], I64 1] [(b11, .svs [.os b8 0 1 1, .os b9 0 1 1, .os b10 0 1 1]), (b10, .svs [U8 11]), (b9, .svs [U8 2]), (b8, .svs [U8 1])] (fun r h' => r = TB (wideS rcB 1) ∧ h' = []) := by
    refine Call.ofSt (args2 := [RC rcB, I64 (1 : Nat)]) (h2 := []) rfl (fun b hb => by obtain ⟨k, hk⟩ := hb; cases hk) ⟨[(0, RC rcB), (0, .agg [U8 0, U8 0, .os b11 0 3 1]), (1, I64 1)], ?_, fun i hi => by
      have : i = 0 ∨ i = 1 := by have h : i < 2 := hi; omega
      rcases this with rfl | rfl <;> rfl⟩ c0
    show (St.mk [(0, .agg [U8 0, U8 0, .os b11 0 3 1]), (1, I64 1)] _).le _
    refine St.le.trans (St.le_freezeC (c := b11) (j := 0) (b := b8) (off := 0) (len := 1) (sz := 1) (k := .svs [U8 1]) (cs := [.os b8 0 1 1, .os b9 0 1 1, .os b10 0 1 1]) (by rw [find_cons, if_pos rfl]; try rfl) h3 (by simp) rfl (by simp [find_cons, h1, g1, h2, g2, h3, g3, h4, g4, h5, g5, h6, g6]) (by decide) (fun j => [U8 ([1].getD j 0)]) (fun p hp => by
      obtain rfl : p = 0 := by omega
      rfl)) ?_
    simp only [Heap.del, Heap.upd, h1, g1, h2, g2, h3, g3, h4, g4, h5, g5, h6, g6, if_true, if_false, List.set_cons_zero, List.set_cons_succ]
    refine St.le.trans (St.le_freezeC (c := b11) (j := 1) (b := b9) (off := 0) (len := 1) (sz := 1) (k := .svs [U8 2]) (cs := [UL [1], .os b9 0 1 1, .os b10 0 1 1]) (by rw [find_cons, if_pos rfl]; try rfl) h2 (by simp) rfl (by simp [find_cons, h1, g1, h2, g2, h3, g3, h4, g4, h5, g5, h6, g6]) (by decide) (fun j => [U8 ([2].getD j 0)]) (fun p hp => by
      obtain rfl : p = 0 := by omega
      rfl)) ?_
    simp only [Heap.del, Heap.upd, h1, g1, h2, g2, h3, g3, h4, g4, h5, g5, h6, g6, if_true, if_false, List.set_cons_zero, List.set_cons_succ]
    refine St.le.trans (St.le_freezeC (c := b11) (j := 2) (b := b10) (off := 0) (len := 1) (sz := 1) (k := .svs [U8 11]) (cs := [UL [1], UL [2], .os b10 0 1 1]) (by rw [find_cons, if_pos rfl]; try rfl) h1 (by simp) rfl (by simp [find_cons, h1, g1, h2, g2, h3, g3, h4, g4, h5, g5, h6, g6]) (by decide) (fun j => [U8 ([11].getD j 0)]) (fun p hp => by
      obtain rfl : p = 0 := by omega
      rfl)) ?_
    simp only [Heap.del, Heap.upd, h1, g1, h2, g2, h3, g3, h4, g4, h5, g5, h6, g6, if_true, if_false, List.set_cons_zero, List.set_cons_succ]
    refine St.le.trans (St.le_freezeA (i := 0) (j := 2) (b := b11) (off := 0) (len := 3) (sz := 1) rfl (by simp) rfl (by rw [find_cons, if_pos rfl]) (by decide) (fun i => [UL ([[1], [2], [11]].getD i [])]) (fun p hp => by
      have h9 : p = 0 ∨ p = 1 ∨ p = 2 := by omega
      rcases h9 with rfl | rfl | rfl <;> rfl)) ?_
    simp only [Heap.del, if_true]
    exact St.le.refl _
  exact Call.mono (Call.frame (h2 := H) c1) fun r' h' ⟨h1, e, e1, e2⟩ => ⟨e1, by rw [e, e2]; rfl⟩
theorem ex_c : PCall Tryz.prog 45 [] (DB exT) := by
  have wA := wideA
  have wB := wideB
  have eA : wideS rcA 2 = ⟨⟨#[114]⟩, nm8.take 2, (wideS rcA 2).rows⟩ := rfl
  have eB : wideS rcB 1 = ⟨⟨#[114]⟩, nm8.take 1, (wideS rcB 1).rows⟩ := rfl
  have eT : exT = [⟨⟨#[114]⟩, nm8.take 2, (wideS rcA 2).rows⟩, ⟨⟨#[115]⟩, [⟨#[99]⟩], (wideS rcB 1).rows⟩] := rfl
  rw [eT]
  rw [eA] at wA
  rw [eB] at wB
  clear eA eB eT
  generalize (wideS rcA 2).rows = rA at *
  generalize (wideS rcB 1).rows = rB at *
  generalize nm8.take 2 = nA at *
  generalize nm8.take 1 = nB at *
  refine Call.enter' (N := 21) (rs := [.cell 0 26]) Tryz.func45 rfl rfl rfl (by decide) rfl ?_; simp only [argT]; have hD : (0 : Nat) = 0 := rfl
  repeat' first | ((with_reducible refine Call.mono (wA _ _ _ ?_ ?_ ?_ _) ?_); (simp [hD]); (simp [hD]); (simp [hD]); (intro rr h' hx); (obtain ⟨rfl, rfl⟩ := hx); (try simp only [go_sem, hD])) | ((with_reducible refine Call.mono (wB _ _ _ _ ?_ ?_ ?_ ?_ ?_ ?_ _) ?_); (simp [hD]); (simp [hD]); (simp [hD]); (simp [hD]); (simp [hD]); (simp [hD]); (intro rr h' hx); (obtain ⟨rfl, rfl⟩ := hx); (try simp only [go_sem, hD])) | (refine SW.seq_k fun K hK => ?_) | ((first | refine SW.region ?_ | refine SW.ret ?_ | (refine allF_i fun b hb => ?_; replace hD := And.intro hb hD; clear hb; try simp only [fresh_cons, fresh_nil, and_true, ne_eq, neF] at hD)); try simp only [go_sem, hD, true_implies]) | (apply hK; clear hK K)
  obtain ⟨T, rfl⟩ : ∃ x, x = b := ⟨_, rfl⟩
  obtain ⟨A, rfl⟩ : ∃ x, x = b := ⟨_, rfl⟩
  obtain ⟨X2, rfl⟩ : ∃ x, x = b := ⟨_, rfl⟩
  obtain ⟨q1, rfl⟩ : ∃ x, x = b := ⟨_, rfl⟩
  obtain ⟨q2, rfl⟩ : ∃ x, x = b := ⟨_, rfl⟩
  obtain ⟨q3, rfl⟩ : ∃ x, x = b := ⟨_, rfl⟩
  obtain ⟨q4, rfl⟩ : ∃ x, x = b := ⟨_, rfl⟩
  obtain ⟨X1, rfl⟩ : ∃ x, x = b := ⟨_, rfl⟩
  obtain ⟨q5, rfl⟩ : ∃ x, x = b := ⟨_, rfl⟩
  obtain ⟨q6, rfl⟩ : ∃ x, x = b := ⟨_, rfl⟩
  obtain ⟨q7, rfl⟩ : ∃ x, x = b := ⟨_, rfl⟩
  obtain ⟨O, rfl⟩ : ∃ x, x = b := ⟨_, rfl⟩
  refine retQ_le (S' := ⟨[(0, .fp [TL [⟨⟨#[114]⟩, nA, rA⟩, ⟨⟨#[115]⟩, [⟨#[99]⟩], rB⟩]])], []⟩) ?_ ?_
  · skip
    refine St.le.trans (St.le_freezeC (c := T) (j := 4) (b := A) (off := 0) (len := 1) (sz := 1) (by first | (rw [find_cons, if_pos rfl]) | (simp [find_cons, hD]; done) | (simp [find_cons, hD]; rfl)) (by simp [hD]) (by first | decide | simp [Blk.len_svs]) rfl (by first | (rw [find_cons, if_pos rfl]) | (simp [find_cons, hD]; done) | (simp [find_cons, hD]; rfl)) (by first | decide | simp [Blk.len_svs]) (sF [⟨#[99]⟩]) (fun p hp => by
      obtain rfl : p = 0 := by omega
      rfl)) ?_
    simp only [go_sem, hD]
    refine St.le.trans (St.le_freezeC (c := O) (j := 0) (b := T) (off := 0) (len := 2) (sz := 3) (by first | (rw [find_cons, if_pos rfl]) | (simp [find_cons, hD]; done) | (simp [find_cons, hD]; rfl)) (by simp [hD]) (by first | decide | simp [Blk.len_svs]) rfl (by first | (rw [find_cons, if_pos rfl]) | (simp [find_cons, hD]; done) | (simp [find_cons, hD]; rfl)) (by first | decide | simp [Blk.len_svs]) (tF [⟨⟨#[114]⟩, nA, rA⟩, ⟨⟨#[115]⟩, [⟨#[99]⟩], rB⟩]) (fun p hp => by
      have h9 : p = 0 ∨ p = 1 := by omega
      rcases h9 with rfl | rfl <;> rfl)) ?_
    simp only [go_sem, hD]
    refine St.le.trans (St.le_freezeP (i := 0) (b := O) (off := 0) (n := 1) rfl (by first | (rw [find_cons, if_pos rfl]) | (simp [find_cons, hD]; done) | (simp [find_cons, hD]; rfl)) (by exact Nat.le_refl 1)) ?_
    refine St.le_drop.trans ?_
    simp only [getN, Blk.get, go_sem, hD]
    exact St.le_sub (by repeat' (first | exact rfl | exact trivial | constructor))
  simp only [resL_tmp, resL_cellE, resC_ok, resL_nil, tupOf, getN, go_sem, hD]
  try exact ⟨rfl, rfl⟩
end Go.Proofs.YtpidncgibgiidaaGreat
namespace Go.Ab.A15
open Go Go.Ab Go.Ab.A34 Go.Ab.A01 Go.Proofs.YtpidncgibgiidaaGreat
theorem mok_of {db : List Tb} (h : chkS db = 0) (hn : OkN db) : ∀ s ∈ db, ∀ t ∈ db, MOk s t := fun s hs t ht => by
  have V := chkS_ok h
  obtain ⟨a1, a2, a3⟩ := valid_rows (V.v s hs)
  obtain ⟨b1, b2, b3⟩ := valid_rows (V.v t ht)
  exact ⟨a1, b1, fun r hr => ⟨⟨(a3 r hr).2, hn s hs r hr⟩, (a3 r hr).1⟩, fun r hr => ⟨⟨(b3 r hr).2, hn t ht r hr⟩, (b3 r hr).1⟩, by omega, by omega⟩
theorem chkD_S {db : List Tb} (h : chkD db = 0) : chkS db = 0 := by
  unfold chkD at h
  split at h
  · rename_i h1; exact h1
  · exact h
def wantE : List Dp := [⟨⟨#[114]⟩, [1], ⟨#[114]⟩, [0]⟩, ⟨⟨#[114]⟩, [0], ⟨#[115]⟩, [0]⟩, ⟨⟨#[114]⟩, [1], ⟨#[115]⟩, [0]⟩]
theorem exE_chk : chkD exT = 0 := by decide +kernel
theorem exE_n : OkN exT := by
  have h : exT.all (fun t => t.rows.all fun r => r.2.all fun v => decide (-9223372036854775808 ≤ v.2.1) && decide (v.2.1 ≤ 9223372036854775807)) = true := by decide +kernel
  intro t ht r hr v hv
  have := List.all_eq_true.1 (List.all_eq_true.1 (List.all_eq_true.1 h t ht) r hr) v hv
  simp only [Bool.and_eq_true, decide_eq_true_eq] at this
  exact this
theorem srtD_id {l : List Dp} (h : l.Pairwise LtD) : srtD l = l :=
  pwD_eq (srtD_pw (h.imp fun {a b} hab e => by unfold LtD at hab; omega)) h fun x => (srtD_perm l).mem_iff
def unsP (db : List Tb) (ar i k : Nat) : List Dp := (exS (qB (db.getD i t0) (db.getD k t0) (decide ((i : Int) = (k : Int)))) (db.getD i t0).attrs.length (db.getD k t0).attrs.length ar [] []).map (mkD (db.getD i t0) (db.getD k t0))
def pwB : List Dp → Bool
  | [] => true
  | a :: l => l.all (fun b => decide (cmpD a b < 0)) && pwB l
theorem pwB_ok : ∀ {l : List Dp}, pwB l = true → l.Pairwise LtD
  | [], _ => .nil
  | a :: l, h => by
    unfold pwB at h
    simp only [Bool.and_eq_true] at h
    exact .cons (fun b hb => show cmpD a b < 0 from of_decide_eq_true (List.all_eq_true.1 h.1 b hb)) (pwB_ok h.2)
theorem unsP_eq {db : List Tb} {ar i k : Nat} {l : List Dp} (h : unsP db ar i k = l) (hl : pwB l = true) : pairP db ar i k = l := by
  show srtD (unsP db ar i k) = l
  rw [h]
  exact srtD_id (pwB_ok hl)
theorem exE_all (ar : Nat) {a b c d : List Dp} (ha : pairP exT ar 0 0 = a) (hb : pairP exT ar 0 1 = b) (hc : pairP exT ar 1 0 = c) (hd : pairP exT ar 1 1 = d) : allP exT ar 0 = a ++ b ++ (c ++ d) := by
  show (pairP exT ar 0 0 ++ (pairP exT ar 0 1 ++ [])) ++ ((pairP exT ar 1 0 ++ (pairP exT ar 1 1 ++ [])) ++ []) = _
  rw [ha, hb, hc, hd]
  simp only [List.append_nil]
theorem exE_1 : allP exT 1 0 = wantE :=
  exE_all 1 (a := [⟨⟨#[114]⟩, [1], ⟨#[114]⟩, [0]⟩]) (b := [⟨⟨#[114]⟩, [0], ⟨#[115]⟩, [0]⟩, ⟨⟨#[114]⟩, [1], ⟨#[115]⟩, [0]⟩]) (c := []) (d := []) (unsP_eq (by decide +kernel) (by decide +kernel)) (unsP_eq (by decide +kernel) (by decide +kernel)) (unsP_eq (by decide +kernel) (by decide +kernel)) (unsP_eq (by decide +kernel) (by decide +kernel))
theorem exE_6 : allP exT 6 0 = wantE :=
  exE_all 6 (a := [⟨⟨#[114]⟩, [1], ⟨#[114]⟩, [0]⟩]) (b := [⟨⟨#[114]⟩, [0], ⟨#[115]⟩, [0]⟩, ⟨⟨#[114]⟩, [1], ⟨#[115]⟩, [0]⟩]) (c := []) (d := []) (unsP_eq (by decide +kernel) (by decide +kernel)) (unsP_eq (by decide +kernel) (by decide +kernel)) (unsP_eq (by decide +kernel) (by decide +kernel)) (unsP_eq (by decide +kernel) (by decide +kernel))
theorem exE_max : maxP (allP exT 6 0) = wantE := by rw [exE_6]; decide +kernel
def keyE1 : List Ky := [(⟨#[115]⟩, 1)]
theorem exE_key : keyE exT keyE1 = 0 := by decide +kernel
theorem exE_for : ((allP exT 6 0).filter fun d => !(notF keyE1 d)) = [⟨⟨#[114]⟩, [0], ⟨#[115]⟩, [0]⟩, ⟨⟨#[114]⟩, [1], ⟨#[115]⟩, [0]⟩] := by rw [exE_6]; decide +kernel
theorem exE_vE : vE exT ⟨⟨#[115]⟩, [0], ⟨#[114]⟩, [0]⟩ = 0 := by decide +kernel
theorem exE_cov : covS exT ⟨⟨#[115]⟩, [0], ⟨#[114]⟩, [0]⟩ = (2, 3, 0) := by decide +kernel
theorem exE_F (ar : Nat) (h : ar ≤ 6) (hl : allP exT ar 0 = wantE) : OkF exT ar := ⟨by decide, mok_of (chkD_S exE_chk) exE_n, by rw [hl]; decide, h⟩
end Go.Ab.A15
namespace Go.Ab.A15
open Go Go.Ab Go.Ab.A34 Go.Ab.A01
theorem adj_lt {l : List Int} (h : ∀ i, i < l.length → 0 < i → l.getD (i - 1) 0 < l.getD i 0) : ∀ (d i : Nat), i + d + 1 < l.length → l.getD i 0 < l.getD (i + d + 1) 0
  | 0, i, hi => h (i + 1) hi (by omega)
  | d + 1, i, hi => by
    have h1 := adj_lt h d i (by omega)
    have h2 := h (i + (d + 1) + 1) hi (by omega)
    rw [Nat.add_sub_cancel] at h2
    rw [show i + (d + 1) = i + d + 1 by omega] at *
    omega
theorem adj_pw {l : List Int} : (∀ i, i < l.length → 0 < i → l.getD (i - 1) 0 < l.getD i 0) ↔ l.Pairwise (· < ·) := by
  rw [List.pairwise_iff_getElem]
  constructor
  · intro h i j hi hj hij
    have := adj_lt h (j - i - 1) i (by omega)
    rw [show i + (j - i - 1) + 1 = j by omega] at this
    simpa [List.getD_eq_getElem?_getD, hi, hj] using this
  · intro h i hi h0
    have := h (i - 1) i (by omega) hi (by omega)
    have h1 : i - 1 < l.length := by omega
    simpa [List.getD_eq_getElem?_getD, hi, h1] using this
theorem take_nd {r : List Int} : (∀ i, i < r.length → ¬ r.getD i 0 ∈ r.take i) ↔ r.Nodup := by
  unfold List.Nodup
  rw [List.pairwise_iff_getElem]
  constructor
  · intro h i j hi hj hij e
    refine h j hj ?_
    rw [show r.getD j 0 = r[j] by simp [List.getD_eq_getElem?_getD, hj], ← e]
    exact List.mem_take_iff_getElem.2 ⟨i, by omega, rfl⟩
  · intro h i hi hm
    obtain ⟨j, hj, e⟩ := List.mem_take_iff_getElem.1 hm
    rw [show r.getD i 0 = r[i] by simp [List.getD_eq_getElem?_getD, hi]] at e
    exact h j i (by omega) hi (by omega) e
theorem canD_iff {f t : ByteArray} {l r : List Int} : CanD ⟨f, l, t, r⟩ ↔ l ≠ [] ∧ l.length = r.length ∧ l.Pairwise (· < ·) ∧ r.Nodup ∧ (f = t → ∀ p ∈ l.zip r, p.1 ≠ p.2) := by
  unfold CanD canI
  simp only
  rw [← adj_pw, ← take_nd]
  constructor
  · rintro ⟨h0, hl, h⟩
    refine ⟨List.length_pos_iff.1 h0, hl, fun i hi h1 => (h i hi).1 h1, fun i hi => (h i (by omega)).2.1, fun e p hp e2 => ?_⟩
    obtain ⟨i, hi, rfl⟩ := List.mem_iff_getElem.1 hp
    rw [List.length_zip] at hi
    rw [List.getElem_zip] at e2
    have hi1 : i < l.length := by omega
    have hi2 : i < r.length := by omega
    refine (h i hi1).2.2 ⟨e, ?_⟩
    simpa [List.getD_eq_getElem?_getD, hi1, hi2] using e2
  · rintro ⟨h0, hl, h1, h2, h3⟩
    refine ⟨List.length_pos_iff.2 h0, hl, fun i hi => ⟨fun hp => h1 i hi hp, h2 i (by omega), ?_⟩⟩
    rintro ⟨e, e2⟩
    have hi2 : i < r.length := by omega
    refine h3 e (l[i], r[i]) (List.mem_iff_getElem.2 ⟨i, by rw [List.length_zip]; omega, by rw [List.getElem_zip]⟩) ?_
    simpa [List.getD_eq_getElem?_getD, hi, hi2] using e2
theorem hM_iff {F T : List R3} {l r : List Int} : hM F T l r = true ↔ violS F T l r = [] := by
  rw [viol_nil]
  unfold hM
  simp only [Bool.not_eq_true', List.any_eq_false, Bool.not_eq_true', Bool.not_eq_false, List.any_eq_true, agB_iff, Bool.not_eq_true]
  simp only [Classical.not_forall, Classical.not_not, exists_prop]
theorem ns_at {db : List Tb} {j : Nat} (hj : j < db.length) : (nsOf db).getD j 0 = (db.getD j t0).attrs.length := by
  unfold nsOf
  simp [List.getD_eq_getElem?_getD, hj]
theorem vE_fit {db : List Tb} {d : Dp} (h : chkS db = 0) : vE db d = 0 ↔ Fit (nmsOf db) (nsOf db) d := by
  unfold vE
  rw [if_neg (fun x => x h)]
  exact ⟨fits_ok, fitsS_of⟩
open Classical in
theorem qR_iff {db : List Tb} (h : chkS db = 0) {i k : Nat} (hi : i < db.length) (hk : k < db.length) (l r : List Int) : qR db (db.getD i t0) (db.getD k t0) l r = qB (db.getD i t0) (db.getD k t0) (decide ((i : Int) = (k : Int))) l r := by
  have V := chkS_ok h
  obtain ⟨mi, xi⟩ := idx_at V.n hi
  obtain ⟨mk, xk⟩ := idx_at V.n hk
  have nm : (db.getD i t0).name = (db.getD k t0).name ↔ decide ((i : Int) = (k : Int)) = true := by
    rw [decide_eq_true_eq]
    constructor
    · intro e
      rw [e, xk] at xi
      omega
    · intro e
      obtain rfl : i = k := by omega
      rfl
  rw [Bool.eq_iff_iff, qB_iff, canB_iff]
  unfold qR hldB
  rw [Bool.and_eq_true, Bool.and_eq_true, decide_eq_true_eq, decide_eq_true_eq, List.isEmpty_iff, canD_iff, vE_fit h]
  unfold rowsAt
  rw [xi, xk, ← hM_iff]
  constructor
  · rintro ⟨⟨a1, a2, a3, a4, a5⟩, F, v⟩
    have f1 := F.l
    have f2 := F.r
    simp only at f1 f2
    rw [xi, ns_at hi] at f1
    rw [xk, ns_at hk] at f2
    exact ⟨⟨a1, a2, a3, a4, fun e => a5 (nm.2 e)⟩, f1, f2, v⟩
  · rintro ⟨⟨a1, a2, a3, a4, a5⟩, f1, f2, v⟩
    refine ⟨⟨a1, a2, a3, a4, fun e => a5 (nm.1 e)⟩, ⟨mi, mk, a2, ?_, ?_, a3.imp fun {x y} hxy => Int.ne_of_lt hxy, a4⟩, v⟩
    · simp only
      rw [xi, ns_at hi]
      exact f1
    · simp only
      rw [xk, ns_at hk]
      exact f2
theorem q_len {q : List Int → List Int → Bool} {nf nt : Nat} (h : Pq q nf nt) {l r : List Int} (hq : q l r = true) : l.length ≤ nf ∧ r.length ≤ nf := by
  have h1 := few_nums (n := nf) ((h.asc hq).imp fun {x y} hxy => Int.ne_of_lt hxy) (h.inl hq)
  have h2 := h.len hq
  exact ⟨h1, by omega⟩
theorem lv_len {f t : Tb} {same : Bool} (hf : f.attrs.length ≤ 3) (ht : t.attrs.length ≤ 3) (k : Nat) : (lvR (qB f t same) f.attrs.length t.attrs.length k).1.length ≤ 63 ∧ srtD ((lvR (qB f t same) f.attrs.length t.attrs.length k).1.map (mkD f t)) = srtD ((exS (qB f t same) f.attrs.length t.attrs.length k [] []).map (mkD f t)) := by
  have hq := qB_pq f t same
  have hn := qB_nil f t same
  have key : srtD ((lvR (qB f t same) f.attrs.length t.attrs.length k).1.map (mkD f t)) = srtD ((exS (qB f t same) f.attrs.length t.attrs.length k [] []).map (mkD f t)) := by
    refine srtD_eq (mk_pw f t (lvR_nodup hq hn k).1) (mk_pw f t (nodup_exS hq k [] [] rfl)) fun x => ?_
    rw [List.mem_map, List.mem_map]
    constructor
    · rintro ⟨p, hp, e⟩
      exact ⟨p, (mem_ex hq hn k p).2 (((lvR_mem hq hn k).1 p).1 hp), e⟩
    · rintro ⟨p, hp, e⟩
      exact ⟨p, ((lvR_mem hq hn k).1 p).2 ((mem_ex hq hn k p).1 hp), e⟩
  refine ⟨?_, key⟩
  have := congrArg List.length key
  rw [srtD_len, srtD_len, List.length_map, List.length_map] at this
  rw [this]
  exact len_ex hf ht k
theorem lv_ok {f t : Tb} {same : Bool} (hf : f.attrs.length ≤ 3) (ht : t.attrs.length ≤ 3) (most : Nat) : OkLv (qB f t same) f.attrs.length t.attrs.length most where
  len := fun k _ p hp => by
    rcases ((lvR_mem (qB_pq f t same) (qB_nil f t same) k).2 p).1 hp with ⟨h, _⟩ | ⟨_, rfl⟩
    · have := q_len (qB_pq f t same) h
      omega
    · exact ⟨by simp, by simp⟩
  l1 := fun k _ => by have := (lv_len (same := same) hf ht k).1; omega
  l2 := fun k _ => by
    match k with
    | 0 => show (1 : Nat) ≤ 9000; omega
    | k + 1 =>
      have h1 := (lv_len (same := same) hf ht (k + 1)).1
      have e : (lvR (qB f t same) f.attrs.length t.attrs.length (k + 1)).1 = (lvR (qB f t same) f.attrs.length t.attrs.length k).1 ++ (lvR (qB f t same) f.attrs.length t.attrs.length (k + 1)).2 := rfl
      rw [e, List.length_append] at h1
      omega
end Go.Ab.A15
namespace Go.Ab
open Go Go.RowKit
theorem Call.frzT [Gl] {P : Program} {f : FuncId} {args : List SV} {h : Heap} {Q Q' : SV → Heap → Prop} (hc : Call P f args h Q) (hq : ∀ r h1, Q r h1 → ∃ a b a2, r = .tup [a, b] ∧ (St.mk [(0, a), (1, b)] h1).le ⟨[(0, a2), (1, b)], []⟩ ∧ Q' (.tup [a2, b]) []) : Call P f args h Q' :=
  ⟨fun M w vs own hr => (hc.out M w vs own hr).mono fun e w' ⟨v, r, h', he, hQ, hv, own', frm, hh⟩ => by
    obtain ⟨a, b, a2, rfl, hle, hQ'⟩ := hq _ _ hQ
    cases hv with
    | tup c _ hl hr2 =>
      have r1 : Rel M w' (fun _ => True) c.size (St.mk [(0, a), (1, b)] h') ⟨c, []⟩ w' := by
        refine ⟨rfl, rfl, fun i => ?_, own', Frm.refl _ _, fun _ _ _ => trivial⟩
        match i with
        | 0 => exact hr2 0 (by simp)
        | 1 => exact hr2 1 (by simp)
        | i + 2 => exact .any _
      have r2 := hle M w' (fun _ => True) c.size ⟨c, []⟩ w' r1
      refine ⟨_, _, [], he, hQ', .tup c _ (by simpa using hl) (fun j hj => ?_), r2.own, frm, fun b hb => by obtain ⟨k, hk⟩ := hb; cases hk⟩
      have : j = 0 ∨ j = 1 := by have h : j < 2 := hj; omega
      rcases this with rfl | rfl
      · exact r2.t 0
      · exact r2.t 1⟩
end Go.Ab
namespace Go.Proofs.YtpidncgibgiidaaGreat
open Go Go.Ab Go.Ab.A34 Go.Ab.A15 Go.Ab.A01
variable [Gl] [Tabs]
theorem pure_acc {f : Nat} {args : List SV} {L : List Dp} (hc : Ab.Call Tryz.prog f args [] (fun r h' => ∃ x, r = .tup [x, I64 0] ∧ Acc 4 x h' [] L.length (dCs L))) : PCall Tryz.prog f args (.tup [DpL L, I64 0]) :=
  Call.frzT hc fun r h1 ⟨x, e, hA⟩ => ⟨x, I64 0, DpL L, e, (St.le_acc_fl (i := 0) rfl hA (dpF L) (fun j hj => fC_at (enc := dC) (k := 4) (fun _ => rfl) d0 L j hj)).trans (St.le_sub (by repeat' (first | exact rfl | exact trivial | constructor))), ⟨rfl, rfl⟩⟩
theorem wantE_s : ∀ d ∈ wantE, OkS d := by
  intro d hd
  have h : wantE.all (fun d => decide (d.l.length ≤ 5) && decide (d.r.length ≤ 5)) = true := by decide
  have := List.all_eq_true.1 h d hd
  simp only [Bool.and_eq_true, decide_eq_true_eq] at this
  exact ⟨by omega, by omega⟩
theorem wantE_6 : ∀ d ∈ wantE, Ok6 d := by
  intro d hd
  have h : wantE.all (fun d => decide (d.l.length = d.r.length) && decide (d.l.length ≤ 5)) = true := by decide
  have := List.all_eq_true.1 h d hd
  simp only [Bool.and_eq_true, decide_eq_true_eq] at this
  exact ⟨by omega, by omega⟩
theorem exE_un : PCall Tryz.prog 14 [DB exT] (.tup [DpL wantE, I64 0]) := by
  have h := unary_p exT (exE_F 1 (by omega) exE_1) exE_chk
  unfold AllC at h
  rw [exE_1] at h
  exact pure_acc h
theorem exE_mx : PCall Tryz.prog 16 [DB exT] (.tup [DpL wantE, I64 0]) := by
  have h := maximal_p exT (by decide) (allP exT 6 0) rfl (by rw [exE_6]; decide) (by rw [exE_6]; exact wantE_6) (all_p exT 6 (exE_F 6 (by omega) exE_6) exE_chk (by omega))
  rw [exE_max] at h
  exact pure_acc h
theorem exE_fo : PCall Tryz.prog 24 [DB exT, KyL keyE1] (.tup [DpL [⟨⟨#[114]⟩, [0], ⟨#[115]⟩, [0]⟩, ⟨⟨#[114]⟩, [1], ⟨#[115]⟩, [0]⟩], I64 0]) := by
  have h := foreign_p exT keyE1 (by decide) (exE_F 6 (by omega) exE_6) exE_chk (by rw [exE_6]; intro d hd; have := (wantE_s d hd); have := wantE_6 d hd; have := this.e; have := this; have h2 := (wantE_6 d hd).l; omega)
  rw [exE_key] at h
  refine pure_acc (Call.mono h fun r h' hq => ?_)
  unfold ForQ at hq
  rw [if_pos rfl, exE_for] at hq
  exact hq
theorem exE_co : PCall Tryz.prog 31 [DB exT, .agg [Str ⟨#[115]⟩, IL [0], Str ⟨#[114]⟩, IL [0]]] (FR (2, 3, 0)) := by
  have h := coverage_p exT ⟨⟨#[115]⟩, [0], ⟨#[114]⟩, [0]⟩ (by decide) ⟨by decide, by decide⟩ exE_n exE_vE
  rw [exE_cov] at h
  exact h
end Go.Proofs.YtpidncgibgiidaaGreat
namespace Go.Proofs.YtpidncgibgiidaaGreat
open Go Go.Ab Go.Ab.A34 Go.Ab.A15 Go.Ab.A01
variable [Gl] [Tabs]
theorem exE_fo2 (kb : Nat) (H : Heap) : Ab.Call Tryz.prog 24 [DB exT, .os kb 0 1 2] ((kb, .svs [Str ⟨#[115]⟩, U32 1]) :: H) (fun r h' => r = .tup [DpL [⟨⟨#[114]⟩, [0], ⟨#[115]⟩, [0]⟩, ⟨⟨#[114]⟩, [1], ⟨#[115]⟩, [0]⟩], I64 0] ∧ h' = H) :=
  Call.give (args := [DB exT, .os kb 0 1 2]) 1 (kyF keyE1) (by simp) rfl (by show 0 + 1 * 2 ≤ 2; omega) (fun j hj => by
    obtain rfl : j = 0 := by omega
    rfl) exE_fo
theorem le_i1 (i : Nat) (v : Int) {t : List (Nat × SV)} {h : Heap} {b : Nat} (hi : Ab.look t i = SV.os b 0 1 1) : (St.mk t ((b, .svs [I64 v]) :: h)).le ⟨(i, IL [v]) :: t, h⟩ := by
  refine (St.le_freeze (i := i) (b := b) (off := 0) (len := 1) (sz := 1) (k := .svs [I64 v]) hi (by rw [find_cons, if_pos rfl]) (by exact Nat.le_refl 1) (iF [v]) (fun j hj => ?_)).trans ?_
  · obtain rfl : j = 0 := by omega
    rfl
  · rw [del_head]
    exact St.le.refl _
theorem le_w4 {t : List (Nat × SV)} {h : Heap} {b : Nat} (hi : Ab.look t 4 = SV.os b 0 3 4) : (St.mk t ((b, .svs (dCs wantE)) :: h)).le ⟨(4, DpL wantE) :: t, h⟩ := by
  refine (St.le_freeze (i := 4) (b := b) (off := 0) (len := 3) (sz := 4) (k := .svs (dCs wantE)) hi (by rw [find_cons, if_pos rfl]) (by exact Nat.le_refl 12) (dpF wantE) (fun j hj => dCs_get wantE hj)).trans ?_
  rw [del_head]
  exact St.le.refl _
theorem awake_c : PCall Tryz.prog 11 [] (SB true) := by
  have e := ex_c
  have un := exE_un
  have mx := exE_mx
  have fo := exE_fo2
  have co := exE_co
  have sm := same_d wantE wantE (by decide) (by decide) wantE_s wantE_s
  rw [decide_eq_true rfl] at sm
  have s2 : ∀ d ∈ [(⟨⟨#[114]⟩, [0], ⟨#[115]⟩, [0]⟩ : Dp), ⟨⟨#[114]⟩, [1], ⟨#[115]⟩, [0]⟩], OkS d := fun d hd => wantE_s d (List.mem_cons_of_mem _ hd)
  have sm2 := same_d [(⟨⟨#[114]⟩, [0], ⟨#[115]⟩, [0]⟩ : Dp), ⟨⟨#[114]⟩, [1], ⟨#[115]⟩, [0]⟩] [(⟨⟨#[114]⟩, [0], ⟨#[115]⟩, [0]⟩ : Dp), ⟨⟨#[114]⟩, [1], ⟨#[115]⟩, [0]⟩] (by decide) (by decide) s2 s2
  rw [decide_eq_true rfl] at sm2
  generalize hT : exT = T at *
  clear hT
  refine Call.enter' (N := 86) (rs := [.tmp 0]) Tryz.func11 rfl rfl rfl (by decide) rfl ?_; simp only [argT]; have hD : (0 : Nat) = 0 := rfl
  repeat' first | ((refine Ab.SW.le (le_i1 3 0 (by rfl)) ?_)) | ((refine Ab.SW.le (le_i1 2 1 (by rfl)) ?_)) | ((refine Ab.SW.le (le_i1 1 0 (by rfl)) ?_)) | ((refine Ab.SW.le (le_w4 (by rfl)) ?_)) | ((with_reducible refine Call.mono (fo _ _) ?_); (intro rr h' hx); (obtain ⟨rfl, rfl⟩ := hx); (try simp only [go_sem, hD])) | (refine SW.seq_k fun K hK => ?_) | ((first | refine SW.region ?_ | refine Call.of_pure (e) ?_ | refine Call.of_pure (un) ?_ | refine Call.of_pure (mx) ?_ | refine Call.of_pure (co) ?_ | refine Call.of_pure (sm) ?_ | (refine allF_i fun b hb => ?_; replace hD := And.intro hb hD; clear hb; try simp only [fresh_cons, fresh_nil, and_true, ne_eq, neF] at hD)); try simp only [go_sem, hD, true_implies]) | (apply hK; clear hK K)
  refine ⟨⟨by decide, by decide⟩, ?_⟩
  have ew : (SV.fl (((wantE.length : Nat) : Int) - 1).toNat 4 fun i => dpF wantE (1 + i)) = DpL [(⟨⟨#[114]⟩, [0], ⟨#[115]⟩, [0]⟩ : Dp), ⟨⟨#[114]⟩, [1], ⟨#[115]⟩, [0]⟩] := by
    have ef : (fun i => dpF wantE (1 + i)) = dpF [(⟨⟨#[114]⟩, [0], ⟨#[115]⟩, [0]⟩ : Dp), ⟨⟨#[114]⟩, [1], ⟨#[115]⟩, [0]⟩] := by
      funext i
      rw [Nat.add_comm]
      rfl
    rw [ef]
    rfl
  rw [ew]
  repeat' first | ((first | refine SW.ret ?_ | refine Call.of_pure (sm2) ?_); try simp only [go_sem, hD, true_implies]) | (apply hK; clear hK K)
  refine ret_pure ?_; simp only [resL_tmp, resL_nil, tupOf, go_sem, hD]
end Go.Proofs.YtpidncgibgiidaaGreat
namespace Go.Ab.A15
open Go Go.Ab Go.Ab.A34 Go.Ab.A01
theorem code_in (c : Int) : inV (codeV c) := by
  unfold codeV inV
  repeat' split
  all_goals (constructor <;> decide)
theorem ofT_okn (d : List Rc) : OkN (ofT d) := fun t ht r hr v hv => by
  obtain ⟨i, _, rfl⟩ := List.mem_map.1 ht
  obtain ⟨k, _, rfl⟩ := List.mem_map.1 hr
  unfold rowS at hv
  obtain ⟨j, _, rfl⟩ := List.mem_map.1 hv
  exact code_in _
structure Sm (db : List Tb) : Prop where
  chk : chkS db = 0
  n3 : db.length ≤ 3
  a3 : ∀ t ∈ db, t.attrs.length ≤ 3
  okn : OkN db
  okdb : OkDb db
theorem sm_dra {d : List Rc} (h : goodD d) : Sm (ofT d) := by
  have Dr := ofT_dra h
  exact ⟨chkS_of Dr.vd (by have := Dr.n3; omega), Dr.n3, Dr.a3, ofT_okn d, dra_okdb Dr⟩
theorem Sm.chkD {db : List Tb} (h : Sm db) : chkD db = 0 := by
  unfold A15.chkD
  rw [if_pos h.chk, if_neg]
  rintro (h1 | h1)
  · have := h.n3; omega
  · obtain ⟨t, ht, h2⟩ := List.any_eq_true.1 h1
    have := h.a3 t ht
    have := of_decide_eq_true h2
    omega
theorem flat_len {α β : Type} (f : α → List β) (B : Nat) : ∀ (l : List α), (∀ x ∈ l, (f x).length ≤ B) → (l.flatMap f).length ≤ l.length * B
  | [], _ => by simp
  | a :: l, h => by
    rw [List.flatMap_cons, List.length_append, List.length_cons, Nat.succ_mul]
    have h1 := h a List.mem_cons_self
    have h2 := flat_len f B l fun x hx => h x (List.mem_cons_of_mem _ hx)
    omega
theorem rg_len (s n : Nat) : (rg s n).length = n - s := by
  unfold rg
  exact List.length_range'
theorem pair_len {db : List Tb} (h : Sm db) {ar i k : Nat} (hi : i < db.length) (hk : k < db.length) : (pairP db ar i k).length ≤ 63 := by
  unfold pairP
  rw [srtD_len, List.length_map]
  exact len_ex (h.a3 _ (getD_mem' t0 hi)) (h.a3 _ (getD_mem' t0 hk)) ar
theorem all_len {db : List Tb} (h : Sm db) (ar : Nat) : (allP db ar 0).length ≤ 567 := by
  have h3 := h.n3
  have h1 : ∀ i, i < db.length → (rowP db ar i 0).length ≤ 189 := fun i hi => by
    have := flat_len (pairP db ar i) 63 (rg 0 db.length) fun k hk => pair_len h hi (mem_rg.1 hk).2
    rw [rg_len] at this
    refine Nat.le_trans this ?_
    omega
  have := flat_len (fun i => rowP db ar i 0) 189 (rg 0 db.length) fun i hi => h1 i (mem_rg.1 hi).2
  rw [rg_len] at this
  refine Nat.le_trans this ?_
  omega
theorem Sm.okF {db : List Tb} (h : Sm db) {ar : Nat} (ha : ar ≤ 6) : OkF db ar := ⟨by have := h.n3; omega, mok_of h.chk h.okn, by have := all_len h ar; omega, ha⟩
open Classical in
theorem all_mem {db : List Tb} (h : Sm db) {ar : Nat} {d : Dp} (hd : d ∈ allP db ar 0) : CanD d ∧ vE db d = 0 ∧ hldB db d = true ∧ d.l.length ≤ ar ∧ d.l.length ≤ 3 ∧ d.l.length = d.r.length := by
  unfold allP rowP at hd
  obtain ⟨i, hi, hd⟩ := List.mem_flatMap.1 hd
  obtain ⟨k, hk, hd⟩ := List.mem_flatMap.1 hd
  have hi := (mem_rg.1 hi).2
  have hk := (mem_rg.1 hk).2
  unfold pairP at hd
  rw [(srtD_perm _).mem_iff, List.mem_map] at hd
  obtain ⟨p, hp, rfl⟩ := hd
  obtain ⟨h1, h2⟩ := (mem_ex (qB_pq _ _ _) (qB_nil _ _ _) ar p).1 hp
  have hl := q_len (qB_pq _ _ _) h1
  have hlr := (qB_pq _ _ _).len h1
  rw [← qR_iff h.chk hi hk] at h1
  unfold qR at h1
  rw [Bool.and_eq_true, decide_eq_true_eq] at h1
  have h5 := h1.2
  unfold hldB at h5
  rw [Bool.and_eq_true, decide_eq_true_eq] at h5
  have := h.a3 _ (getD_mem' t0 hi)
  exact ⟨h1.1, h5.1, h1.2, h2, by show p.1.length ≤ 3; omega, hlr⟩
end Go.Ab.A15
namespace Go.Proofs.YtpidncgibgiidaaGreat
open Go Go.Ab Go.Ab.A34 Go.Ab.A15 Go.Ab.A01
variable [Gl] [Tabs]
theorem hold_sm (db : List Tb) (h : Sm db) (ar : Nat) (ha : ar ≤ 6) (i k : Nat) (hi : i < db.length) (hk : k < db.length) : Ab.Call Tryz.prog 49 [DB db, TB (db.getD i t0), TB (db.getD k t0), I64 ar] [] (fun r h' => Acc 4 r h' [] (pairP db ar i k).length (dCs (pairP db ar i k))) := by
  have f3 := h.a3 _ (getD_mem' t0 hi)
  have t3 := h.a3 _ (getD_mem' t0 hk)
  have eq : qR db (db.getD i t0) (db.getD k t0) = qB (db.getD i t0) (db.getD k t0) (decide ((i : Int) = (k : Int))) := funext fun l => funext fun r => qR_iff h.chk hi hk l r
  have c := holding_r db (db.getD i t0) (db.getD k t0) ar ⟨by have := h.n3; omega, h.okdb, by omega, by omega, ha⟩
  rw [eq] at c
  have c2 := c (lv_ok f3 t3 ar) (lvR_nodup (qB_pq _ _ _) (qB_nil _ _ _) ar).1 (fun d hd => by
    obtain ⟨p, hp, rfl⟩ := List.mem_map.1 hd
    have := q_len (qB_pq _ _ _) (((lvR_mem (qB_pq _ _ _) (qB_nil _ _ _) ar).1 p).1 hp).1
    exact ⟨by show p.1.length ≤ _; omega, by show p.2.length ≤ _; omega⟩)
  rw [(lv_len f3 t3 ar).2] at c2
  exact c2
theorem ref_sm (db : List Tb) (h : Sm db) (ar : Nat) (ha : ar ≤ 6) (h1 : 1 ≤ ar) : PCall Tryz.prog 13 [DB db, I64 ar] (.tup [DpL (allP db ar 0), I64 0]) := by
  have c := all_r db ar (h.okF ha) h.okdb h.chkD h1 (fun i k hi hk => hold_sm db h ar ha i k hi hk)
  unfold AllC at c
  exact pure_acc c
end Go.Proofs.YtpidncgibgiidaaGreat
namespace Go.Proofs.YtpidncgibgiidaaGreat
open Go Go.Ab Go.Ab.A34 Go.Ab.A15 Go.Ab.A01
variable [Gl] [Tabs]
theorem of_rr (l : List Int) (hl : l.length ≤ 1000000) : PCall Tryz.prog 100 [IL l] (ofKR (ofG 0 l)) := by
  obtain ⟨R, hR⟩ : ∃ R, R = ofG 0 l := ⟨_, rfl⟩
  rw [← hR]
  refine Call.enter' (N := 32) (rs := [.tmp 2, .tmp 3]) Tryz.func100 rfl rfl rfl (by decide) rfl ?_; simp only [argT]; have hD : (0 : Nat) = 0 := rfl
  repeat' first | (refine SW.seq_k fun K hK => ?_) | (refine SW.region ?_; try simp only [go_sem, hD, true_implies]) | (apply hK; clear hK K)
  refine SW.block ?_
  obtain ⟨I, hI⟩ : ∃ I : Nat → St → Prop, ∀ k S, I k S ↔ (∃ (i : Nat) (s : Nat), k = l.length - i ∧ i ≤ l.length ∧ s < 65536 ∧ R = ofG s (l.drop i) ∧ S = ⟨[(0, IL l), (4, U32 s), (5, I64 i)], []⟩) := ⟨fun k S => _, fun _ _ => Iff.rfl⟩
  refine SW.loop' I (l.length) ((hI _ _).2 ⟨0, 0, rfl, Nat.zero_le _, (by omega), hR, rfl⟩) (by repeat' (first | exact rfl | exact trivial | constructor)) ?_
  intro k S hIn
  obtain ⟨i, s, rfl, hi, hs, hC, rfl⟩ := (hI _ _).1 hIn
  clear hIn
  have ie : ((i : Nat) : Int).toNat = i := Int.toNat_natCast _
  have i0 : (0 : Int) ≤ ((i : Nat) : Int) := by omega
  clear hR
  by_cases hlt : i < l.length
  · have hli : ((i : Nat) : Int) < (((l.length) : Nat) : Int) := by omega
    have w1 : IntKind.i64.wrap ((i : Int) + 1) = ((i + 1 : Nat) : Int) := by rw [i64_wrap (by omega) (by omega)]; omega
    rw [ofG_step hlt] at hC
    have fi : iF l i = [I64 (l.getD i 0)] := rfl
    generalize l.getD i 0 = v at *
    by_cases c1 : v < 0
    · rw [if_pos (Or.inl c1)] at hC
      subst hC
      repeat' first | (refine SW.seq_k fun K hK => ?_) | ((first | refine SW.region ?_ | refine SW.cond ?_ | refine SW.skip ?_); try simp only [go_sem, hD, hli, ie, i0, w1, fi, c1, true_implies]) | (apply hK; clear hK K)
      refine SW.block ?_
      repeat' first | (refine SW.seq_k fun K hK => ?_) | ((first | refine SW.region ?_ | refine SW.cond ?_ | refine SW.ret ?_); try simp only [go_sem, hD, hli, ie, i0, w1, fi, c1, true_implies]) | (apply hK; clear hK K)
      refine ret_pure ?_; simp only [resL_tmp, resL_nil, tupOf, go_sem, hD]
      try rfl
    · by_cases c2 : 16 ≤ v
      · rw [if_pos (Or.inr c2)] at hC
        subst hC
        repeat' first | (refine SW.seq_k fun K hK => ?_) | ((first | refine SW.region ?_ | refine SW.cond ?_ | refine SW.skip ?_); try simp only [go_sem, hD, hli, ie, i0, w1, fi, c1, c2, true_implies]) | (apply hK; clear hK K)
        refine SW.block ?_
        repeat' first | (refine SW.seq_k fun K hK => ?_) | ((first | refine SW.region ?_ | refine SW.cond ?_ | refine SW.ret ?_); try simp only [go_sem, hD, hli, ie, i0, w1, fi, c1, c2, true_implies]) | (apply hK; clear hK K)
        refine ret_pure ?_; simp only [resL_tmp, resL_nil, tupOf, go_sem, hD]
        try rfl
      · rw [if_neg (by rintro (h | h) <;> omega)] at hC
        obtain ⟨n, rfl⟩ : ∃ n : Nat, v = ((n : Nat) : Int) := ⟨v.toNat, by omega⟩
        rw [Int.toNat_natCast] at hC
        have hlt2 := or_lt16 (i := n) hs (by omega)
        have sh := shl32 n (by omega)
        have hp : (2 : Nat) ^ n < 65536 := by
          show (2 : Nat) ^ n < 2 ^ 16
          exact Nat.pow_lt_pow_right (by omega) (by omega)
        have e := or32 s (2 ^ n) (by omega) (by omega)
        have k5 : ((n : Nat) : Int).toNat = n := Int.toNat_natCast _
        repeat' first | (refine SW.seq_k fun K hK => ?_) | ((first | refine SW.region ?_ | refine SW.cond ?_ | refine SW.skip ?_); try simp only [go_sem, hD, hli, ie, i0, w1, fi, c1, c2, sh, e, k5, true_implies]) | (apply hK; clear hK K)
        refine SW.block ?_
        repeat' first | (refine SW.seq_k fun K hK => ?_) | ((first | refine SW.region ?_ | refine SW.cond ?_ | refine SW.skip ?_); try simp only [go_sem, hD, hli, ie, i0, w1, fi, c1, c2, sh, e, k5, true_implies]) | (apply hK; clear hK K)
        refine Rnd.sub (l.length - (i + 1)) (by omega) ((hI _ _).2 ⟨i + 1, (s ||| 2 ^ n), rfl, by omega, hlt2, hC, rfl⟩) (by repeat' (first | exact rfl | exact trivial | constructor))
  · have hli : ¬ ((i : Nat) : Int) < (((l.length) : Nat) : Int) := by omega
    rw [ofG_end (by omega)] at hC
    subst hC
    repeat' first | (refine SW.seq_k fun K hK => ?_) | ((first | refine SW.region ?_ | refine SW.cond ?_ | refine SW.exit ?_ | refine SW.ret ?_); try simp only [go_sem, hD, hli, true_implies]) | (apply hK; clear hK K) | (clear hK K; apply hK; clear hK K)
    refine ret_pure ?_; simp only [resL_tmp, resL_nil, tupOf, go_sem, hD]
    try rfl
theorem set_r (l : List Int) (hl : l.length ≤ 1000000) : PCall Tryz.prog 62 [IL l] (U32 ((ofG 0 l).getD 0 : Nat)) := by
  have c := of_rr l hl
  cases h : ofG 0 l with
  | none =>
    rw [h] at c
    simp only [ofKR] at c
    simp only [Option.getD_none]
    refine Call.enter' (N := 11) (rs := [.tmp 2]) Tryz.func62 rfl rfl rfl (by decide) rfl ?_; simp only [argT]; have hD : (0 : Nat) = 0 := rfl
    repeat' first | (refine SW.seq_k fun K hK => ?_) | ((first | refine SW.region ?_ | refine SW.ret ?_ | refine Call.of_pure (c) ?_); try simp only [go_sem, hD, true_implies]) | (apply hK; clear hK K)
    refine ret_pure ?_; simp only [resL_tmp, resL_nil, tupOf, go_sem, hD]
    try rfl
  | some s =>
    rw [h] at c
    simp only [ofKR] at c
    simp only [Option.getD_some]
    refine Call.enter' (N := 11) (rs := [.tmp 2]) Tryz.func62 rfl rfl rfl (by decide) rfl ?_; simp only [argT]; have hD : (0 : Nat) = 0 := rfl
    repeat' first | (refine SW.seq_k fun K hK => ?_) | ((first | refine SW.region ?_ | refine SW.ret ?_ | refine Call.of_pure (c) ?_); try simp only [go_sem, hD, true_implies]) | (apply hK; clear hK K)
    refine ret_pure ?_; simp only [resL_tmp, resL_nil, tupOf, go_sem, hD]
    try rfl
end Go.Proofs.YtpidncgibgiidaaGreat
namespace Go.Proofs.YtpidncgibgiidaaGreat
open Go Go.Ab Go.Ab.A34 Go.Ab.A15 Go.Ab.A01
variable [Gl] [Tabs]
theorem sub_rr (a b : Nat) (ha : a < 4294967296) (hb : b < 4294967296) : PCall Tryz.prog 60 [U32 a, U32 b] (SB (decide (a &&& b = a))) := by
  have e := and32 a b ha hb
  have e2 : decide (a &&& b = a) = decide (((a &&& b : Nat) : Int) = ((a : Nat) : Int)) := by rw [decide_eq_decide]; omega
  rw [e2]
  refine Call.enter' (N := 10) (rs := [.tmp 4]) Tryz.func60 rfl rfl rfl (by decide) rfl ?_; simp only [argT]; have hD : (0 : Nat) = 0 := rfl
  repeat' first | (refine SW.seq_k fun K hK => ?_) | ((first | refine SW.region ?_ | refine SW.ret ?_); try simp only [go_sem, hD, e, true_implies]) | (apply hK; clear hK K)
  refine ret_pure ?_; simp only [resL_tmp, resL_nil, tupOf, go_sem, hD]
  try rfl
theorem full_rr (n : Nat) (hn : n ≤ 16) : PCall Tryz.prog 61 [I64 n] (U32 (2 ^ n - 1 : Nat)) := by
  refine Call.enter' (N := 19) (rs := [.tmp 2]) Tryz.func61 rfl rfl rfl (by decide) rfl ?_; simp only [argT]; have hD : (0 : Nat) = 0 := rfl
  repeat' first | (refine SW.seq_k fun K hK => ?_) | (refine SW.region ?_; try simp only [go_sem, hD, true_implies]) | (apply hK; clear hK K)
  refine SW.block ?_
  obtain ⟨I, hI⟩ : ∃ I : Nat → St → Prop, ∀ k S, I k S ↔ (∃ (i : Nat) , k = n - i ∧ i ≤ n ∧ 0 = 0 ∧ S = ⟨[(0, I64 n), (3, U32 (2 ^ i - 1 : Nat)), (4, I64 i)], []⟩) := ⟨fun k S => _, fun _ _ => Iff.rfl⟩
  refine SW.loop' I (n) ((hI _ _).2 ⟨0, rfl, Nat.zero_le _, rfl, rfl⟩) (by repeat' (first | exact rfl | exact trivial | constructor)) ?_
  intro k S hIn
  obtain ⟨i, rfl, hi, hC, rfl⟩ := (hI _ _).1 hIn
  clear hIn
  have ie : ((i : Nat) : Int).toNat = i := Int.toNat_natCast _
  have i0 : (0 : Int) ≤ ((i : Nat) : Int) := by omega
  by_cases hlt : i < n
  · have hli : ((i : Nat) : Int) < (((n) : Nat) : Int) := by omega
    have w1 : IntKind.i64.wrap ((i : Int) + 1) = ((i + 1 : Nat) : Int) := by rw [i64_wrap (by omega) (by omega)]; omega
    have sh := shl32 i (by omega)
    have hp : (2 : Nat) ^ i < 65536 := by
      show (2 : Nat) ^ i < 2 ^ 16
      exact Nat.pow_lt_pow_right (by omega) (by omega)
    have e := or32 (2 ^ i - 1) (2 ^ i) (by omega) (by omega)
    rw [full_step i] at e
    have h32 : ((i : Nat) : Int) < 32 := by omega
    repeat' first | (refine SW.seq_k fun K hK => ?_) | (refine SW.block ?_) | ((first | refine SW.region ?_ | refine SW.cond ?_ | refine SW.skip ?_); try simp only [go_sem, hD, hli, ie, i0, w1, sh, e, h32, true_implies]) | (apply hK; clear hK K)
    refine Rnd.sub (n - (i + 1)) (by omega) ((hI _ _).2 ⟨i + 1, rfl, by omega, rfl, rfl⟩) (by repeat' (first | exact rfl | exact trivial | constructor))
  · have hli : ¬ ((i : Nat) : Int) < (((n) : Nat) : Int) := by omega
    obtain rfl : i = n := by omega
    repeat' first | (refine SW.seq_k fun K hK => ?_) | ((first | refine SW.region ?_ | refine SW.cond ?_ | refine SW.exit ?_ | refine SW.ret ?_); try simp only [go_sem, hD, hli, true_implies]) | (apply hK; clear hK K) | (clear hK K; apply hK; clear hK K)
    refine ret_pure ?_; simp only [resL_tmp, resL_nil, tupOf, go_sem, hD]
    try rfl
end Go.Proofs.YtpidncgibgiidaaGreat
namespace Go.Ab.A15
open Go Go.Ab Go.Ab.A34 Go.Ab.A01 Go.Proofs.YtpidncgibgiidaaGreat
theorem anyK_succ {l : List Ky} {p : Ky → Bool} {k : Nat} (h : k < l.length) : (l.take (k + 1)).any p = ((l.take k).any p || p (l.getD k kd0)) := by
  have g : l.getD k kd0 = l[k] := by simp [List.getD_eq_getElem?_getD, h]
  rw [List.take_succ_eq_append_getElem h, List.any_append, g]
  simp
def setR (d : Dp) : Nat := (ofG 0 d.r).getD 0
theorem eqK_r (d : Dp) (x : Ky) : eqK (d.t, setR d) x = ((x.1.toList == d.t.toList) && decide (((x.2 : Nat) : Int) = ((setR d : Nat) : Int))) := by
  rw [Bool.eq_iff_iff]
  unfold eqK
  simp only [Bool.and_eq_true, beq_iff_eq, decide_eq_true_eq]
  exact ⟨fun h => ⟨h.1.symm, h.2.symm⟩, fun h => ⟨h.1.symm, h.2.symm⟩⟩
def isF (keys : List Ky) (d : Dp) : Bool := keys.any (eqK (d.t, setR d)) && !(d.f.toList == d.t.toList)
theorem isF_eq (keys : List Ky) (d : Dp) : (!(notF keys d)) = isF keys d := by
  show (!((d.f.toList == d.t.toList) || !(keys.any (eqK (d.t, setR d))))) = isF keys d
  unfold isF
  rw [Bool.not_or, Bool.not_not, Bool.and_comm]
def fkI (keys : List Ky) (L : List Dp) (i : Nat) : List Dp := (L.take i).filter (isF keys)
theorem fkI_step {keys : List Ky} {L : List Dp} {i : Nat} (h : i < L.length) : fkI keys L (i + 1) = fkI keys L i ++ if isF keys (L.getD i d0) = true then [L.getD i d0] else [] := by
  have g : L.getD i d0 = L[i] := by simp [List.getD_eq_getElem?_getD, h]
  unfold fkI
  rw [List.take_succ_eq_append_getElem h, List.filter_append, g]
  congr 1
  cases hb : isF keys L[i] <;> simp [hb]
theorem fkI_len (keys : List Ky) (L : List Dp) (i : Nat) : (fkI keys L i).length ≤ i := by
  unfold fkI
  refine Nat.le_trans (List.length_filter_le _ _) ?_
  rw [List.length_take]
  omega
theorem posN_tab (db : List Tb) (x : ByteArray) : posN db x = tabI x 0 db := by
  unfold posN
  rw [← posF_tab]
  congr 1
  funext t
  rw [Bool.eq_iff_iff, decide_eq_true_eq]
  exact barr_eq
theorem sub_div {a n : Nat} : a &&& (2 ^ n - 1) = a ↔ a / 2 ^ n = 0 := by
  rw [Nat.and_two_pow_sub_one_eq_mod, Nat.div_eq_zero_iff]
  have hp := Nat.two_pow_pos n
  constructor
  · intro h
    have := Nat.mod_lt a hp
    exact .inr (by omega)
  · rintro (h | h)
    · omega
    · exact Nat.mod_eq_of_lt h
end Go.Ab.A15
def Go.Ab.zPK_1 : Go.Ab.OW := (.fre 0 [0, 1, 2, 3, 4, 5, 6, 7, 8, 9, 10, 11, 12, 13, 14, 15, 16, 17, 18, 19, 20, 21, 22, 23, 24, 25, 26, 27, 28] (.fre 1 [1, 2, 3, 4, 5, 6, 7, 8, 9, 10, 11, 12, 13, 14, 15, 16, 17, 18, 19, 20, 21, 22, 23, 24, 25, 26, 27, 28] (.fre 2 [2, 4, 5, 6, 12, 13, 14, 15, 16, 17, 18, 19, 20, 21, 22, 23, 24, 25, 26, 27, 28] (.fre 3 [3, 4, 5, 6, 12, 13, 14, 15, 16, 17, 18, 19, 20, 21, 22, 23, 24, 25, 26, 27, 28] (.fre 4 [4, 5, 6, 12, 13, 14, 15, 16, 17, 18, 19, 20, 21, 22, 23, 24, 25, 26, 27, 28] (.fre 5 [5, 6, 12, 13, 14, 15, 16, 17, 18, 19, 20, 21, 22, 23, 24, 25, 26, 27, 28] (.fre 6 [6, 12, 13, 14, 15, 16, 17, 18, 19, 20, 21, 22, 23, 24, 25, 26, 27, 28] (.fre 7 [7, 9, 10, 11, 12, 13, 14, 15, 16, 17, 18, 19, 20, 21, 22, 23, 24, 25, 26, 27, 28] (.fre 8 [8, 9, 10, 11, 12, 13, 14, 15, 16, 17, 18, 19, 20, 21, 22, 23, 24, 25, 26, 27, 28] (.fre 9 [9, 10, 11, 12, 13, 14, 15, 16, 17, 18, 19, 20, 21, 22, 23, 24, 25, 26, 27, 28] (.fre 10 [10, 11, 12, 13, 14, 15, 16, 17, 18, 19, 20, 21, 22, 23, 24, 25, 26, 27, 28] (.fre 11 [11, 12, 13, 14, 15, 16, 17, 18, 19, 20, 21, 22, 23, 24, 25, 26, 27, 28] (.fre 12 [12, 13, 14, 15, 16, 17, 18, 19, 20, 21, 22, 23, 24, 25, 26, 27, 28] (.fre 13 [13, 14, 15, 16, 17, 18, 19, 20, 21, 22, 23, 24, 25, 26, 27, 28] (.fre 14 [14, 16, 17, 18, 25, 26, 27, 28] (.fre 15 [15, 16, 17, 18, 25, 26, 27, 28] (.fre 16 [16, 17, 18, 25, 26, 27, 28] (.fre 17 [17, 18, 25, 26, 27, 28] (.fre 18 [18, 25, 26, 27, 28] (.fre 19 [19, 21, 22, 23, 24, 25, 26, 27, 28] (.fre 20 [20, 21, 22, 23, 24, 25, 26, 27, 28] (.fre 21 [21, 22, 23, 24, 25, 26, 27, 28] (.fre 22 [22, 23, 24, 25, 26, 27, 28] (.fre 23 [23, 24, 25, 26, 27, 28] (.alt 24 true (.fre 25 [25, 26, 27, 28] (.fre 26 [26, 27, 28] (.fre 27 [27, 28] (.fre 28 [28] .done)))) .nil)))))))))))))))))))))))))
def Go.Ab.zPK_2 : Go.Ab.OZ := (.one 0 [0, 1, 7, 8] (.one 1 [1, 7, 8] (.one 2 [2, 4, 5, 6, 7, 8] (.one 3 [3, 4, 5, 6, 7, 8] (.one 4 [4, 5, 6, 7, 8] (.one 5 [5, 6, 7, 8] (.one 6 [6, 7, 8] (.one 7 [7, 8] (.one 8 [8] .done)))))))))
def Go.Ab.zPK_3 : Go.Ab.OZ := (.one 0 [0, 2, 3, 4, 13, 14] (.one 1 [1, 2, 3, 4, 13, 14] (.one 2 [2, 3, 4, 13, 14] (.one 3 [3, 4, 13, 14] (.one 4 [4, 13, 14] (.one 5 [5, 6, 8, 9, 10, 11, 12, 13, 14] (.one 6 [6, 8, 9, 10, 11, 12, 13, 14] (.one 7 [7, 8, 9, 10, 11, 12, 13, 14] (.one 8 [8, 9, 10, 11, 12, 13, 14] (.one 9 [9, 10, 11, 12, 13, 14] (.one 10 [10, 11, 12, 13, 14] (.one 11 [11, 12, 13, 14] (.one 12 [12, 13, 14] (.one 13 [13, 14] (.one 14 [14] .done)))))))))))))))
def Go.Ab.zPK_4 : Go.Ab.OZ := (.one 0 [0, 1, 2, 3, 4, 5, 6, 7, 8, 9, 10, 11, 12, 13] (.one 1 [1, 2, 3, 4, 5, 6, 7, 8, 9, 10, 11, 12, 13] (.one 2 [2, 4, 5, 6, 12, 13] (.one 3 [3, 4, 5, 6, 12, 13] (.one 4 [4, 5, 6, 12, 13] (.one 5 [5, 6, 12, 13] (.one 6 [6, 12, 13] (.one 7 [7, 9, 10, 11, 12, 13] (.one 8 [8, 9, 10, 11, 12, 13] (.one 9 [9, 10, 11, 12, 13] (.one 10 [10, 11, 12, 13] (.one 11 [11, 12, 13] (.one 12 [12, 13] (.one 13 [13] .done))))))))))))))
namespace Go.Proofs.YtpidncgibgiidaaGreat
open Go Go.Ab Go.Ab.A34 Go.Ab.A15 Go.Ab.A01
variable [Gl] [Tabs]
theorem fk_k (keys : List Ky) (hk : keys.length ≤ 1000000) (L : List Dp) (ia : Nat) (hia : ia < L.length) (hr : (L.getD ia d0).r.length ≤ 1000000) (x : SV) (hh : Heap) :
    Ab.SW Tryz.prog 121 (blk 4 Tryz.f26) (nrm fun S => S.le ⟨[(1, KyL keys), (9, DpL L), (11, x), (12, I64 ia), (13, SB (keys.any (eqK ((L.getD ia d0).t, setR (L.getD ia d0)))))], hh⟩)
      ⟨[(1, KyL keys), (9, DpL L), (11, x), (12, I64 ia), (13, SB false), (14, I64 (0 : Nat))], hh⟩ := by
  have cs := set_r _ hr
  change PCall Tryz.prog 62 [IL (L.getD ia d0).r] (U32 (setR (L.getD ia d0) : Nat)) at cs
  have hek := eqK_r (L.getD ia d0)
  have fi : dpF L ia = dC (L.getD ia d0) := rfl
  generalize setR (L.getD ia d0) = s at *
  generalize L.getD ia d0 = d at *
  obtain ⟨df, dl, dt, dr⟩ := d
  simp only at cs hek
  have hii : ((ia : Nat) : Int) < ((L.length : Nat) : Int) := by omega
  have hi0 : (0 : Int) ≤ ((ia : Nat) : Int) := by omega
  have hie : ((ia : Nat) : Int).toNat = ia := Int.toNat_natCast _
  obtain ⟨p, hp⟩ : ∃ p, p = eqK (dt, s) := ⟨_, rfl⟩
  rw [← hp] at hek
  simp only [← hp]
  clear hp
  conv => arg 3; whnf
  refine SW.block ?_
  obtain ⟨I, hI⟩ : ∃ I : Nat → St → Prop, ∀ k S, I k S ↔ (∃ (j : Nat) , k = keys.length - j ∧ j ≤ keys.length ∧ S = ⟨[(1, KyL keys), (9, DpL L), (11, x), (12, I64 ia), (13, SB ((keys.take j).any p)), (14, I64 j)], hh⟩) := ⟨fun k S => _, fun _ _ => Iff.rfl⟩
  refine SW.loop' I (keys.length) ((hI _ _).2 ⟨0, rfl, Nat.zero_le _, rfl⟩) (by repeat' (first | exact rfl | exact trivial | constructor)) ?_
  intro k S hIn
  obtain ⟨j, rfl, hi, rfl⟩ := (hI _ _).1 hIn
  clear hIn
  have ie : ((j : Nat) : Int).toNat = j := Int.toNat_natCast _
  have i0 : (0 : Int) ≤ ((j : Nat) : Int) := by omega
  by_cases hlt : j < keys.length
  · have hli : ((j : Nat) : Int) < (((keys.length) : Nat) : Int) := by omega
    have w1 : IntKind.i64.wrap ((j : Int) + 1) = ((j + 1 : Nat) : Int) := by rw [i64_wrap (by omega) (by omega)]; omega
    have fj : kyF keys j = [Str (keys.getD j kd0).1, U32 (keys.getD j kd0).2] := rfl
    have has := anyK_succ (p := p) hlt
    have hv := hek (keys.getD j kd0)
    generalize keys.getD j kd0 = v at *
    obtain ⟨v1, v2⟩ := v
    simp only at hv fj
    generalize p (v1, v2) = av at *
    generalize hfo : (keys.take j).any p = fo at *
    generalize hfo2 : (keys.take (j + 1)).any p = fo2 at *
    have hD : (0 : Nat) = 0 := rfl
    cases fo with
    | true =>
      obtain rfl : fo2 = true := by rw [has]; rfl
      repeat' first | (refine SW.seq_k fun K hK => ?_) | (refine SW.block ?_) | ((first | refine SW.region ?_ | refine SW.regionW [24] (id := 23) (Checked.mixed Tryz.checked) Go.Ab.zPK_1 (by kernel_rfl) ?_ | refine SW.cond ?_ | refine SW.skip ?_); try simp only [Go.Ab.zPK_1, go_sem, hD, hli, ie, i0, w1, fi, fj, hii, hi0, hie, true_implies]) | (apply hK; clear hK K)
      all_goals
        refine Rnd.sub (keys.length - (j + 1)) (by omega) ((hI _ _).2 ⟨j + 1, rfl, by omega, by rw [hfo2]⟩) (by repeat' (first | exact rfl | exact trivial | constructor))
    | false =>
      obtain rfl : fo2 = av := by rw [has]; rfl
      subst hv
      cases hn : (v1.toList == dt.toList) with
      | true =>
        rw [hn, Bool.true_and] at hfo2
        repeat' first | (refine SW.seq_k fun K hK => ?_) | (refine SW.block ?_) | ((first | refine SW.region ?_ | refine SW.regionW [24] (id := 23) (Checked.mixed Tryz.checked) Go.Ab.zPK_1 (by kernel_rfl) ?_ | refine SW.cond ?_ | refine SW.skip ?_ | refine Call.of_pure (cs) ?_); try simp only [Go.Ab.zPK_1, go_sem, hD, hli, ie, i0, w1, fi, fj, hii, hi0, hie, hn, true_implies]) | (apply hK; clear hK K)
        all_goals
          refine Rnd.sub (keys.length - (j + 1)) (by omega) ((hI _ _).2 ⟨j + 1, rfl, by omega, by rw [hfo2]⟩) (by repeat' (first | exact rfl | exact trivial | constructor))
      | false =>
        rw [hn, Bool.false_and] at hfo2
        repeat' first | (refine SW.seq_k fun K hK => ?_) | (refine SW.block ?_) | ((first | refine SW.region ?_ | refine SW.regionW [24] (id := 23) (Checked.mixed Tryz.checked) Go.Ab.zPK_1 (by kernel_rfl) ?_ | refine SW.cond ?_ | refine SW.skip ?_); try simp only [Go.Ab.zPK_1, go_sem, hD, hli, ie, i0, w1, fi, fj, hii, hi0, hie, hn, true_implies]) | (apply hK; clear hK K)
        all_goals
          refine Rnd.sub (keys.length - (j + 1)) (by omega) ((hI _ _).2 ⟨j + 1, rfl, by omega, by rw [hfo2]⟩) (by repeat' (first | exact rfl | exact trivial | constructor))
  · have hli : ¬ ((j : Nat) : Int) < (((keys.length) : Nat) : Int) := by omega
    obtain rfl : j = keys.length := by omega
    rw [List.take_length]
    have hD : (0 : Nat) = 0 := rfl
    repeat' first | (refine SW.seq_k fun K hK => ?_) | ((first | refine SW.region ?_ | refine SW.cond ?_ | refine SW.exit ?_); try simp only [go_sem, hD, hli, true_implies]) | (apply hK; clear hK K)
    exact St.le_sub (by repeat' (first | exact rfl | exact trivial | constructor))
theorem foreign_r (db : List Tb) (keys : List Ky) (S : Sm db) (hk : keys.length ≤ 1000000) (hu : ∀ k ∈ keys, k.2 < 4294967296) : Ab.Call Tryz.prog 26 [DB db, KyL keys] [] (ForQ db keys (keyE db keys)) := by
  have hdb := S.n3
  have h0 := S.chkD
  have ce := error_r db (by omega) S.okdb
  rw [h0] at ce
  have rn := ref_sm db S 6 (by omega) (by omega)
  have hl := all_len S 6
  have ht3 := S.a3
  have hrl : ∀ d ∈ allP db 6 0, d.r.length ≤ 1000000 := fun d hd => by
    obtain ⟨_, _, _, _, a5, a6⟩ := all_mem S hd
    omega
  have ct := fun (x : ByteArray) => table_r x db db.length (by omega) rfl (tF db) (fun i hi => rfl)
  obtain ⟨R, hR⟩ : ∃ R, R = keyE db keys := ⟨_, rfl⟩
  rw [← hR]
  have hf : (fun d => !(notF keys d)) = isF keys := funext (isF_eq keys)
  have hQ : ForQ db keys R = fun r h' => if R = 0 then ∃ x, r = .tup [x, I64 0] ∧ Acc 4 x h' [] ((allP db 6 0).filter (isF keys)).length (dCs ((allP db 6 0).filter (isF keys))) else r = .tup [SN, I64 R] := by
    funext r h'
    unfold ForQ
    rw [hf]
  rw [hQ]
  clear hQ hf S
  generalize allP db 6 0 = L at *
  refine Call.enter' (N := 121) (rs := [.tmp 4, .tmp 5]) Tryz.func26 rfl rfl rfl (by decide) rfl ?_; simp only [argT]; have hD : (0 : Nat) = 0 := rfl
  repeat' first | (refine SW.seq_k fun K hK => ?_) | ((first | refine SW.region ?_ | refine SW.cond ?_ | refine SW.skip ?_ | refine Call.of_pure (ce) ?_ | (refine allF_i fun b hb => ?_; replace hD := And.intro hb hD; clear hb; try simp only [fresh_cons, fresh_nil, and_true, ne_eq, neF] at hD)); try simp only [go_sem, hD, true_implies]) | (apply hK; clear hK K)
  obtain ⟨xb, rfl⟩ : ∃ x, x = b := ⟨_, rfl⟩
  refine Ab.SW.le (S' := ⟨[(1, KyL keys), (2, .fp [TL db]), (7, I64 (0 : Nat))], []⟩) ?_ ?_
  · refine St.le.trans (St.le_freezeP (i := 2) (b := xb) (off := 0) (n := 1) (k := .svs [TL db]) rfl (by rw [find_cons, if_pos rfl]) (by exact Nat.le_refl 1)) ?_
    rw [del_head]
    simp only [getN, Blk.get, go_sem, hD]
    exact St.le_sub (by repeat' (first | exact rfl | exact trivial | constructor))
  clear hD
  have hD : (0 : Nat) = 0 := rfl
  refine SW.block ?_
  obtain ⟨I, hI⟩ : ∃ I : Nat → St → Prop, ∀ k S, I k S ↔ (∃ (i : Nat) , k = keys.length - i ∧ i ≤ keys.length ∧ R = keyE db (keys.drop i) ∧ S = ⟨[(1, KyL keys), (2, .fp [TL db]), (7, I64 i)], []⟩) := ⟨fun k S => _, fun _ _ => Iff.rfl⟩
  refine SW.loop' I (keys.length) ((hI _ _).2 ⟨0, rfl, Nat.zero_le _, hR, rfl⟩) (by repeat' (first | exact rfl | exact trivial | constructor)) ?_
  intro k S hIn
  obtain ⟨i, rfl, hi, hC, rfl⟩ := (hI _ _).1 hIn
  clear hIn
  have ie : ((i : Nat) : Int).toNat = i := Int.toNat_natCast _
  have i0 : (0 : Int) ≤ ((i : Nat) : Int) := by omega
  clear hR
  by_cases hlt : i < keys.length
  · have hli : ((i : Nat) : Int) < (((keys.length) : Nat) : Int) := by omega
    have w1 : IntKind.i64.wrap ((i : Int) + 1) = ((i + 1 : Nat) : Int) := by rw [i64_wrap (by omega) (by omega)]; omega
    rw [keyE_step hlt, posN_tab] at hC
    have fi : kyF keys i = [Str (keys.getD i kd0).1, U32 (keys.getD i kd0).2] := rfl
    have ci := ct (keys.getD i kd0).1
    have hvu := hu _ (getD_mem' kd0 hlt)
    generalize keys.getD i kd0 = v at *
    obtain ⟨v1, v2⟩ := v
    simp only at fi ci hC hvu
    clear ct rn
    have hpl : posN db v1 < ((0 + db.length : Nat) : Int) ∧ (posN db v1 < 0 ∨ 0 ≤ posN db v1) := posF_lt (fun t : Tb => t.name.toList == v1.toList) db 0
    rw [posN_tab] at hpl
    generalize tabI v1 0 db = z at *
    by_cases hz : z < 0
    · rw [if_pos hz] at hC
      subst hC
      repeat' first | (refine SW.seq_k fun K hK => ?_) | (refine SW.block ?_) | ((first | refine SW.region ?_ | refine SW.regionZ (id := 7) (Checked.mixed Tryz.checked) Go.Ab.zPK_2 (by kernel_rfl) ?_ | refine SW.cond ?_ | refine SW.skip ?_ | refine SW.ret ?_ | refine ⟨_, ci, ?_⟩); try simp only [Go.Ab.zPK_2, go_sem, hD, hli, ie, i0, w1, fi, hz, true_implies]) | (apply hK; clear hK K)
      all_goals
        refine retQ_le (fun M w0 D N a w r => r) ?_
        simp only [resL_tmp, resL_nil, tupOf, go_sem, hD]
        try rw [if_neg (by decide)]
    · rw [if_neg hz] at hC
      obtain ⟨n, rfl⟩ : ∃ n : Nat, z = ((n : Nat) : Int) := ⟨z.toNat, by omega⟩
      have z0 : (0 : Int) ≤ ((n : Nat) : Int) := by omega
      have z1 : ((n : Nat) : Int) < ((db.length : Nat) : Int) := by omega
      have z2 : ((n : Nat) : Int).toNat = n := Int.toNat_natCast _
      rw [z2] at hC
      have ft : tF db n = tC (db.getD n t0) := rfl
      have ht6 := ht3 _ (getD_mem' t0 (show n < db.length by omega))
      generalize db.getD n t0 = t at *
      obtain ⟨tn, ta, trs⟩ := t
      simp only at hC ht6
      have ft2 : tC ⟨tn, ta, trs⟩ = [Str tn, SL ta, RL trs] := rfl
      have cf := full_rr ta.length (by omega)
      have hp8 : 2 ^ ta.length - 1 < 4294967296 := by
        have : (2 : Nat) ^ ta.length ≤ 2 ^ 3 := Nat.pow_le_pow_right (by omega) ht6
        omega
      have cs := sub_rr v2 (2 ^ ta.length - 1) hvu hp8
      by_cases hq : v2 / 2 ^ ta.length = 0
      · rw [if_pos hq] at hC
        rw [decide_eq_true (sub_div.2 hq)] at cs
        repeat' first | (refine SW.seq_k fun K hK => ?_) | (refine SW.block ?_) | ((first | refine SW.region ?_ | refine SW.regionZ (id := 7) (Checked.mixed Tryz.checked) Go.Ab.zPK_2 (by kernel_rfl) ?_ | refine SW.regionZ (id := 10) (Checked.mixed Tryz.checked) Go.Ab.zPK_3 (by kernel_rfl) ?_ | refine SW.cond ?_ | refine SW.skip ?_ | refine ⟨_, ci, ?_⟩ | refine ⟨_, cf, ?_⟩ | refine ⟨_, cs, ?_⟩); try simp only [Go.Ab.zPK_2, Go.Ab.zPK_3, go_sem, hD, hli, ie, i0, w1, fi, hz, z0, z1, z2, ft, ft2, true_implies]) | (apply hK; clear hK K)
        all_goals
          refine Rnd.sub (keys.length - (i + 1)) (by omega) ((hI _ _).2 ⟨i + 1, rfl, by omega, hC, rfl⟩) (by repeat' (first | exact rfl | exact trivial | constructor))
      · rw [if_neg hq] at hC
        rw [decide_eq_false (fun h => hq (sub_div.1 h))] at cs
        subst hC
        repeat' first | (refine SW.seq_k fun K hK => ?_) | (refine SW.block ?_) | ((first | refine SW.region ?_ | refine SW.regionZ (id := 7) (Checked.mixed Tryz.checked) Go.Ab.zPK_2 (by kernel_rfl) ?_ | refine SW.regionZ (id := 10) (Checked.mixed Tryz.checked) Go.Ab.zPK_3 (by kernel_rfl) ?_ | refine SW.cond ?_ | refine SW.skip ?_ | refine SW.ret ?_ | refine ⟨_, ci, ?_⟩ | refine ⟨_, cf, ?_⟩ | refine ⟨_, cs, ?_⟩); try simp only [Go.Ab.zPK_2, Go.Ab.zPK_3, go_sem, hD, hli, ie, i0, w1, fi, hz, z0, z1, z2, ft, ft2, true_implies]) | (apply hK; clear hK K)
        all_goals
          refine retQ_le (fun M w0 D N a w r => r) ?_
          simp only [resL_tmp, resL_nil, tupOf, go_sem, hD]
          try rw [if_neg (by decide)]
  · have hli : ¬ ((i : Nat) : Int) < (((keys.length) : Nat) : Int) := by omega
    rw [keyE_end (by omega)] at hC
    subst hC
    clear hI ct ce
    repeat' first | (refine SW.seq_k fun K hK => ?_) | ((first | refine SW.region ?_ | refine SW.cond ?_ | refine SW.skip ?_ | refine SW.exit ?_ | refine Call.of_pure (rn) ?_ | simp only [appK, appOsK]); try simp only [go_sem, hD, hli, true_implies]) | (apply hK; clear hK K) | (clear hK K; apply hK; clear hK K)
    refine Ab.SW.le (St.le_sub (l := [(1, KyL keys), (9, DpL L), (11, SN), (12, I64 (0 : Nat))]) (by repeat' (first | exact rfl | exact trivial | constructor))) ?_
    refine SW.block ?_
    obtain ⟨I, hI⟩ : ∃ I : Nat → St → Prop, ∀ k S, I k S ↔ (∃ (j : Nat) (y : SV) (hh : Heap), k = L.length - j ∧ j ≤ L.length ∧ Acc 4 y hh [] (fkI keys L j).length (dCs (fkI keys L j)) ∧ S = ⟨[(1, KyL keys), (9, DpL L), (11, y), (12, I64 j)], hh⟩) := ⟨fun k S => _, fun _ _ => Iff.rfl⟩
    refine SW.loop' I (L.length) ((hI _ _).2 ⟨0, SN, [], rfl, Nat.zero_le _, .nil 4 [], rfl⟩) (by repeat' (first | exact rfl | exact trivial | constructor)) ?_
    intro k S hIn
    obtain ⟨j, y, hh, rfl, hi, hA2, rfl⟩ := (hI _ _).1 hIn
    clear hIn
    have ie : ((j : Nat) : Int).toNat = j := Int.toNat_natCast _
    have i0 : (0 : Int) ≤ ((j : Nat) : Int) := by omega
    by_cases hlt : j < L.length
    · have hli : ((j : Nat) : Int) < (((L.length) : Nat) : Int) := by omega
      have w1 : IntKind.i64.wrap ((j : Int) + 1) = ((j + 1 : Nat) : Int) := by rw [i64_wrap (by omega) (by omega)]; omega
      have fi : dpF L j = dC (L.getD j d0) := rfl
      have hst := fkI_step (keys := keys) hlt
      have hml := fkI_len keys L j
      have hin := fk_k keys hk L j hlt (hrl _ (getD_mem' d0 hlt)) y hh
      have hsn := dCs_snoc (fkI keys L j) (L.getD j d0)
      have hisf : isF keys (L.getD j d0) = (keys.any (eqK ((L.getD j d0).t, setR (L.getD j d0))) && !((L.getD j d0).f.toList == (L.getD j d0).t.toList)) := rfl
      generalize (keys.any (eqK ((L.getD j d0).t, setR (L.getD j d0)))) = z at *
      generalize isF keys (L.getD j d0) = w at *
      generalize L.getD j d0 = d at *
      generalize fkI keys L j = M at *
      generalize hM2 : fkI keys L (j + 1) = M2 at *
      obtain ⟨df, dl, dt, dr⟩ := d
      simp only at hisf
      have hm1 : (M.length + 1) * 80 ≤ 140737488355328 := by omega
      have hm2 : M.length + 1 ≤ 140737488355328 := by omega
      repeat' first | (refine SW.seq_k fun K hK => ?_) | ((first | refine SW.region ?_ | refine SW.cond ?_ | refine SW.skip ?_); try simp only [go_sem, hD, hli, ie, i0, w1, fi, true_implies]) | (apply hK; clear hK K)
      refine SW.block ?_
      repeat' first | (refine SW.seq_k fun K hK => ?_) | (refine SW.region ?_; try simp only [go_sem, hD, hli, ie, i0, w1, fi, true_implies]) | (apply hK; clear hK K)
      refine Ab.SW.cut _ (Ab.SW.le (St.le_sub (by repeat' (first | exact rfl | exact trivial | constructor))) hin) ?_
      intro S' hle
      try simp only [go_sem, hD]
      (first | apply hK | (clear hK K; apply hK) | (clear hK K; clear hK K; apply hK)); clear hK K
      refine Ab.SW.le hle ?_
      clear hle hin
      cases z with
      | false =>
        rw [Bool.false_and] at hisf
        subst hisf
        rw [if_neg (by simp), List.append_nil] at hst
        subst hst
        repeat' first | (refine SW.seq_k fun K hK => ?_) | ((first | refine SW.region ?_ | refine SW.regionZ (id := 24) (Checked.mixed Tryz.checked) Go.Ab.zPK_4 (by kernel_rfl) ?_ | refine SW.cond ?_ | refine SW.skip ?_); try simp only [Go.Ab.zPK_4, go_sem, hD, hli, ie, i0, w1, fi, true_implies]) | (apply hK; clear hK K)
        all_goals
          refine Rnd.sub (L.length - (j + 1)) (by omega) ((hI _ _).2 ⟨j + 1, y, hh, rfl, by omega, by rw [hM2]; exact hA2, rfl⟩) (by repeat' (first | exact rfl | exact trivial | constructor))
      | true =>
        rw [Bool.true_and] at hisf
        cases hn : (df.toList == dt.toList) with
        | true =>
          rw [hn] at hisf
          subst hisf
          rw [if_neg (by simp), List.append_nil] at hst
          subst hst
          repeat' first | (refine SW.seq_k fun K hK => ?_) | ((first | refine SW.region ?_ | refine SW.regionZ (id := 24) (Checked.mixed Tryz.checked) Go.Ab.zPK_4 (by kernel_rfl) ?_ | refine SW.cond ?_ | refine SW.skip ?_); try simp only [Go.Ab.zPK_4, go_sem, hD, hli, ie, i0, w1, fi, hn, true_implies]) | (apply hK; clear hK K)
          all_goals
            refine Rnd.sub (L.length - (j + 1)) (by omega) ((hI _ _).2 ⟨j + 1, y, hh, rfl, by omega, by rw [hM2]; exact hA2, rfl⟩) (by repeat' (first | exact rfl | exact trivial | constructor))
        | false =>
          rw [hn] at hisf
          subst hisf
          rw [if_pos (by simp)] at hst
          repeat' first | ((with_reducible refine appK_acc hA2 ?_ ?_ ?_ ?_ ?_ ?_ hm1 hm2 ?_); (simp [hD]); (rfl); (rfl); (rfl); (exact Nat.succ_pos _); (rfl); (intro x3 b3 blk3 f1 f2 f3 f4 f5 f6 h3 hh3); (obtain ⟨h4, hA4, hle4⟩ := Acc.after f1 f4 f5 f6 hh3); (clear f1 f2 f3 f4 f5 f6 hh3); (try simp only [go_sem, hD])) | (refine SW.seq_k fun K hK => ?_) | ((first | refine SW.region ?_ | refine SW.regionZ (id := 24) (Checked.mixed Tryz.checked) Go.Ab.zPK_4 (by kernel_rfl) ?_ | refine SW.cond ?_ | (refine allF_i fun b hb => ?_; replace hD := And.intro hb hD; clear hb; try simp only [fresh_cons, fresh_nil, and_true, ne_eq, neF] at hD)); try simp only [Go.Ab.zPK_4, go_sem, hD, hli, ie, i0, w1, fi, hn, true_implies]) | (apply hK; clear hK K)
          all_goals
            refine Rnd.le (hle4 _) ?_
            refine Rnd.sub (L.length - (j + 1)) (by omega) ((hI _ _).2 ⟨j + 1, x3, h4, rfl, by omega, by rw [hM2, hst, hsn, List.length_append]; exact hA4, rfl⟩) (by repeat' (first | exact rfl | exact trivial | constructor))
    · have hli : ¬ ((j : Nat) : Int) < (((L.length) : Nat) : Int) := by omega
      obtain rfl : j = L.length := by omega
      have hmm : fkI keys L L.length = L.filter (isF keys) := by unfold fkI; rw [List.take_length]
      rw [hmm] at hA2
      generalize L.filter (isF keys) = M at *
      repeat' first | (refine SW.seq_k fun K hK => ?_) | ((first | refine SW.region ?_ | refine SW.cond ?_ | refine SW.exit ?_ | refine SW.ret ?_); try simp only [go_sem, hD, hli, true_implies]) | (apply hK; clear hK K) | (clear hK K; apply hK; clear hK K)
      refine retQ_le (fun M w0 D N a w r => r) ?_
      simp only [resL_tmp, resL_nil, tupOf, go_sem, hD]
      try rw [if_pos rfl]
      exact ⟨y, rfl, hA2⟩
end Go.Proofs.YtpidncgibgiidaaGreat
namespace Go.Ab.A15
open Go Go.Ab Go.Ab.A34
def kC (k : Ky) : List SV := [Str k.1, U32 k.2]
def kCs (l : List Ky) : List SV := fC kC l
theorem kCs_len (l : List Ky) : l.length * 2 = (kCs l).length := fC_len (enc := kC) (k := 2) (fun _ => rfl) l
theorem fl_kCs (l : List Ky) : flCells (kyF l) l.length = kCs l := by
  have e : l = (List.range l.length).map fun i => l.getD i kd0 := by
    refine List.ext_getElem (by simp) fun i h1 h2 => ?_
    simp [List.getD_eq_getElem?_getD, h1]
  unfold flCells
  conv => rhs; rw [e]
  unfold kCs fC
  rw [List.flatMap_map]
  rfl
theorem kCs_at (l : List Ky) (j : Nat) (h : j < l.length) : kyF l j = ((kCs l).drop (j * 2)).take 2 := fC_at (enc := kC) (k := 2) (fun _ => rfl) kd0 l j h
theorem kCs_all (l : List Ky) : (kCs l).all single = true := by
  rw [List.all_eq_true]
  intro x hx
  obtain ⟨v, _, hv⟩ := List.mem_flatMap.1 hx
  simp only [kC, List.mem_cons, List.not_mem_nil, or_false] at hv
  rcases hv with rfl | rfl <;> rfl
end Go.Ab.A15
namespace Go.Proofs.YtpidncgibgiidaaGreat
open Go Go.Ab Go.Ab.A34 Go.Ab.A15 Go.Ab.A01
variable [Gl] [Tabs]
theorem clone_k (l : List Ky) (hl : l.length ≤ 1000) : PCall Tryz.prog 25 [KyL l] (KyL l) := by
  have hfm := fl_kCs l
  have hvl := kCs_len l
  refine Call.enter' (N := 8) (rs := [.tmp 2]) Tryz.func25 rfl rfl rfl (by decide) rfl ?_; simp only [argT]; have hD : (0 : Nat) = 0 := rfl
  refine SW.seq_k fun K0 hK0 => ?_
  refine SW.region ?_
  simp only [go_sem, hD]
  refine hK0 _ ?_
  clear hK0 K0
  refine SW.seq_k fun K hK => ?_
  refine SW.seq_k fun K2 hK2 => ?_
  refine SW.region_nil (i := 0) (j := 3) (k := 4) rfl rfl rfl rfl rfl rfl Tryz.underlying46 rfl (by decide) (by decide) (fun hn => ?_) ?_
  · refine hK2 _ ?_
    clear hK2 K2
    have hl0 : l = [] := List.eq_nil_of_length_eq_zero hn
    subst hl0
    repeat' first | (refine SW.seq_k fun K hK => ?_) | ((first | refine SW.region ?_ | refine SW.cond ?_ | refine SW.ret ?_); try simp only [go_sem, hD]) | (apply hK; clear hK K)
    refine retQ_le (St.le_nil_fl (i := 2) (sz := 2) (f := kyF []) rfl) ?_
    simp only [resL_tmp, resL_nil, tupOf, go_sem, hD]
    all_goals first | exact ⟨rfl, rfl⟩ | rfl
  · refine hK2 _ ?_
    clear hK2 K2
    repeat' first | (refine SW.seq_k fun K hK => ?_) | ((first | refine SW.region ?_ | refine SW.cond ?_ | refine SW.skip ?_ | (refine allF_i fun b hb => ?_; replace hD := And.intro hb hD; clear hb; try simp only [fresh_cons, fresh_nil, and_true, ne_eq, neF] at hD) | simp only [appK, appOsK]); try simp only [go_sem, hD]) | (apply hK; clear hK K)
    rw [hfm]
    refine ⟨kCs_all l, by omega, by omega, allF_i fun b' hb' => ?_⟩
    apply hK
    clear hK K
    repeat' (refine SW.ret ?_; try simp only [go_sem, hD])
    refine retQ_le (St.le_freeze (i := 2) (b := b') (off := 0) (len := l.length) (sz := 2) (k := .svs (kCs l)) rfl (by rw [find_cons, if_pos rfl]) (by rw [Blk.len_svs, ← hvl]; omega) (kyF l) (fun j hj => by
      rw [getN_take _ _ _ (by rw [Blk.len_svs, ← hvl]; omega), Nat.zero_add]
      exact kCs_at l j hj)) ?_
    rw [del_head]
    simp only [resL_tmp, resL_nil, tupOf, go_sem, hD]
    all_goals first | exact ⟨rfl, rfl⟩ | rfl
theorem same_n2 : PCall Tryz.prog 15 [SN, SN] (SB true) := by
  have c := same_d [] [] (by simp) (by simp) (fun d hd => by cases hd) (fun d hd => by cases hd)
  rw [decide_eq_true rfl] at c
  exact PCall.nilA (args := [SN, SN]) (sz := 4) (g := dpF []) 0 (by simp) rfl (PCall.nilA (args := [DpL [], SN]) (sz := 4) (g := dpF []) 1 (by simp) rfl c)
def forV (db : List Tb) (keys : List Ky) : SV := if keyE db keys = 0 then DpL ((allP db 6 0).filter (isF keys)) else SN
theorem forQ_pure {f : Nat} {args : List SV} {db : List Tb} {keys : List Ky} (hc : Ab.Call Tryz.prog f args [] (ForQ db keys (keyE db keys))) : PCall Tryz.prog f args (.tup [forV db keys, I64 (keyE db keys)]) := by
  have hf : (fun d => !(notF keys d)) = isF keys := funext (isF_eq keys)
  unfold forV
  by_cases h0 : keyE db keys = 0
  · rw [h0, if_pos rfl]
    refine pure_acc (Call.mono hc fun r h' hq => ?_)
    unfold ForQ at hq
    rw [if_pos h0, hf] at hq
    exact hq
  · rw [if_neg h0]
    refine Call.frzT hc fun r h1 hq => ?_
    unfold ForQ at hq
    rw [if_neg h0] at hq
    exact ⟨SN, I64 (keyE db keys), SN, hq, St.le_drop, ⟨rfl, rfl⟩⟩
theorem same_f (db : List Tb) (keys : List Ky) (h : Sm db) : PCall Tryz.prog 15 [forV db keys, forV db keys] (SB true) := by
  unfold forV
  split
  · have hl := all_len h 6
    have hm : ((allP db 6 0).filter (isF keys)).length ≤ (allP db 6 0).length := List.length_filter_le _ _
    have hs : ∀ d ∈ (allP db 6 0).filter (isF keys), OkS d := fun d hd => by
      obtain ⟨_, _, _, _, h3, h4⟩ := all_mem h (List.mem_filter.1 hd).1
      exact ⟨by omega, by omega⟩
    have c := same_d ((allP db 6 0).filter (isF keys)) ((allP db 6 0).filter (isF keys)) (by omega) (by omega) hs hs
    rw [decide_eq_true rfl] at c
    exact c
  · exact same_n2
theorem law_foreign (d : List Rc) (keys : List Ky) (hd : OkRcs d) (hdl : d.length ≤ 9223372036854775807) (hu : ∀ k ∈ keys, k.2 < 4294967296) : PCall Tryz.prog 5 [RcL d, KyL keys] (SB true) := by
  have of := of_r d hd hdl
  have aw := awake_c
  by_cases h1 : goodD d
  · rw [ofV_good h1] at of
    have S := sm_dra h1
    generalize ofT d = db at *
    generalize decide (d.length ≤ 3) = D3 at *
    cases D3 with
    | false =>
      refine Call.enter' (N := 62) (rs := [.tmp 4]) Tryz.func5 rfl rfl rfl (by decide) rfl ?_; simp only [argT]; have hD : (0 : Nat) = 0 := rfl
      repeat' first | (refine SW.seq_k fun K hK => ?_) | ((first | refine SW.region ?_ | refine SW.cond ?_ | refine SW.ret ?_ | refine Call.of_pure (of) ?_ | refine Call.of_pure (aw) ?_ | (refine allF_i fun b hb => ?_; replace hD := And.intro hb hD; clear hb; try simp only [fresh_cons, fresh_nil, and_true, ne_eq, neF] at hD)); try simp only [go_sem, hD, true_implies]) | (apply hK; clear hK K)
      refine ret_pure ?_; simp only [resL_tmp, resL_nil, tupOf, go_sem, hD]
    | true =>
      by_cases h6 : 6 < keys.length
      · have h6i : (6 : Int) < ((keys.length : Nat) : Int) := by omega
        refine Call.enter' (N := 62) (rs := [.tmp 4]) Tryz.func5 rfl rfl rfl (by decide) rfl ?_; simp only [argT]; have hD : (0 : Nat) = 0 := rfl
        repeat' first | (refine SW.seq_k fun K hK => ?_) | ((first | refine SW.region ?_ | refine SW.cond ?_ | refine SW.ret ?_ | refine Call.of_pure (of) ?_ | refine Call.of_pure (aw) ?_ | (refine allF_i fun b hb => ?_; replace hD := And.intro hb hD; clear hb; try simp only [fresh_cons, fresh_nil, and_true, ne_eq, neF] at hD)); try simp only [go_sem, hD, h6i, true_implies]) | (apply hK; clear hK K)
        refine ret_pure ?_; simp only [resL_tmp, resL_nil, tupOf, go_sem, hD]
      · have h6i : ¬ (6 : Int) < ((keys.length : Nat) : Int) := by omega
        have cf := forQ_pure (foreign_p db keys (by omega) (S.okF (by omega)) S.chkD (fun d hd => by
          obtain ⟨_, _, _, _, h3, h4⟩ := all_mem S hd
          omega))
        have cr := forQ_pure (foreign_r db keys S (by omega) hu)
        have sf := same_f db keys S
        have ck := clone_k keys (by omega)
        clear S
        generalize forV db keys = FV at *
        generalize keyE db keys = E at *
        refine Call.enter' (N := 62) (rs := [.tmp 4]) Tryz.func5 rfl rfl rfl (by decide) rfl ?_; simp only [argT]; have hD : (0 : Nat) = 0 := rfl
        repeat' first | (refine SW.seq_k fun K hK => ?_) | ((first | refine SW.region ?_ | refine SW.cond ?_ | refine SW.skip ?_ | refine Call.of_pure (of) ?_ | refine Call.of_pure (aw) ?_ | (refine allF_i fun b hb => ?_; replace hD := And.intro hb hD; clear hb; try simp only [fresh_cons, fresh_nil, and_true, ne_eq, neF] at hD)); try simp only [go_sem, hD, h6i, true_implies]) | (apply hK; clear hK K)
        obtain ⟨xb, rfl⟩ : ∃ x, x = b := ⟨_, rfl⟩
        refine Ab.SW.le (S' := ⟨[(1, KyL keys), (5, .fp [TL db]), (30, KyL keys), (31, I64 keys.length), (32, I64 (0 : Nat))], []⟩) ?_ ?_
        · refine St.le.trans (St.le_freezeP (i := 5) (b := xb) (off := 0) (n := 1) (k := .svs [TL db]) rfl (by rw [find_cons, if_pos rfl]) (by exact Nat.le_refl 1)) ?_
          rw [del_head]
          simp only [getN, Blk.get, go_sem, hD]
          exact St.le_sub (by repeat' (first | exact rfl | exact trivial | constructor))
        clear hD
        have hD : (0 : Nat) = 0 := rfl
        refine SW.block ?_
        obtain ⟨I, hI⟩ : ∃ I : Nat → St → Prop, ∀ k S, I k S ↔ (∃ (i : Nat) , k = keys.length - i ∧ i ≤ keys.length ∧ 0 = 0 ∧ S = ⟨[(1, KyL keys), (5, .fp [TL db]), (30, KyL keys), (31, I64 keys.length), (32, I64 i)], []⟩) := ⟨fun k S => _, fun _ _ => Iff.rfl⟩
        refine SW.loop' I (keys.length) ((hI _ _).2 ⟨0, rfl, Nat.zero_le _, rfl, rfl⟩) (by repeat' (first | exact rfl | exact trivial | constructor)) ?_
        intro k S hIn
        obtain ⟨i, rfl, hi, hC, rfl⟩ := (hI _ _).1 hIn
        clear hIn
        have ie : ((i : Nat) : Int).toNat = i := Int.toNat_natCast _
        have i0 : (0 : Int) ≤ ((i : Nat) : Int) := by omega
        by_cases hlt : i < keys.length
        · have hli : ((i : Nat) : Int) < (((keys.length) : Nat) : Int) := by omega
          have w1 : IntKind.i64.wrap ((i : Int) + 1) = ((i + 1 : Nat) : Int) := by rw [i64_wrap (by omega) (by omega)]; omega
          have fi : kyF keys i = [Str (keys.getD i kd0).1, U32 (keys.getD i kd0).2] := rfl
          generalize keys.getD i kd0 = v at *
          obtain ⟨v1, v2⟩ := v
          simp only at fi
          repeat' first | (refine SW.seq_k fun K hK => ?_) | ((first | refine SW.region ?_ | refine SW.cond ?_ | refine SW.skip ?_); try simp only [go_sem, hD, hli, ie, i0, w1, fi, true_implies]) | (apply hK; clear hK K)
          refine SW.block ?_
          repeat' first | (refine SW.seq_k fun K hK => ?_) | ((first | refine SW.region ?_ | refine SW.cond ?_ | refine SW.skip ?_ | refine SW.ret ?_ | (refine allF_i fun b hb => ?_; replace hD := And.intro hb hD; clear hb; try simp only [fresh_cons, fresh_nil, and_true, ne_eq, neF] at hD)); try simp only [go_sem, hD, hli, ie, i0, w1, fi, true_implies]) | (refine ifI (fun hc => ?_) (fun hc => ?_) <;> first | (exfalso; omega) | skip) | (apply hK; clear hK K)
          · refine ret_pure ?_; simp only [resL_tmp, resL_nil, tupOf, go_sem, hD]
          · refine Rnd.le St.le_drop ?_
            refine Rnd.sub (keys.length - (i + 1)) (by omega) ((hI _ _).2 ⟨i + 1, rfl, by omega, rfl, rfl⟩) (by repeat' (first | exact rfl | exact trivial | constructor))
        · have hli : ¬ ((i : Nat) : Int) < (((keys.length) : Nat) : Int) := by omega
          repeat' first | (refine SW.seq_k fun K hK => ?_) | ((first | refine SW.region ?_ | refine SW.regionZ (id := 10) (Checked.mixed Tryz.checked) ((.one 0 [0, 3, 4, 5, 6, 7, 8] (.one 1 [1, 2, 3, 4, 5, 6, 7, 8] (.one 2 [2, 3, 4, 5, 6, 7, 8] (.one 3 [3, 4, 5, 6, 7, 8] (.one 4 [4, 5, 6, 7, 8] (.one 5 [5, 7, 8] (.one 6 [6, 8] (.one 7 [7, 8] (.one 8 [8] .done))))))))) : OZ) (by kernel_rfl) ?_ | refine SW.cond ?_ | refine SW.exit ?_ | refine SW.ret ?_ | refine ⟨_, ck, ?_⟩ | refine ⟨_, cf, ?_⟩ | refine Call.of_pure (cr) ?_ | refine Call.of_pure (sf) ?_); try simp only [go_sem, hD, hli, true_implies]) | (apply hK; clear hK K) | (clear hK K; apply hK; clear hK K)
          all_goals
            refine ret_pure ?_; simp only [resL_tmp, resL_nil, tupOf, go_sem, hD]
  · rw [ofV_bad h1] at of
    refine Call.enter' (N := 62) (rs := [.tmp 4]) Tryz.func5 rfl rfl rfl (by decide) rfl ?_; simp only [argT]; have hD : (0 : Nat) = 0 := rfl
    repeat' first | (refine SW.seq_k fun K hK => ?_) | ((first | refine SW.region ?_ | refine SW.cond ?_ | refine SW.ret ?_ | refine Call.of_pure (of) ?_ | refine Call.of_pure (aw) ?_ | (refine allF_i fun b hb => ?_; replace hD := And.intro hb hD; clear hb; try simp only [fresh_cons, fresh_nil, and_true, ne_eq, neF] at hD)); try simp only [go_sem, hD, true_implies]) | (apply hK; clear hK K)
    refine ret_pure ?_; simp only [resL_tmp, resL_nil, tupOf, go_sem, hD]
end Go.Proofs.YtpidncgibgiidaaGreat
