import Derived.Test.YtpidncgibgiidaaGreatPZ
set_option linter.unusedSimpArgs false
set_option linter.unusedVariables false
set_option linter.unusedSectionVars false
namespace Go.Ab.A15
open Go Go.Ab Go.Ab.A34 Go.Ab.A01
def shN (a b : Dp) (p : Nat) : Bool := (rg p b.l.length).any fun p => decide (woD b p = a)
theorem shN_step {a b : Dp} {p : Nat} (h : p < b.l.length) : shN a b p = (decide (woD b p = a) || shN a b (p + 1)) := by
  unfold shN
  rw [rg_step h, List.any_cons]
theorem shN_end {a b : Dp} {p : Nat} (h : b.l.length ≤ p) : shN a b p = false := by
  unfold shN
  rw [rg_end h]
  rfl
def shQ (a b : Dp) : Bool := decide (b.l.length = a.l.length + 1) && shN a b 0
end Go.Ab.A15
def Go.Ab.zPA_1 : Go.Ab.OX := (.one 0 [0, 7, 8, 9, 10, 11, 12, 13, 14, 15, 16, 17, 18, 19, 20, 21, 22, 23] (.one 1 [1, 3, 4, 5, 6, 7, 8, 9, 10, 11, 12, 13, 14, 15, 16, 17, 18, 19, 20, 21, 22, 23] (.one 2 [2, 3, 4, 5, 6, 7, 8, 9, 10, 11, 12, 13, 14, 15, 16, 17, 18, 19, 20, 21, 22, 23] (.one 3 [3, 4, 5, 6, 7, 8, 9, 10, 11, 12, 13, 14, 15, 16, 17, 18, 19, 20, 21, 22, 23] (.one 4 [4, 5, 6, 7, 8, 9, 10, 11, 12, 13, 14, 15, 16, 17, 18, 19, 20, 21, 22, 23] (.one 5 [5, 6, 7, 8, 9, 10, 11, 12, 13, 14, 15, 16, 17, 18, 19, 20, 21, 22, 23] (.one 6 [6, 7, 8, 9, 10, 11, 12, 13, 14, 15, 16, 17, 18, 19, 20, 21, 22, 23] (.one 7 [7, 8, 9, 10, 11, 12, 13, 14, 15, 16, 17, 18, 19, 20, 21, 22, 23] (.one 8 [8, 9, 10, 11, 12, 13, 14, 15, 16, 17, 18, 19, 20, 21, 22, 23] (.one 9 [9, 11, 12, 13, 14, 22, 23] (.one 10 [10, 11, 12, 13, 14, 22, 23] (.one 11 [11, 12, 13, 14, 22, 23] (.one 12 [12, 13, 14, 22, 23] (.one 13 [13, 14, 22, 23] (.one 14 [14, 22, 23] (.one 15 [15, 17, 18, 19, 20, 21, 22, 23] (.one 16 [16, 17, 18, 19, 20, 21, 22, 23] (.one 17 [17, 18, 19, 20, 21, 22, 23] (.one 18 [18, 19, 20, 21, 22, 23] (.one 19 [19, 20, 21, 22, 23] (.one 20 [20, 21, 22, 23] (.one 21 [21, 22, 23] (.one 22 [22, 23] (.one 23 [23] .done))))))))))))))))))))))))
def Go.Ab.zPA_2 : Go.Ab.OW := (.fre 0 [0, 1, 2, 3, 4, 5, 6, 7, 8, 9, 10, 11, 12, 13, 14, 15] (.fre 1 [1, 2, 3, 4, 5, 6, 7, 8, 9, 10, 11, 12, 13, 14, 15] (.fre 2 [2, 4, 5, 7, 12, 13, 14, 15] (.fre 3 [3, 4, 5, 7, 12, 13, 14, 15] (.fre 4 [4, 5, 7, 12, 13, 14, 15] (.fre 5 [5, 7, 12, 13, 14, 15] (.fre 6 [6, 7, 12, 13, 14, 15] (.fre 8 [8, 10, 11, 12, 13, 14, 15] (.fre 9 [9, 10, 11, 12, 13, 14, 15] (.fre 10 [10, 11, 12, 13, 14, 15] (.fre 11 [11, 12, 13, 14, 15] (.alt 7 true (.alt 12 true (.fre 13 [13, 14, 15] (.fre 14 [14, 15] (.fre 15 [15] .done))) .nil) .nil))))))))))))
namespace Go.Proofs.YtpidncgibgiidaaGreat
open Go Go.Ab Go.Ab.A34 Go.Ab.A15 Go.Ab.A01
variable [Gl] [Tabs]
set_option maxHeartbeats 2000000 in
set_option maxRecDepth 20000 in
theorem mx_p (L : List Dp) (ia kb : Nat) (hia : ia < L.length) (hkb : kb < L.length) (ok : Bool) (h6 : ∀ d ∈ L, Ok6 d) (hn : L.length ≤ 2000) (x : SV) (hh : Heap) :
    Ab.SW Tryz.prog 81 (blk 4 Tryz.f17) (nrm fun S => S.le ⟨[(4, DpL L), (6, x), (7, I64 ia), (8, SB (ok && !(shQ (L.getD ia d0) (L.getD kb d0)))), (9, I64 kb)], hh⟩)
      ⟨[(4, DpL L), (6, x), (7, I64 ia), (8, SB ok), (9, I64 kb), (10, I64 (0 : Nat))], hh⟩ := by
  have fi : dpF L ia = dC (L.getD ia d0) := rfl
  have fk : dpF L kb = dC (L.getD kb d0) := rfl
  have ha := h6 _ (getD_mem' d0 hia)
  have hb := h6 _ (getD_mem' d0 hkb)
  have ja : (0 : Int) ≤ ((ia : Nat) : Int) := by omega
  have jb : ((ia : Nat) : Int) < ((L.length : Nat) : Int) := by omega
  have jc : ((ia : Nat) : Int).toNat = ia := Int.toNat_natCast _
  have ka : (0 : Int) ≤ ((kb : Nat) : Int) := by omega
  have kc : ((kb : Nat) : Int) < ((L.length : Nat) : Int) := by omega
  have kd : ((kb : Nat) : Int).toNat = kb := Int.toNat_natCast _
  have hwo := fun (p : Nat) (hp : p < (L.getD kb d0).l.length) => wo_r (L.getD kb d0) p hp (by have := hb.e; omega) (by have := hb.l; omega) (by have := hb.l; have := hb.e; omega)
  have heq := fun (p : Nat) => equal_d (woD (L.getD kb d0) p) (L.getD ia d0)
  conv => arg 3; whnf
  refine SW.block ?_
  generalize L.getD ia d0 = a at *
  generalize L.getD kb d0 = b at *
  have hbl := hb.l
  have hal := ha.l
  have w2 : IntKind.i64.wrap (((a.l.length : Nat) : Int) + 1) = ((a.l.length + 1 : Nat) : Int) := by rw [i64_wrap (by omega) (by omega)]; omega
  obtain ⟨R, hR⟩ : ∃ R, R = (ok && !(shQ a b)) := ⟨_, rfl⟩
  rw [← hR]
  unfold shQ at hR
  have oa : OkS a := ⟨by omega, by have := ha.e; omega⟩
  by_cases hlen : b.l.length = a.l.length + 1
  · rw [decide_eq_true hlen, Bool.true_and] at hR
    have hle : ((b.l.length : Nat) : Int) = ((a.l.length + 1 : Nat) : Int) := by omega
    obtain ⟨I, hI⟩ : ∃ I : Nat → St → Prop, ∀ k S, I k S ↔ (∃ (p : Nat) (o2 : Bool), k = b.l.length - p ∧ p ≤ b.l.length ∧ R = (o2 && !(shN a b p)) ∧ S = ⟨[(4, DpL L), (6, x), (7, I64 ia), (8, SB o2), (9, I64 kb), (10, I64 p)], hh⟩) := ⟨fun k S => _, fun _ _ => Iff.rfl⟩
    refine SW.loop' I (b.l.length) ((hI _ _).2 ⟨0, ok, rfl, Nat.zero_le _, hR, rfl⟩) (by repeat' (first | exact rfl | exact trivial | constructor)) ?_
    intro k S hIn
    obtain ⟨p, o2, rfl, hi, hC, rfl⟩ := (hI _ _).1 hIn
    clear hIn
    have ie : ((p : Nat) : Int).toNat = p := Int.toNat_natCast _
    have i0 : (0 : Int) ≤ ((p : Nat) : Int) := by omega
    clear hR
    by_cases hlt : p < b.l.length
    · have hli : ((p : Nat) : Int) < (((b.l.length) : Nat) : Int) := by omega
      have w1 : IntKind.i64.wrap ((p : Int) + 1) = ((p + 1 : Nat) : Int) := by rw [i64_wrap (by omega) (by omega)]; omega
      rw [shN_step hlt] at hC
      have cw := hwo p hlt
      have hwl : OkS (woD b p) := ⟨by show (woL b.l p).length ≤ _; unfold woL; rw [List.length_append, List.length_take, List.length_drop]; omega, by show (woL b.r p).length ≤ _; unfold woL; rw [List.length_append, List.length_take, List.length_drop]; have := hb.e; omega⟩
      have ce := heq p hwl oa
      generalize hz : decide (woD b p = a) = z at *
      clear hz
      cases o2 with
      | false =>
        have hC2 : R = (false && !(shN a b (p + 1))) := hC
        clear hC heq hwo cw ce hwl oa
        obtain ⟨a1, a2, a3, a4⟩ := a
        obtain ⟨b1, b2, b3, b4⟩ := b
        simp only at fi fk w2 hle hli
        have hD : (0 : Nat) = 0 := rfl
        repeat' first | (refine SW.seq_k fun K hK => ?_) | (refine SW.block ?_) | ((first | refine SW.region ?_ | refine SW.regionX (id := 13) (Checked.mixed Tryz.checked) Go.Ab.zPA_1 (by kernel_rfl) ?_ | refine SW.regionW [7, 12] (id := 15) (Checked.mixed Tryz.checked) Go.Ab.zPA_2 (by kernel_rfl) ?_ | refine SW.cond ?_ | refine SW.skip ?_); try simp only [Go.Ab.zPA_1, Go.Ab.zPA_2, go_sem, hD, hli, ie, i0, w1, ja, jb, jc, ka, kc, kd, fi, fk, w2, hle, true_implies]) | (refine ifI (fun hc => ?_) (fun hc => ?_) <;> first | (exfalso; omega) | skip) | (apply hK; clear hK K)
        all_goals
          refine Rnd.sub (b2.length - (p + 1)) (by omega) ((hI _ _).2 ⟨p + 1, false, rfl, by omega, hC2, rfl⟩) (by repeat' (first | exact rfl | exact trivial | constructor))
      | true =>
        have hC2 : R = ((!z) && !(shN a b (p + 1))) := by rw [hC, Bool.true_and, Bool.not_or]
        clear hC heq hwo hwl oa
        generalize hW : woD b p = W at *
        clear hW
        obtain ⟨a1, a2, a3, a4⟩ := a
        obtain ⟨b1, b2, b3, b4⟩ := b
        obtain ⟨W1, W2, W3, W4⟩ := W
        simp only at fi fk w2 hle hli
        have hD : (0 : Nat) = 0 := rfl
        repeat' first | (refine SW.seq_k fun K hK => ?_) | (refine SW.block ?_) | ((first | refine SW.region ?_ | refine SW.regionX (id := 13) (Checked.mixed Tryz.checked) Go.Ab.zPA_1 (by kernel_rfl) ?_ | refine SW.regionW [7, 12] (id := 15) (Checked.mixed Tryz.checked) Go.Ab.zPA_2 (by kernel_rfl) ?_ | refine SW.cond ?_ | refine SW.skip ?_ | refine Call.of_pure (cw) ?_ | refine Call.of_pure (ce) ?_); try simp only [Go.Ab.zPA_1, Go.Ab.zPA_2, go_sem, hD, hli, ie, i0, w1, ja, jb, jc, ka, kc, kd, fi, fk, w2, hle, true_implies]) | (refine ifI (fun hc => ?_) (fun hc => ?_) <;> first | (exfalso; omega) | skip) | (apply hK; clear hK K)
        all_goals
          refine Rnd.sub (b2.length - (p + 1)) (by omega) ((hI _ _).2 ⟨p + 1, (!z), rfl, by omega, hC2, rfl⟩) (by repeat' (first | exact rfl | exact trivial | constructor))
    · have hli : ¬ ((p : Nat) : Int) < (((b.l.length) : Nat) : Int) := by omega
      rw [shN_end (by omega), Bool.not_false, Bool.and_true] at hC
      subst hC
      obtain ⟨a1, a2, a3, a4⟩ := a
      obtain ⟨b1, b2, b3, b4⟩ := b
      simp only at *
      have hD : (0 : Nat) = 0 := rfl
      repeat' first | (refine SW.seq_k fun K hK => ?_) | ((first | refine SW.regionX (id := 13) (Checked.mixed Tryz.checked) Go.Ab.zPA_1 (by kernel_rfl) ?_ | refine SW.cond ?_ | refine SW.exit ?_); try simp only [Go.Ab.zPA_1, go_sem, hD, hli, ie, ja, jb, jc, ka, kc, kd, fi, fk, true_implies]) | (apply hK; clear hK K)
      all_goals
        exact St.le_sub (by repeat' (first | exact rfl | exact trivial | constructor))
  · rw [decide_eq_false hlen, Bool.false_and, Bool.not_false, Bool.and_true] at hR
    subst hR
    have hle : ¬ ((b.l.length : Nat) : Int) = ((a.l.length + 1 : Nat) : Int) := by omega
    clear heq hwo oa
    obtain ⟨J, hJ⟩ : ∃ J : Nat → St → Prop, ∀ m S, J m S ↔ S = ⟨[(4, DpL L), (6, x), (7, I64 ia), (8, SB R), (9, I64 kb), (10, I64 (0 : Nat))], hh⟩ := ⟨fun m S => _, fun _ _ => Iff.rfl⟩
    refine SW.loop' J 0 ((hJ _ _).2 rfl) (by repeat' (first | exact rfl | exact trivial | constructor)) ?_
    intro m S hIn
    obtain rfl := (hJ _ _).1 hIn
    clear hIn
    obtain ⟨a1, a2, a3, a4⟩ := a
    obtain ⟨b1, b2, b3, b4⟩ := b
    simp only at fi fk w2 hle hbl hal
    have hD : (0 : Nat) = 0 := rfl
    by_cases hl0 : ((0 : Nat) : Int) < ((b2.length : Nat) : Int)
    · repeat' first | (refine SW.seq_k fun K hK => ?_) | ((first | refine SW.regionX (id := 13) (Checked.mixed Tryz.checked) Go.Ab.zPA_1 (by kernel_rfl) ?_ | refine SW.cond ?_ | refine SW.exit ?_); try simp only [Go.Ab.zPA_1, go_sem, hD, hl0, ja, jb, jc, ka, kc, kd, fi, fk, w2, hle, true_implies]) | (refine ifI (fun hc => ?_) (fun hc => ?_) <;> first | (exfalso; omega) | skip) | (apply hK; clear hK K)
      all_goals
        exact St.le_sub (by repeat' (first | exact rfl | exact trivial | constructor))
    · repeat' first | (refine SW.seq_k fun K hK => ?_) | ((first | refine SW.regionX (id := 13) (Checked.mixed Tryz.checked) Go.Ab.zPA_1 (by kernel_rfl) ?_ | refine SW.cond ?_ | refine SW.exit ?_); try simp only [Go.Ab.zPA_1, go_sem, hD, hl0, ja, jb, jc, ka, kc, kd, fi, fk, w2, hle, true_implies]) | (refine ifI (fun hc => ?_) (fun hc => ?_) <;> first | (exfalso; omega) | skip) | (apply hK; clear hK K)
      all_goals
        exact St.le_sub (by repeat' (first | exact rfl | exact trivial | constructor))
end Go.Proofs.YtpidncgibgiidaaGreat
