/- Several texts in one: NP, NQ, NT, UF, UG, NU, NV, OA, OB, OE, OC. -/
import Derived.Test.YtpidncgibgiidaaGreatQ5
import Derived.Test.YtpidncgibgiidaaGreatZ23
import Derived.Test.YtpidncgibgiidaaGreatZ24
import Derived.Test.YtpidncgibgiidaaGreatQ3
import Derived.Test.YtpidncgibgiidaaGreatZ15
import Derived.Test.YtpidncgibgiidaaGreatZ25
import Derived.Test.YtpidncgibgiidaaGreatQ2
import Derived.Test.YtpidncgibgiidaaGreatQ4
set_option linter.unusedSimpArgs false
set_option linter.unusedVariables false
set_option linter.unusedSectionVars false
set_option maxHeartbeats 8000000
set_option maxRecDepth 20000
def Go.Ab.zNP_1 : Go.Ab.OW := (.fre 0 [0, 1, 13, 14, 15, 16, 17, 18, 19, 20, 21, 22, 23, 24, 25, 26, 27, 28, 29] (.fre 1 [1, 13, 14, 15, 16, 17, 18, 19, 20, 21, 22, 23, 24, 25, 26, 27, 28, 29] (.fre 2 [2, 3, 5, 11, 12, 13, 14, 15, 16, 17, 18, 19, 20, 21, 22, 23, 24, 25, 26, 27, 28, 29] (.fre 3 [3, 5, 11, 12, 13, 14, 15, 16, 17, 18, 19, 20, 21, 22, 23, 24, 25, 26, 27, 28, 29] (.fre 4 [4, 5, 11, 12, 13, 14, 15, 16, 17, 18, 19, 20, 21, 22, 23, 24, 25, 26, 27, 28, 29] (.fre 5 [5, 11, 12, 13, 14, 15, 16, 17, 18, 19, 20, 21, 22, 23, 24, 25, 26, 27, 28, 29] (.fre 6 [6, 7, 10, 11, 12, 13, 14, 15, 16, 17, 18, 19, 20, 21, 22, 23, 24, 25, 26, 27, 28, 29] (.fre 7 [7, 10, 11, 12, 13, 14, 15, 16, 17, 18, 19, 20, 21, 22, 23, 24, 25, 26, 27, 28, 29] (.fre 8 [8, 9, 10, 11, 12, 13, 14, 15, 16, 17, 18, 19, 20, 21, 22, 23, 24, 25, 26, 27, 28, 29] (.fre 9 [9, 10, 11, 12, 13, 14, 15, 16, 17, 18, 19, 20, 21, 22, 23, 24, 25, 26, 27, 28, 29] (.fre 10 [10, 11, 12, 13, 14, 15, 16, 17, 18, 19, 20, 21, 22, 23, 24, 25, 26, 27, 28, 29] (.alt 11 false (.alt 12 true (.fre 13 [13, 14, 15, 16, 17, 18, 19, 20, 21, 22, 23, 24, 25, 26, 27, 28, 29] (.fre 14 [14, 15, 16, 17, 18, 19, 20, 21, 22, 23, 24, 25, 26, 27, 28, 29] (.fre 15 [15, 16, 28, 29] (.fre 16 [16, 28, 29] (.fre 17 [17, 18, 20, 26, 27, 28, 29] (.fre 18 [18, 20, 26, 27, 28, 29] (.fre 19 [19, 20, 26, 27, 28, 29] (.fre 20 [20, 26, 27, 28, 29] (.fre 21 [21, 22, 25, 26, 27, 28, 29] (.fre 22 [22, 25, 26, 27, 28, 29] (.fre 23 [23, 24, 25, 26, 27, 28, 29] (.fre 24 [24, 25, 26, 27, 28, 29] (.fre 25 [25, 26, 27, 28, 29] (.alt 26 false (.alt 27 true (.fre 28 [28, 29] (.fre 29 [29] .done)) .nil) .nil)))))))))))))) .nil) .nil))))))))))))
namespace Go.Proofs.YtpidncgibgiidaaGreat
open Go Go.Ab Go.Ab.A34 Go.Ab.A15 Go.Ab.A01
variable [Gl] [Tabs]
theorem shorter_p (a b : Dp) (hb : b.l.length = b.r.length) (ol : b.l.length ≤ 400) (oa : a.l.length ≤ 1000) (oar : a.r.length ≤ 1000) : PCall Tryz.prog 51 [DV a, DV b] (SB (shP a b)) := by
  obtain ⟨X, hX⟩ : ∃ X, X = shP a b := ⟨_, rfl⟩
  rw [← hX]
  unfold shP at hX
  obtain ⟨af, al, at', ar⟩ := a
  obtain ⟨bf, bl, bt, br⟩ := b
  simp only at *
  have e1 := @barr_eq af bf
  have e2 := @barr_eq at' bt
  by_cases h1 : af = bf
  · have f1 : (af.toList == bf.toList) = true := e1.2 h1
    rw [decide_eq_true h1, Bool.true_and] at hX
    by_cases h2 : at' = bt
    · have f2 : (at'.toList == bt.toList) = true := e2.2 h2
      rw [decide_eq_true h2, Bool.true_and] at hX
      have wl : IntKind.i64.wrap (((al.length : Nat) : Int) + 1) = ((al.length : Nat) : Int) + 1 := by rw [i64_wrap] <;> omega
      by_cases h3 : al.length + 1 = bl.length
      · have f3 : ((al.length : Nat) : Int) + 1 = ((bl.length : Nat) : Int) := by omega
        rw [decide_eq_true h3, Bool.true_and] at hX
        have hno : (∀ p, p < bl.length → ¬ (al = woL bl p ∧ ar = woL br p)) → X = false := fun h => by
          rw [hX, List.any_eq_false]
          intro p hp
          rw [List.mem_range] at hp
          simpa using h p hp
        have hyes : ∀ p, p < bl.length → al = woL bl p → ar = woL br p → X = true := fun p hp h4 h5 => by
          rw [hX, List.any_eq_true]
          exact ⟨p, List.mem_range.2 hp, by simp [h4, h5]⟩
        clear hX e1 e2
        have wb : IntKind.i64.wrap ((bl.length : Nat) : Int) = ((bl.length : Nat) : Int) := by rw [i64_wrap] <;> omega
        have cK := fun (l : List Int) (p : Nat) (hp : p < l.length) (hl : l.length ≤ 400) => concat_i [l.take p, l.drop (p + 1)] (fun j => if j = 0 then (fun i => iF l i) else (fun i => iF l (p + 1 + i))) (fun j hj => by
          rcases (by simp at hj; omega : j = 0 ∨ j = 1) with rfl | rfl
          · show flCells (fun i => iF l i) (l.take p).length = iC (l.take p)
            rw [List.length_take, Nat.min_eq_left (by omega)]
            exact fl_take l p (by omega)
          · show flCells (fun i => iF l (p + 1 + i)) (l.drop (p + 1)).length = iC (l.drop (p + 1))
            exact fl_drop l (p + 1) _ (by rw [List.length_drop])) (by simp) (fun i => by
          rcases Nat.lt_or_ge i 2 with h | h
          · rcases (by omega : i = 0 ∨ i = 1) with rfl | rfl
            · show (l.take p).length ≤ _
              rw [List.length_take]; omega
            · show (l.drop (p + 1)).length ≤ _
              rw [List.length_drop]; omega
          · rw [List.getD_eq_getElem?_getD, List.getElem?_eq_none (by simp; omega)]; simp)
        have cC : ∀ (l : List Int) (p : Nat), p < l.length → l.length ≤ 400 → ∀ (bk : Nat) (H : Heap), Ab.Call Tryz.prog 98 [.os bk 0 2 1] ((bk, .svs [.fl p 1 (fun i => iF l i), .fl (l.length - (p + 1)) 1 (fun i => iF l (p + 1 + i))]) :: H) (fun r h' => r = IL (woL l p) ∧ h' = H) := fun l p hp hl bk H => by
          have c := cK l p hp hl
          have e : [l.take p, l.drop (p + 1)].flatten = woL l p := by simp [woL]
          rw [e] at c
          refine Call.give (args := [.os bk 0 2 1]) (len := 2) (sz := 1) 0 _ (by simp) rfl (by show 0 + 2 * 1 ≤ 2; omega) (fun j hj => ?_) c
          rcases (by omega : j = 0 ∨ j = 1) with rfl | rfl
          · show [SV.fl (l.take p).length 1 _] = _
            rw [List.length_take, Nat.min_eq_left (by omega)]
            rfl
          · show [SV.fl (l.drop (p + 1)).length 1 _] = _
            rw [List.length_drop]
            rfl
        clear cK
        refine Call.enter' (N := 65) (rs := [.tmp 4]) Tryz.func51 rfl rfl rfl (by decide) rfl ?_; simp only [argT]; have hD : (0 : Nat) = 0 := rfl
        repeat' first | (refine SW.seq_k fun K hK => ?_) | ((first | refine SW.region ?_ | refine SW.cond ?_ | refine SW.skip ?_ | (refine allF_i fun b hb => ?_; replace hD := And.intro hb hD; clear hb; try simp only [fresh_cons, fresh_nil, and_true, ne_eq, neF] at hD)); try simp only [go_sem, hD, f1, f2, wl, f3, wb, true_implies]) | (apply hK; clear hK K)
        obtain ⟨bb, rfl⟩ : ∃ x, x = b := ⟨_, rfl⟩
        obtain ⟨ab, rfl⟩ : ∃ x, x = b := ⟨_, rfl⟩
        refine Ab.SW.le (S' := ⟨[(2, .fp (dC ⟨af, al, at', ar⟩)), (3, .fp (dC ⟨bf, bl, bt, br⟩)), (30, I64 bl.length), (31, I64 (0 : Nat))], []⟩) ?_ ?_
        · refine St.le.trans (St.le_freezeP (i := 2) (b := ab) (off := 0) (n := 4) (k := .svs (dC ⟨af, al, at', ar⟩)) rfl (by simp [find_cons, hD]) (by exact Nat.le_refl 4)) ?_
          simp only [getN, Blk.get, go_sem, hD]
          refine St.le.trans (St.le_freezeP (i := 3) (b := bb) (off := 0) (n := 4) (k := .svs (dC ⟨bf, bl, bt, br⟩)) rfl (by simp [find_cons, hD]) (by exact Nat.le_refl 4)) ?_
          simp only [getN, Blk.get, go_sem, hD]
          exact St.le_sub (by repeat' (first | exact rfl | exact trivial | constructor))
        clear hD
        have hD : (0 : Nat) = 0 := rfl
        refine SW.block ?_
        obtain ⟨I, hI⟩ : ∃ I : Nat → St → Prop, ∀ k S, I k S ↔ (∃ (p : Nat) , k = bl.length - p ∧ p ≤ bl.length ∧ (∀ j, j < p → ¬ (al = woL bl j ∧ ar = woL br j)) ∧ S = ⟨[(2, .fp (dC ⟨af, al, at', ar⟩)), (3, .fp (dC ⟨bf, bl, bt, br⟩)), (30, I64 bl.length), (31, I64 p)], []⟩) := ⟨fun k S => _, fun _ _ => Iff.rfl⟩
        refine SW.loop' I (bl.length) ((hI _ _).2 ⟨0, rfl, Nat.zero_le _, (fun j hj => absurd hj (by omega)), rfl⟩) (by repeat' (first | exact rfl | exact trivial | constructor)) ?_
        intro k S hIn
        obtain ⟨p, rfl, hi, hL, rfl⟩ := (hI _ _).1 hIn
        clear hIn
        have ie : ((p : Nat) : Int).toNat = p := Int.toNat_natCast _
        have i0 : (0 : Int) ≤ ((p : Nat) : Int) := by omega
        by_cases hlt : p < bl.length
        · have hli : ((p : Nat) : Int) < (((bl.length) : Nat) : Int) := by omega
          have w1 : IntKind.i64.wrap ((p : Int) + 1) = ((p + 1 : Nat) : Int) := by rw [i64_wrap (by omega) (by omega)]; omega
          have g2 : ((p : Nat) : Int) ≤ ((bl.length : Nat) : Int) := by omega
          have g3 : ((p : Nat) : Int) ≤ ((br.length : Nat) : Int) := by omega
          have g4 : ((p + 1 : Nat) : Int) ≤ ((bl.length : Nat) : Int) := by omega
          have g5 : ((p + 1 : Nat) : Int) ≤ ((br.length : Nat) : Int) := by omega
          have g6 : (0 : Int) ≤ ((p + 1 : Nat) : Int) := by omega
          have z1 : (((p : Nat) : Int) - 0).toNat = p := by omega
          have t1 : (((bl.length : Nat) : Int) - ((p + 1 : Nat) : Int)).toNat = bl.length - (p + 1) := by omega
          have t2 : (((br.length : Nat) : Int) - ((p + 1 : Nat) : Int)).toNat = br.length - (p + 1) := by omega
          have c1 := fun bk H => cC bl p hlt ol bk H
          have c2 := fun bk H => cC br p (by omega) (by omega) bk H
          have wll : (woL bl p).length ≤ 1000 := by unfold woL; rw [List.length_append, List.length_take, List.length_drop]; omega
          have wlr : (woL br p).length ≤ 1000 := by unfold woL; rw [List.length_append, List.length_take, List.length_drop]; omega
          have q1 := equal_i al (woL bl p) (by omega) (by omega) _ rfl (iF (woL bl p)) (fun _ _ => rfl)
          have q2 := equal_i ar (woL br p) (by omega) (by omega) _ rfl (iF (woL br p)) (fun _ _ => rfl)
          have hyp := hyes p hlt
          have hn1 : ¬ (al = woL bl p ∧ ar = woL br p) → ∀ j, j < p + 1 → ¬ (al = woL bl j ∧ ar = woL br j) := fun h j hj => by
            rcases Nat.lt_or_ge j p with h3 | h3
            · exact hL j h3
            · obtain rfl : j = p := by omega
              exact h
          clear hyes hno hL cC
          generalize woL bl p = wbl at *
          generalize woL br p = wbr at *
          by_cases h5 : al = wbl
          · rw [decide_eq_true h5] at q1
            by_cases h6 : ar = wbr
            · rw [decide_eq_true h6] at q2
              have hx := hyp h5 h6
              subst hx
              clear hn1 hyp
              repeat' first | ((with_reducible refine Call.mono (c1 _ _) ?_); (intro rr h' hx); (obtain ⟨rfl, rfl⟩ := hx); (try simp only [go_sem, hD])) | ((with_reducible refine Call.mono (c2 _ _) ?_); (intro rr h' hx); (obtain ⟨rfl, rfl⟩ := hx); (try simp only [go_sem, hD])) | (refine SW.seq_k fun K hK => ?_) | (refine SW.block ?_) | ((first | refine SW.region ?_ | refine SW.regionW [12, 27] (id := 6) (Checked.mixed Tryz.checked) Go.Ab.zNP_1 (by kernel_rfl) ?_ | refine SW.cond ?_ | refine SW.skip ?_ | refine SW.ret ?_ | refine ⟨_, q1, ?_⟩ | refine ⟨_, q2, ?_⟩ | (refine allF_i fun b hb => ?_; replace hD := And.intro hb hD; clear hb; try simp only [fresh_cons, fresh_nil, and_true, ne_eq, neF] at hD)); try simp only [Go.Ab.zNP_1, go_sem, hD, hli, ie, i0, w1, g2, g3, g4, g5, g6, z1, t1, t2, true_implies]) | (apply hK; clear hK K)
              all_goals
                refine ret_pure ?_; simp only [resL_tmp, resL_nil, tupOf, go_sem, hD]
            · rw [decide_eq_false h6] at q2
              have hn2 := hn1 fun h => h6 h.2
              clear hn1 hyp
              repeat' first | ((with_reducible refine Call.mono (c1 _ _) ?_); (intro rr h' hx); (obtain ⟨rfl, rfl⟩ := hx); (try simp only [go_sem, hD])) | ((with_reducible refine Call.mono (c2 _ _) ?_); (intro rr h' hx); (obtain ⟨rfl, rfl⟩ := hx); (try simp only [go_sem, hD])) | (refine SW.seq_k fun K hK => ?_) | (refine SW.block ?_) | ((first | refine SW.region ?_ | refine SW.regionW [12, 27] (id := 6) (Checked.mixed Tryz.checked) Go.Ab.zNP_1 (by kernel_rfl) ?_ | refine SW.cond ?_ | refine SW.skip ?_ | refine ⟨_, q1, ?_⟩ | refine ⟨_, q2, ?_⟩ | (refine allF_i fun b hb => ?_; replace hD := And.intro hb hD; clear hb; try simp only [fresh_cons, fresh_nil, and_true, ne_eq, neF] at hD)); try simp only [Go.Ab.zNP_1, go_sem, hD, hli, ie, i0, w1, g2, g3, g4, g5, g6, z1, t1, t2, true_implies]) | (apply hK; clear hK K)
              all_goals
                refine Rnd.sub (bl.length - (p + 1)) (by omega) ((hI _ _).2 ⟨p + 1, rfl, by omega, hn2, rfl⟩) (by repeat' (first | exact rfl | exact trivial | constructor))
          · rw [decide_eq_false h5] at q1
            have hn2 := hn1 fun h => h5 h.1
            clear hn1 hyp q2 c2
            repeat' first | ((with_reducible refine Call.mono (c1 _ _) ?_); (intro rr h' hx); (obtain ⟨rfl, rfl⟩ := hx); (try simp only [go_sem, hD])) | (refine SW.seq_k fun K hK => ?_) | (refine SW.block ?_) | ((first | refine SW.region ?_ | refine SW.regionW [12, 27] (id := 6) (Checked.mixed Tryz.checked) Go.Ab.zNP_1 (by kernel_rfl) ?_ | refine SW.cond ?_ | refine SW.skip ?_ | refine ⟨_, q1, ?_⟩ | (refine allF_i fun b hb => ?_; replace hD := And.intro hb hD; clear hb; try simp only [fresh_cons, fresh_nil, and_true, ne_eq, neF] at hD)); try simp only [Go.Ab.zNP_1, go_sem, hD, hli, ie, i0, w1, g2, g3, g4, g5, g6, z1, t1, t2, true_implies]) | (apply hK; clear hK K)
            all_goals
              refine Rnd.sub (bl.length - (p + 1)) (by omega) ((hI _ _).2 ⟨p + 1, rfl, by omega, hn2, rfl⟩) (by repeat' (first | exact rfl | exact trivial | constructor))
        · have hli : ¬ ((p : Nat) : Int) < (((bl.length) : Nat) : Int) := by omega
          have hx := hno fun j hj => hL j (by omega)
          subst hx
          repeat' first | (refine SW.seq_k fun K hK => ?_) | ((first | refine SW.region ?_ | refine SW.cond ?_ | refine SW.exit ?_ | refine SW.ret ?_); try simp only [go_sem, hD, hli]) | (apply hK; clear hK K) | (clear hK K; apply hK; clear hK K)
          refine ret_pure ?_; simp only [resL_tmp, resL_nil, tupOf, go_sem, hD]
      · have f3 : ¬ ((al.length : Nat) : Int) + 1 = ((bl.length : Nat) : Int) := by omega
        rw [decide_eq_false h3, Bool.false_and] at hX
        subst hX
        refine Call.enter' (N := 65) (rs := [.tmp 4]) Tryz.func51 rfl rfl rfl (by decide) rfl ?_; simp only [argT]; have hD : (0 : Nat) = 0 := rfl
        repeat' first | (refine SW.seq_k fun K hK => ?_) | ((first | refine SW.region ?_ | refine SW.cond ?_ | refine SW.ret ?_ | (refine allF_i fun b hb => ?_; replace hD := And.intro hb hD; clear hb; try simp only [fresh_cons, fresh_nil, and_true, ne_eq, neF] at hD)); try simp only [go_sem, hD, f1, f2, wl, f3, true_implies]) | (apply hK; clear hK K)
        all_goals
          refine ret_pure ?_; simp only [resL_tmp, resL_nil, tupOf, go_sem, hD]
    · have f2 : (at'.toList == bt.toList) = false := Bool.eq_false_iff.2 fun h => h2 (e2.1 h)
      rw [decide_eq_false h2, Bool.false_and] at hX
      subst hX
      refine Call.enter' (N := 65) (rs := [.tmp 4]) Tryz.func51 rfl rfl rfl (by decide) rfl ?_; simp only [argT]; have hD : (0 : Nat) = 0 := rfl
      repeat' first | (refine SW.seq_k fun K hK => ?_) | ((first | refine SW.region ?_ | refine SW.cond ?_ | refine SW.ret ?_ | (refine allF_i fun b hb => ?_; replace hD := And.intro hb hD; clear hb; try simp only [fresh_cons, fresh_nil, and_true, ne_eq, neF] at hD)); try simp only [go_sem, hD, f1, f2, true_implies]) | (apply hK; clear hK K)
      all_goals
        refine ret_pure ?_; simp only [resL_tmp, resL_nil, tupOf, go_sem, hD]
  · have f1 : (af.toList == bf.toList) = false := Bool.eq_false_iff.2 fun h => h1 (e1.1 h)
    rw [decide_eq_false h1, Bool.false_and] at hX
    subst hX
    refine Call.enter' (N := 65) (rs := [.tmp 4]) Tryz.func51 rfl rfl rfl (by decide) rfl ?_; simp only [argT]; have hD : (0 : Nat) = 0 := rfl
    repeat' first | (refine SW.seq_k fun K hK => ?_) | ((first | refine SW.region ?_ | refine SW.cond ?_ | refine SW.ret ?_ | (refine allF_i fun b hb => ?_; replace hD := And.intro hb hD; clear hb; try simp only [fresh_cons, fresh_nil, and_true, ne_eq, neF] at hD)); try simp only [go_sem, hD, f1, true_implies]) | (apply hK; clear hK K)
    all_goals
      refine ret_pure ?_; simp only [resL_tmp, resL_nil, tupOf, go_sem, hD]
end Go.Proofs.YtpidncgibgiidaaGreat
namespace Go.Ab.A15
open Go Go.Ab Go.Ab.A34
def maxP (L : List Dp) : List Dp := L.filter fun a => !(L.any fun b => shP a b)
def maxI (L : List Dp) (i : Nat) : List Dp := (L.take i).filter fun a => !(L.any fun b => shP a b)
theorem maxI_step {L : List Dp} {i : Nat} (h : i < L.length) : maxI L (i + 1) = maxI L i ++ if (L.any fun b => shP (L.getD i d0) b) = true then [] else [L.getD i d0] := by
  have g : L.getD i d0 = L[i] := by simp [List.getD_eq_getElem?_getD, h]
  unfold maxI
  rw [List.take_succ_eq_append_getElem h, List.filter_append, g]
  congr 1
  cases hb : (L.any fun b => shP L[i] b) <;> simp [hb]
theorem maxI_len (L : List Dp) (i : Nat) : (maxI L i).length ≤ i := by
  unfold maxI
  refine Nat.le_trans (List.length_filter_le _ _) ?_
  rw [List.length_take]; omega
structure Ok6 (d : Dp) : Prop where
  e : d.l.length = d.r.length
  l : d.l.length ≤ 10
end Go.Ab.A15
namespace Go.Proofs.YtpidncgibgiidaaGreat
open Go Go.Ab Go.Ab.A34 Go.Ab.A15 Go.Ab.A01
variable [Gl] [Tabs]
theorem max_f (a b : Dp) (ha : Ok6 a) (hb : Ok6 b) : PCall Tryz.prog 50 [DV b, .fp (dC a)] (SB (shP a b)) := by
  have c := shorter_p a b hb.e (by have := hb.l; omega) (by have := ha.l; omega) (by have := ha.l; have := ha.e; omega)
  generalize shP a b = z at *
  obtain ⟨af, al, at', ar⟩ := a
  obtain ⟨bf, bl, bt, br⟩ := b
  refine Call.enter' (N := 7) (rs := [.tmp 3]) Tryz.func50 rfl rfl rfl (by decide) rfl ?_; simp only [argT]; have hD : (0 : Nat) = 0 := rfl
  repeat' first | (refine SW.seq_k fun K hK => ?_) | ((first | refine SW.region ?_ | refine SW.ret ?_ | refine Call.of_pure (c) ?_ | (refine allF_i fun b hb => ?_; replace hD := And.intro hb hD; clear hb; try simp only [fresh_cons, fresh_nil, and_true, ne_eq, neF] at hD)); try simp only [go_sem, hD, true_implies]) | (apply hK; clear hK K)
  all_goals
    refine ret_pure ?_; simp only [resL_tmp, resL_nil, tupOf, go_sem, hD]
theorem maximal_p (db : List Tb) (hn : db.length ≤ 1000) (L : List Dp) (hL : L = allP db 6 0) (hLl : L.length ≤ 2000) (h6 : ∀ d ∈ L, Ok6 d) (hall : AllC db 6 12 [DB db, I64 (6 : Nat)]) : Ab.Call Tryz.prog 16 [DB db] [] (fun r h' => ∃ x, r = .tup [x, I64 0] ∧ Acc 4 x h' [] (maxP L).length (dCs (maxP L))) := by
  unfold AllC at hall
  rw [← hL] at hall
  clear hL
  have hcf := fun (a : Dp) (ha : Ok6 a) => contF_d 50 [.fp (dC a)] (fun b => shP a b) L (by omega) (fun b hb => max_f a b ha (h6 b hb))
  refine Call.enter' (N := 33) (rs := [.tmp 2, .tmp 3]) Tryz.func16 rfl rfl rfl (by decide) rfl ?_; simp only [argT]; have hD : (0 : Nat) = 0 := rfl
  repeat' first | ((with_reducible refine Call.mono (Call.frameN (h1 := []) hall) ?_); (intro rr h' hx); (obtain ⟨h1, rfl, ⟨x, rfl, hA⟩, hnd⟩ := hx); (refine stop_i ?_)) | (refine SW.seq_k fun K hK => ?_) | ((first | refine SW.region ?_ | (refine allF_i fun b hb => ?_; replace hD := And.intro hb hD; clear hb; try simp only [fresh_cons, fresh_nil, and_true, ne_eq, neF] at hD) | simp only [appK, appOsK]); try simp only [go_sem, hD, true_implies]) | (apply hK; clear hK K)
  obtain ⟨xb, rfl⟩ : ∃ x, x = b := ⟨_, rfl⟩
  refine ⟨?_⟩
  try simp only [go_sem, hD]
  (first | apply hK | (clear hK K; apply hK) | (clear hK K; clear hK K; apply hK)); clear hK K
  refine Ab.SW.le ((St.le_acc_fl (i := 4) rfl (Acc.fr hA hnd) (dpF L) (fun j hj => fC_at (enc := dC) (k := 4) (fun _ => rfl) d0 L j hj)).trans (St.le_drop.trans (St.le_sub (l := [(4, DpL L), (5, I64 0)]) (by repeat' (first | exact rfl | exact trivial | constructor))))) ?_
  clear hA hnd hall hD
  have hD : (0 : Nat) = 0 := rfl
  repeat' first | (refine SW.seq_k fun K hK => ?_) | ((first | refine SW.region ?_ | refine SW.cond ?_ | refine SW.skip ?_); try simp only [go_sem, hD, true_implies]) | (apply hK; clear hK K)
  refine SW.block ?_
  obtain ⟨I, hI⟩ : ∃ I : Nat → St → Prop, ∀ k S, I k S ↔ (∃ (i : Nat) (y : SV) (hh : Heap), k = L.length - i ∧ i ≤ L.length ∧ Acc 4 y hh [] (maxI L i).length (dCs (maxI L i)) ∧ S = ⟨[(4, DpL L), (6, y), (17, DpL L), (18, I64 L.length), (19, I64 i)], hh⟩) := ⟨fun k S => _, fun _ _ => Iff.rfl⟩
  refine SW.loop' I (L.length) ((hI _ _).2 ⟨0, SN, [], rfl, Nat.zero_le _, .nil 4 [], rfl⟩) (by repeat' (first | exact rfl | exact trivial | constructor)) ?_
  intro k S hIn
  obtain ⟨i, y, hh, rfl, hi, hA2, rfl⟩ := (hI _ _).1 hIn
  clear hIn
  have ie : ((i : Nat) : Int).toNat = i := Int.toNat_natCast _
  have i0 : (0 : Int) ≤ ((i : Nat) : Int) := by omega
  by_cases hlt : i < L.length
  · have hli : ((i : Nat) : Int) < (((L.length) : Nat) : Int) := by omega
    have w1 : IntKind.i64.wrap ((i : Int) + 1) = ((i + 1 : Nat) : Int) := by rw [i64_wrap (by omega) (by omega)]; omega
    have fi : dpF L i = dC (L.getD i d0) := rfl
    have hst := maxI_step hlt
    have hml := maxI_len L i
    have cf := hcf _ (h6 _ (getD_mem' d0 hlt))
    have hsn := dCs_snoc (maxI L i) (L.getD i d0)
    generalize (L.any fun b => shP (L.getD i d0) b) = z at *
    generalize L.getD i d0 = d at *
    generalize maxI L i = M at *
    generalize hM2 : maxI L (i + 1) = M2 at *
    obtain ⟨df, dl, dt, dr⟩ := d
    have hm1 : (M.length + 1) * 80 ≤ 140737488355328 := by omega
    have hm2 : M.length + 1 ≤ 140737488355328 := by omega
    cases z with
    | true =>
      rw [if_pos rfl, List.append_nil] at hst
      subst hst
      repeat' first | ((refine Ab.SW.le (St.le_freezeP (i := 8) (n := 4) rfl (by rw [find_cons, if_pos rfl]) (by exact Nat.le_refl 4)) ?_); (rw [del_head]); (simp only [getN, Blk.get])) | (refine SW.seq_k fun K hK => ?_) | (refine SW.block ?_) | ((first | refine SW.region ?_ | refine SW.cond ?_ | refine SW.skip ?_ | refine Call.of_pure (cf) ?_ | (refine allF_i fun b hb => ?_; replace hD := And.intro hb hD; clear hb; try simp only [fresh_cons, fresh_nil, and_true, ne_eq, neF] at hD)); try simp only [go_sem, hD, hli, ie, i0, w1, fi, true_implies]) | (apply hK; clear hK K)
      refine Rnd.sub (L.length - (i + 1)) (by omega) ((hI _ _).2 ⟨i + 1, y, hh, rfl, by omega, by rw [hM2]; exact hA2, rfl⟩) (by repeat' (first | exact rfl | exact trivial | constructor))
    | false =>
      rw [if_neg (by simp)] at hst
      repeat' first | ((refine Ab.SW.le (St.le_freezeP (i := 8) (n := 4) rfl (by rw [find_cons, if_pos rfl]) (by exact Nat.le_refl 4)) ?_); (rw [del_head]); (simp only [getN, Blk.get])) | ((with_reducible refine appK_acc hA2 ?_ ?_ ?_ ?_ ?_ ?_ hm1 hm2 ?_); (simp [hD]); (rfl); (rfl); (rfl); (exact Nat.succ_pos _); (rfl); (intro x3 b3 blk3 f1 f2 f3 f4 f5 f6 h3 hh3); (obtain ⟨h4, hA4, hle4⟩ := Acc.after f1 f4 f5 f6 hh3); (clear f1 f2 f3 f4 f5 f6 hh3); (try simp only [go_sem, hD])) | (refine SW.seq_k fun K hK => ?_) | (refine SW.block ?_) | ((first | refine SW.region ?_ | refine SW.cond ?_ | refine SW.skip ?_ | refine Call.of_pure (cf) ?_ | (refine allF_i fun b hb => ?_; replace hD := And.intro hb hD; clear hb; try simp only [fresh_cons, fresh_nil, and_true, ne_eq, neF] at hD)); try simp only [go_sem, hD, hli, ie, i0, w1, fi, true_implies]) | (apply hK; clear hK K)
      refine Rnd.le (hle4 _) ?_
      refine Rnd.sub (L.length - (i + 1)) (by omega) ((hI _ _).2 ⟨i + 1, x3, h4, rfl, by omega, by rw [hM2, hst, hsn, List.length_append]; exact hA4, rfl⟩) (by repeat' (first | exact rfl | exact trivial | constructor))
  · have hli : ¬ ((i : Nat) : Int) < (((L.length) : Nat) : Int) := by omega
    obtain rfl : i = L.length := by omega
    have hmm : maxI L L.length = maxP L := by unfold maxI maxP; rw [List.take_length]
    rw [hmm] at hA2
    generalize maxP L = M at *
    repeat' first | (refine SW.seq_k fun K hK => ?_) | ((first | refine SW.region ?_ | refine SW.cond ?_ | refine SW.exit ?_ | refine SW.ret ?_); try simp only [go_sem, hD, hli, true_implies]) | (apply hK; clear hK K) | (clear hK K; apply hK; clear hK K)
    refine retQ_le (fun M w0 D N a w r => r) ?_
    simp only [resL_tmp, resL_nil, tupOf, go_sem, hD]
    exact ⟨y, rfl, hA2⟩
end Go.Proofs.YtpidncgibgiidaaGreat
namespace Go.Ab.A15
open Go Go.Ab Go.Ab.A34
theorem posF_find (p : Dp → Bool) : ∀ (l : List Dp) (k : Nat), (posF p k l = -1 ∧ ∀ x ∈ l, p x = false) ∨ ∃ n, n < l.length ∧ posF p k l = ((k + n : Nat) : Int) ∧ p (l.getD n d0) = true ∧ ∀ x ∈ l.take n, p x = false
  | [], k => .inl ⟨rfl, fun x hx => by cases hx⟩
  | y :: l, k => by
    unfold posF
    by_cases h : p y = true
    · rw [if_pos h]
      exact .inr ⟨0, by simp, rfl, h, fun x hx => by simp at hx⟩
    · rw [if_neg h]
      rcases posF_find p l (k + 1) with ⟨h1, h2⟩ | ⟨n, h1, h2, h3, h4⟩
      · refine .inl ⟨h1, fun x hx => ?_⟩
        rcases List.mem_cons.1 hx with rfl | hx
        · exact Bool.eq_false_iff.2 h
        · exact h2 x hx
      · refine .inr ⟨n + 1, by rw [List.length_cons]; omega, by rw [h2]; congr 1; omega, h3, fun x hx => ?_⟩
        rw [List.take_succ_cons] at hx
        rcases List.mem_cons.1 hx with rfl | hx
        · exact Bool.eq_false_iff.2 h
        · exact h4 x hx
structure Cpt (p : Dp → Bool) (l e : List Dp) (i j : Nat) : Prop where
  len : e.length = l.length
  lt : i < j
  le : j ≤ l.length
  keep : e.take i = (l.take j).filter fun x => !(p x)
  rest : e.drop j = l.drop j
theorem Cpt.start {p : Dp → Bool} {l : List Dp} {n : Nat} (h1 : n < l.length) (h2 : p (l.getD n d0) = true) (h3 : ∀ x ∈ l.take n, p x = false) : Cpt p l l n (n + 1) where
  len := rfl
  lt := by omega
  le := by omega
  keep := by
    have g : l.getD n d0 = l[n] := by simp [List.getD_eq_getElem?_getD, h1]
    rw [List.take_succ_eq_append_getElem h1, List.filter_append, ← g]
    rw [List.filter_eq_self.2 fun x hx => by rw [h3 x hx]; rfl]
    simp only [List.filter_cons, h2, List.filter_nil]
    simp
  rest := rfl
theorem Cpt.at {p : Dp → Bool} {l e : List Dp} {i j : Nat} (h : Cpt p l e i j) (hj : j < l.length) : e.getD j d0 = l.getD j d0 := by
  have := congrArg (fun z => z.getD 0 d0) h.rest
  simpa [List.getD_eq_getElem?_getD, List.getElem?_drop] using this
theorem Cpt.skip {p : Dp → Bool} {l e : List Dp} {i j : Nat} (h : Cpt p l e i j) (hj : j < l.length) (hp : p (l.getD j d0) = true) : Cpt p l e i (j + 1) where
  len := h.len
  lt := by have := h.lt; omega
  le := by omega
  keep := by
    have g : l.getD j d0 = l[j] := by simp [List.getD_eq_getElem?_getD, hj]
    rw [List.take_succ_eq_append_getElem hj, List.filter_append, ← h.keep, ← g]
    simp only [List.filter_cons, hp, List.filter_nil]
    simp
  rest := by
    have := congrArg (List.drop 1) h.rest
    rwa [List.drop_drop, List.drop_drop] at this
theorem Cpt.store {p : Dp → Bool} {l e : List Dp} {i j : Nat} (h : Cpt p l e i j) (hj : j < l.length) (hp : p (l.getD j d0) = false) : Cpt p l (e.set i (l.getD j d0)) (i + 1) (j + 1) where
  len := by rw [List.length_set]; exact h.len
  lt := by have := h.lt; omega
  le := by omega
  keep := by
    have g : l.getD j d0 = l[j] := by simp [List.getD_eq_getElem?_getD, hj]
    have hi : i < (e.set i (l.getD j d0)).length := by rw [List.length_set, h.len]; have := h.lt; omega
    rw [List.take_succ_eq_append_getElem hj, List.filter_append, ← h.keep, ← g]
    rw [List.take_succ_eq_append_getElem hi, List.take_set_of_le (Nat.le_refl _), List.getElem_set_self]
    simp only [List.filter_cons, hp, List.filter_nil]
    simp
  rest := by
    have h1 := congrArg (List.drop 1) h.rest
    rw [List.drop_drop, List.drop_drop] at h1
    rw [List.drop_set_of_lt (by have := h.lt; omega)]
    exact h1
theorem Cpt.done {p : Dp → Bool} {l e : List Dp} {i : Nat} (h : Cpt p l e i l.length) : e.take i = l.filter fun x => !(p x) := by
  rw [h.keep, List.take_length]
theorem dCs_take : ∀ (l : List Dp) (i : Nat), (dCs l).take (i * 4) = dCs (l.take i)
  | [], i => by simp [dCs]
  | a :: l, 0 => rfl
  | a :: l, i + 1 => by
    rw [show (i + 1) * 4 = i * 4 + 1 + 1 + 1 + 1 by omega]
    show Str a.f :: IL a.l :: Str a.t :: IL a.r :: (dCs l).take (i * 4) = Str a.f :: IL a.l :: Str a.t :: IL a.r :: dCs (l.take i)
    rw [dCs_take l i]
end Go.Ab.A15
namespace Go.Proofs.YtpidncgibgiidaaGreat
open Go Go.Ab Go.Ab.A34 Go.Ab.A15 Go.Ab.A01
variable [Gl] [Tabs]
theorem index_do (g : FuncId) (caps : List SV) (p : Dp → Bool) (l : List Dp) (b : Nat) (hl : l.length ≤ 1000000) (hg : ∀ d ∈ l, PCall Tryz.prog g (DV d :: caps) (SB (p d))) :
    Ab.Call Tryz.prog 52 [.os b 0 l.length 4, .fn (.func g) [] caps] [(b, .svs (dCs l))] (fun r h' => r = I64 (posF p 0 l) ∧ h' = [(b, .svs (dCs l))]) :=
  Call.lend (args := [.os b 0 l.length 4, .fn (.func g) [] caps]) (k := .svs (dCs l)) (off := 0) (sz := 4) 0 (dpF l) (by simp) rfl (by rw [find_cons, if_pos rfl]) (by rw [Blk.len_svs, dCs_len]; omega) (fun j hj => by
    exact dCs_get l hj) (indexF_d g caps p l hl hg)
theorem delete_o (g : FuncId) (caps : List SV) (p : Dp → Bool) (l : List Dp) (ob : Nat) (hl : l.length ≤ 1000000) (hg : ∀ d ∈ l, PCall Tryz.prog g (DV d :: caps) (SB (p d))) :
    Ab.Call Tryz.prog 56 [.os ob 0 l.length 4, .fn (.func g) [] caps] [(ob, .svs (dCs l))] (fun r h' => Acc 4 r h' [] (l.filter fun x => !(p x)).length (dCs (l.filter fun x => !(p x)))) := by
  have ix := index_do g caps p l ob hl hg
  rcases posF_find p l 0 with ⟨h1, h2⟩ | ⟨n, h1, h2, h3, h4⟩
  · rw [h1] at ix
    have hc0 : (dCs l).length = l.length * 4 := dCs_len l
    rw [List.filter_eq_self.2 fun x hx => by rw [h2 x hx]; rfl]
    refine Call.enter' (N := 42) (rs := [.tmp 4]) Tryz.func56 rfl rfl rfl (by decide) rfl ?_; simp only [argT]; have hD : (0 : Nat) = 0 := rfl
    repeat' first | ((with_reducible refine Call.mono ix ?_); (intro rr h' hx); (obtain ⟨rfl, rfl⟩ := hx); (try simp only [go_sem, hD])) | (refine SW.seq_k fun K hK => ?_) | ((first | refine SW.region ?_ | refine SW.cond ?_ | refine SW.ret ?_); try simp only [go_sem, hD, true_implies]) | (apply hK; clear hK K)
    refine retQ_le (fun M w0 D N a w r => r) ?_
    simp only [resL_tmp, resL_nil, tupOf, go_sem, hD]
    refine .inr ⟨ob, _, by simp [fresh_nil], rfl, (dCs_len _).symm, rfl, rfl, rfl⟩
  · rw [h2, Nat.zero_add] at ix
    have hs := Cpt.start h1 h3 h4
    have z0 : ¬ ((n : Nat) : Int) = -1 := by omega
    have w1 : IntKind.i64.wrap (((n : Nat) : Int) + 1) = ((n + 1 : Nat) : Int) := by rw [i64_wrap (by omega) (by omega)]; omega
    refine Call.enter' (N := 42) (rs := [.tmp 4]) Tryz.func56 rfl rfl rfl (by decide) rfl ?_; simp only [argT]; have hD : (0 : Nat) = 0 := rfl
    repeat' first | ((with_reducible refine Call.mono ix ?_); (intro rr h' hx); (obtain ⟨rfl, rfl⟩ := hx); (try simp only [go_sem, hD])) | (refine SW.seq_k fun K hK => ?_) | ((first | refine SW.region ?_ | refine SW.cond ?_ | refine SW.skip ?_); try simp only [go_sem, hD, z0, w1, true_implies]) | (apply hK; clear hK K)
    clear ix
    refine SW.block ?_
    have hzo : (Tryz.prog.info? 40).bind (fun i => i.zero) = some (.agg #[.string ⟨#[]⟩, .slice none 0 0, .string ⟨#[]⟩, .slice none 0 0]) := by kernel_rfl
    have hun : Tryz.prog.underlying 30 = some (.slice 40) := by kernel_rfl
    obtain ⟨I, hI⟩ : ∃ I : Nat → St → Prop, ∀ n S, I n S ↔ (∃ (j i : Nat) (e : List Dp), n = l.length - j ∧ Cpt p l e i j ∧
      S = ⟨[(0, .os ob 0 l.length 4), (1, .fn (.func g) [] caps), (5, I64 i), (6, I64 j)], [(ob, .svs (dCs e))]⟩) := ⟨fun n S => _, fun _ _ => Iff.rfl⟩
    refine SW.loop' I (l.length - (n + 1)) ((hI _ _).2 ⟨n + 1, n, l, rfl, hs, rfl⟩) (by repeat' (first | exact rfl | exact trivial | constructor)) ?_
    clear hs z0 w1 h1 h2 h3 h4
    intro kk S hIn
    obtain ⟨j, i, e, rfl, hc, rfl⟩ := (hI _ _).1 hIn
    clear hIn
    have hij := hc.lt
    have hjl := hc.le
    have hel := hc.len
    have hc0 : (dCs e).length = l.length * 4 := by rw [dCs_len, hel]
    by_cases hlt : j < l.length
    · have hli : ((j : Nat) : Int) < (((l.length) : Nat) : Int) := by omega
      have w1 : IntKind.i64.wrap ((j : Int) + 1) = ((j + 1 : Nat) : Int) := by rw [i64_wrap (by omega) (by omega)]; omega
      have ie : ((j : Nat) : Int).toNat = j := Int.toNat_natCast _
      have i0 : (0 : Int) ≤ ((j : Nat) : Int) := by omega
      have hat := hc.at hlt
      have cg := hg _ (getD_mem' d0 hlt)
      have hsk := hc.skip hlt
      have hst := hc.store hlt
      obtain ⟨g1, g2, g3, g4⟩ := dCs_g4 e j (by omega)
      rw [hat] at g1 g2 g3 g4
      have s1 := dCs_set e i (l.getD j d0) (by omega)
      have k1 : (0 : Int) ≤ ((i : Nat) : Int) := by omega
      have k2 : ((i : Nat) : Int) < ((l.length : Nat) : Int) := by omega
      have k5 : ((i : Nat) : Int).toNat = i := Int.toNat_natCast _
      have w3 : IntKind.i64.wrap (((i : Nat) : Int) + 1) = ((i + 1 : Nat) : Int) := by rw [i64_wrap (by omega) (by omega)]; omega
      clear hat
      generalize l.getD j d0 = v at *
      cases hpv : p v with
      | true =>
        have h5 := hsk hpv
        rw [hpv] at cg
        clear hsk hst s1
        obtain ⟨v1, v2, v3, v4⟩ := v
        simp only at g1 g2 g3 g4
        have hD : (0 : Nat) = 0 := rfl
        repeat' first | (refine SW.seq_k fun K hK => ?_) | ((first | refine SW.region ?_ | refine SW.cond ?_ | refine SW.skip ?_); try simp only [go_sem, hD, hli, ie, i0, w1, k1, k2, k5, w3, g1, g2, g3, g4, hc0, true_implies]) | (apply hK; clear hK K)
        refine SW.block ?_
        repeat' first | (with_reducible refine And.intro (by omega) ?_) | (refine SW.seq_k fun K hK => ?_) | ((first | refine SW.region ?_ | refine SW.cond ?_ | refine SW.skip ?_ | refine Call.of_pure (cg) ?_ | (refine allF_i fun b hb => ?_; replace hD := And.intro hb hD; clear hb; try simp only [fresh_cons, fresh_nil, and_true, ne_eq, neF] at hD)); try simp only [go_sem, hD, hli, ie, i0, w1, k1, k2, k5, w3, g1, g2, g3, g4, hc0, true_implies]) | (apply hK; clear hK K)
        refine Rnd.le (St.le_pick [(ob, .svs (dCs e))] (fun x hx => by rw [List.mem_singleton.1 hx]; exact List.mem_cons_of_mem _ List.mem_cons_self) (by simp)) ?_
        refine Rnd.sub (l.length - (j + 1)) (by omega) ((hI _ _).2 ⟨j + 1, i, e, rfl, h5, rfl⟩) (by repeat' (first | exact rfl | exact trivial | constructor))
      | false =>
        have h5 := hst hpv
        rw [hpv] at cg
        clear hsk hst
        obtain ⟨v1, v2, v3, v4⟩ := v
        simp only at g1 g2 g3 g4 s1
        have hD : (0 : Nat) = 0 := rfl
        repeat' first | (refine SW.seq_k fun K hK => ?_) | ((first | refine SW.region ?_ | refine SW.cond ?_ | refine SW.skip ?_); try simp only [go_sem, hD, hli, ie, i0, w1, k1, k2, k5, w3, g1, g2, g3, g4, hc0, true_implies]) | (apply hK; clear hK K)
        refine SW.block ?_
        repeat' first | (with_reducible refine And.intro (by omega) ?_) | (refine SW.seq_k fun K hK => ?_) | ((first | refine SW.region ?_ | refine SW.cond ?_ | refine Call.of_pure (cg) ?_ | (refine allF_i fun b hb => ?_; replace hD := And.intro hb hD; clear hb; try simp only [fresh_cons, fresh_nil, and_true, ne_eq, neF] at hD)); try simp only [go_sem, hD, hli, ie, i0, w1, k1, k2, k5, w3, g1, g2, g3, g4, hc0, true_implies]) | (apply hK; clear hK K)
        rw [s1]
        refine Rnd.le (St.le_pick [(ob, .svs (dCs (e.set i ⟨v1, v2, v3, v4⟩)))] (fun x hx => by rw [List.mem_singleton.1 hx]; exact List.mem_cons_of_mem _ List.mem_cons_self) (by simp)) ?_
        refine Rnd.sub (l.length - (j + 1)) (by omega) ((hI _ _).2 ⟨j + 1, i + 1, _, rfl, h5, rfl⟩) (by repeat' (first | exact rfl | exact trivial | constructor))
    · have hli : ¬ ((j : Nat) : Int) < (((l.length) : Nat) : Int) := by omega
      obtain rfl : j = l.length := by omega
      have hdn := hc.done
      have htk := dCs_take e i
      have hFl : (l.filter fun x => !(p x)).length = i := by rw [← hdn, List.length_take]; omega
      rw [hdn] at htk
      generalize (l.filter fun x => !(p x)) = F at *
      have k1 : (0 : Int) ≤ ((i : Nat) : Int) := by omega
      have k2 : ((i : Nat) : Int) ≤ ((l.length : Nat) : Int) := by omega
      have k5 : ((i : Nat) : Int).toNat = i := Int.toNat_natCast _
      have hD : (0 : Nat) = 0 := rfl
      repeat' first | ((refine Ab.SW.region_clr (l := [_, _, _]) rfl rfl rfl hun hzo rfl 4 rfl ?_; simp only [go_sem, hD])) | (with_reducible refine And.intro (by omega) ?_) | (refine SW.seq_k fun K hK => ?_) | ((first | refine SW.region ?_ | refine SW.cond ?_ | refine SW.exit ?_); try simp only [go_sem, hD, hli, k1, k2, k5, hc0, true_implies]) | (apply hK; clear hK K) | (clear hK K; apply hK; clear hK K)
      have hsub : (((l.length : Nat) : Int) - ((i : Nat) : Int)).toNat = l.length - i := by omega
      refine .inr ⟨ob, i * 4, l.length - i, .svs (dCs e), ?_, by rw [find_cons, if_pos rfl], ?_, rfl, fun k' hk' hkM => ?_⟩
      · rw [← hsub]; rfl
      · rw [Blk.len_svs, hc0]; omega
      have hk2 : k'.cells.take (i * 4) = dCs F := by rw [hk']; exact htk
      clear hk' htk hdn
      rw [upd_cons, if_pos rfl]
      show thn K _ Exit.normal _
      try simp only [go_sem, hD]
      (first | apply hK | (clear hK K; apply hK) | (clear hK K; clear hK K; apply hK)); clear hK K
      refine Ab.SW.le (St.le_cut (b := ob) (k := k') (k' := .svs (dCs F)) (i * 4) (by rw [find_cons, if_pos rfl]) hk2.symm hkM rfl) ?_
      rw [upd_cons, if_pos rfl]
      repeat' first | (refine SW.seq_k fun K hK => ?_) | ((first | refine SW.region ?_ | refine SW.ret ?_); try simp only [go_sem, hD, hli, k1, k2, k5, hc0, true_implies]) | (apply hK; clear hK K)
      refine retQ_le (fun M w0 D N a w r => r) ?_
      simp only [resL_tmp, resL_nil, tupOf, go_sem, hD]
      subst hFl
      refine .inr ⟨ob, _, by simp [fresh_nil], rfl, (dCs_len _).symm, rfl, rfl, rfl⟩
end Go.Proofs.YtpidncgibgiidaaGreat
namespace Go.Ab.A15
open Go Go.Ab Go.Ab.A34 Go.Ab.A01
structure CptV (l e : List LV) (i j : Nat) : Prop where
  len : e.length = l.length
  lt : i < j
  le : j ≤ l.length
  keep : e.take i = cptI l j
  rest : e.drop (j - 1) = l.drop (j - 1)
theorem newV_of {l : List LV} {k : Nat} {z : Bool} (h0 : 0 < k) (h : decide (lexV (l.getD k []) (l.getD (k - 1) []) = 0) = z) : newV l k = !z := by
  unfold newV
  rw [decide_eq_false (by omega), Bool.false_or, h]
theorem cptI_next {l : List LV} {k : Nat} (hk : k < l.length) (h : cptI l k = l.take k) (hn : newV l k = true) : cptI l (k + 1) = l.take (k + 1) := by
  unfold cptI
  rw [if_pos hn, takeV_succ hk, h]
theorem cptI_one {l : List LV} (h : 0 < l.length) : cptI l 1 = l.take 1 := by
  unfold cptI cptI
  rw [takeV_succ h]
  rfl
theorem CptV.start {l : List LV} {k : Nat} (h0 : 0 < k) (hk : k < l.length) (h : cptI l k = l.take k) (hn : newV l k = false) : CptV l l k (k + 1) where
  len := rfl
  lt := by omega
  le := by omega
  keep := by
    unfold cptI
    rw [hn, h]
    simp
  rest := rfl
theorem CptV.at {l e : List LV} {i j p : Nat} (h : CptV l e i j) (h1 : j - 1 ≤ p) (hp : p < l.length) : e.getD p [] = l.getD p [] := by
  have := congrArg (fun z => z.getD (p - (j - 1)) []) h.rest
  simp only [List.getD_eq_getElem?_getD, List.getElem?_drop] at this
  rw [show j - 1 + (p - (j - 1)) = p by omega] at this
  simpa [List.getD_eq_getElem?_getD] using this
theorem CptV.skip {l e : List LV} {i j : Nat} (h : CptV l e i j) (hj : j < l.length) (hn : newV l j = false) : CptV l e i (j + 1) where
  len := h.len
  lt := by have := h.lt; omega
  le := by omega
  keep := by
    unfold cptI
    rw [hn, h.keep]
    simp
  rest := by
    have := congrArg (List.drop 1) h.rest
    have h2 := h.lt
    rwa [List.drop_drop, List.drop_drop, show j - 1 + 1 = j + 1 - 1 by omega] at this
theorem CptV.store {l e : List LV} {i j : Nat} (h : CptV l e i j) (hj : j < l.length) (hn : newV l j = true) : CptV l (e.set i (l.getD j [])) (i + 1) (j + 1) where
  len := by rw [List.length_set]; exact h.len
  lt := by have := h.lt; omega
  le := by omega
  keep := by
    have hi : i < (e.set i (l.getD j [])).length := by rw [List.length_set, h.len]; have := h.lt; omega
    unfold cptI
    rw [if_pos hn, ← h.keep]
    rw [List.take_succ_eq_append_getElem hi, List.take_set_of_le (Nat.le_refl _), List.getElem_set_self]
  rest := by
    have h1 := congrArg (List.drop 1) h.rest
    have h2 := h.lt
    rw [List.drop_drop, List.drop_drop, show j - 1 + 1 = j + 1 - 1 by omega] at h1
    rw [List.drop_set_of_lt (by omega)]
    exact h1
end Go.Ab.A15
def Go.Ab.zUF_1 : Go.Ab.OZ := (.one 0 [0, 10] (.one 1 [1, 3, 4, 10] (.one 2 [2, 3, 4, 10] (.one 3 [3, 4, 10] (.one 4 [4, 10] (.one 5 [5, 8, 9, 10] (.one 6 [6, 7, 8, 9, 10] (.one 7 [7, 8, 9, 10] (.one 8 [8, 9, 10] (.one 9 [9, 10] (.one 10 [10] .done)))))))))))
def Go.Ab.zUF_2 : Go.Ab.OZ := (.one 0 [0, 10, 11] (.one 1 [1, 3, 4, 10, 11] (.one 2 [2, 3, 4, 10, 11] (.one 3 [3, 4, 10, 11] (.one 4 [4, 10, 11] (.one 5 [5, 8, 9, 10, 11] (.one 6 [6, 7, 8, 9, 10, 11] (.one 7 [7, 8, 9, 10, 11] (.one 8 [8, 9, 10, 11] (.one 9 [9, 10, 11] (.one 10 [10, 11] (.one 11 [11] .done))))))))))))
namespace Go.Proofs.YtpidncgibgiidaaGreat
open Go Go.Ab Go.Ab.A34 Go.Ab.A15 Go.Ab.A01
variable [Gl] [Tabs]
abbrev eqF : SV := .fn (.func 77) [] [.fp [.fn (.func 72) [] []]]
theorem compact_n : PCall Tryz.prog 76 [SN, eqF] SN := by
  refine Call.enter' (N := 66) (rs := [.tmp 4]) Tryz.func76 rfl rfl rfl (by decide) rfl ?_; simp only [argT]; have hD : (0 : Nat) = 0 := rfl
  repeat' first | (refine SW.seq_k fun K hK => ?_) | ((first | refine SW.region ?_ | refine SW.cond ?_ | refine SW.ret ?_); try simp only [go_sem, hD, true_implies]) | (apply hK; clear hK K)
  refine ret_pure ?_; simp only [resL_tmp, resL_nil, tupOf, go_sem, hD]
theorem compact_v (l : List LV) (ob : Nat) (h0 : l ≠ []) (hl : l.length ≤ 1000000) (hs : ∀ r ∈ l, r.length ≤ 1000) :
    Ab.Call Tryz.prog 76 [.os ob 0 l.length 1, eqF] [(ob, .svs (lvC l))] (fun r h' => Acc 1 r h' [] (cptI l l.length).length (lvC (cptI l l.length))) := by
  have hlp : 0 < l.length := List.length_pos_iff.2 h0
  have ce := fun (x y : LV) (hx : x ∈ l) (hy : y ∈ l) => ord_e x y (hs x hx) (hs y hy)
  have hc0 : (lvC l).length = l.length := lvC_len l
  by_cases h2 : l.length < 2
  · have h2i : ((l.length : Nat) : Int) < 2 := by omega
    have e1 : l.length = 1 := by omega
    have e2 : cptI l l.length = l := by rw [e1, cptI_one hlp, ← e1, List.take_length]
    rw [e2]
    refine Call.enter' (N := 66) (rs := [.tmp 4]) Tryz.func76 rfl rfl rfl (by decide) rfl ?_; simp only [argT]; have hD : (0 : Nat) = 0 := rfl
    repeat' first | (refine SW.seq_k fun K hK => ?_) | ((first | refine SW.region ?_ | refine SW.cond ?_ | refine SW.ret ?_); try simp only [go_sem, hD, h2i, true_implies]) | (apply hK; clear hK K)
    refine retQ_le (fun M w0 D N a w r => r) ?_
    simp only [resL_tmp, resL_nil, tupOf, go_sem, hD]
    refine .inr ⟨ob, _, by simp [fresh_nil], rfl, by rw [lvC_len, Nat.mul_one], rfl, rfl, rfl⟩
  · have h2i : ¬ ((l.length : Nat) : Int) < 2 := by omega
    obtain ⟨R, hR⟩ : ∃ R, R = cptI l l.length := ⟨_, rfl⟩
    rw [← hR]
    refine Call.enter' (N := 66) (rs := [.tmp 4]) Tryz.func76 rfl rfl rfl (by decide) rfl ?_; simp only [argT]; have hD : (0 : Nat) = 0 := rfl
    repeat' first | (refine SW.seq_k fun K hK => ?_) | ((first | refine SW.region ?_ | refine SW.cond ?_ | refine SW.skip ?_); try simp only [go_sem, hD, h2i, true_implies]) | (apply hK; clear hK K)
    refine SW.block ?_
    have hzo : (Tryz.prog.info? 76).bind (fun i => i.zero) = some (.slice none 0 0) := by kernel_rfl
    have hun : Tryz.prog.underlying 64 = some (.slice 76) := by kernel_rfl
    obtain ⟨I, hI⟩ : ∃ I : Nat → St → Prop, ∀ n S, I n S ↔ (∃ (i : Nat), n = l.length - i ∧ 0 < i ∧ i ≤ l.length ∧ cptI l i = l.take i ∧
      S = ⟨[(0, .os ob 0 l.length 1), (1, eqF), (5, I64 i)], [(ob, .svs (lvC l))]⟩) := ⟨fun n S => _, fun _ _ => Iff.rfl⟩
    refine SW.loop' I (l.length - 1) ((hI _ _).2 ⟨1, rfl, by omega, by omega, cptI_one hlp, rfl⟩) (by repeat' (first | exact rfl | exact trivial | constructor)) ?_
    intro kk S hIn
    obtain ⟨i, rfl, hi0, hil, hct, rfl⟩ := (hI _ _).1 hIn
    clear hIn
    have ie : ((i : Nat) : Int).toNat = i := Int.toNat_natCast _
    have i0 : (0 : Int) ≤ ((i : Nat) : Int) := by omega
    by_cases hlt : i < l.length
    · have hli : ((i : Nat) : Int) < (((l.length) : Nat) : Int) := by omega
      have w1 : IntKind.i64.wrap ((i : Int) + 1) = ((i + 1 : Nat) : Int) := by rw [i64_wrap (by omega) (by omega)]; omega
      have w2 : IntKind.i64.wrap (((i : Nat) : Int) - 1) = ((i - 1 : Nat) : Int) := by rw [i64_wrap (by omega) (by omega)]; omega
      have ie2 : ((i - 1 : Nat) : Int).toNat = i - 1 := Int.toNat_natCast _
      have i02 : (0 : Int) ≤ ((i - 1 : Nat) : Int) := by omega
      have il2 : ((i - 1 : Nat) : Int) < ((l.length : Nat) : Int) := by omega
      have g1 := lvC_get hlt
      have g2 := lvC_get (show i - 1 < l.length by omega)
      have cc := ce _ _ (getD_mem' [] hlt) (getD_mem' [] (show i - 1 < l.length by omega))
      have z1 : 0 + i * 1 = i := by omega
      have z2 : 0 + (i - 1) * 1 = i - 1 := by omega
      generalize hz : decide (lexV (l.getD i []) (l.getD (i - 1) []) = 0) = z at *
      have hnw := newV_of hi0 hz
      cases z with
      | false =>
        have hnx := cptI_next hlt hct hnw
        have hD : (0 : Nat) = 0 := rfl
        repeat' first | (with_reducible refine And.intro (by omega) ?_) | (refine SW.seq_k fun K hK => ?_) | (refine SW.block ?_) | ((first | refine SW.region ?_ | refine SW.regionZ (id := 6) (Checked.mixed Tryz.checked) Go.Ab.zUF_1 (by kernel_rfl) ?_ | refine SW.cond ?_ | refine SW.skip ?_ | refine ⟨_, cc, ?_⟩); try simp only [Go.Ab.zUF_1, go_sem, hD, hli, ie, i0, w1, w2, ie2, i02, il2, g1, g2, z1, z2, hc0, true_implies]) | (apply hK; clear hK K)
        all_goals
          refine Rnd.sub (l.length - (i + 1)) (by omega) ((hI _ _).2 ⟨i + 1, rfl, by omega, by omega, hnx, rfl⟩) (by repeat' (first | exact rfl | exact trivial | constructor))
      | true =>
        have hst := CptV.start hi0 hlt hct hnw
        have hD : (0 : Nat) = 0 := rfl
        have s1 : (((l.length : Nat) : Int) - ((i : Nat) : Int)).toNat = l.length - i := by omega
        have s2 : ((i : Nat) : Int) ≤ ((l.length : Nat) : Int) := by omega
        have s3 : ((l.length - i : Nat) : Int) = ((l.length - i : Nat) : Int) := rfl
        clear hI
        repeat' first | (refine SW.seq_k fun K hK => ?_) | ((first | refine SW.region ?_ | refine SW.cond ?_ | refine SW.skip ?_); try simp only [go_sem, hD, hli, true_implies]) | (apply hK; clear hK K)
        refine SW.block ?_
        repeat' first | (with_reducible refine And.intro (by omega) ?_) | (refine SW.seq_k fun K hK => ?_) | ((first | refine SW.region ?_ | refine SW.regionZ (id := 6) (Checked.mixed Tryz.checked) Go.Ab.zUF_1 (by kernel_rfl) ?_ | refine SW.cond ?_ | refine ⟨_, cc, ?_⟩); try simp only [Go.Ab.zUF_1, go_sem, hD, hli, ie, i0, w1, w2, ie2, i02, il2, g1, g2, z1, z2, s1, s2, hc0, true_implies]) | (apply hK; clear hK K)
        refine Ab.SW.le (St.le_sub (l := [(0, .os ob 0 l.length 1), (1, eqF), (5, I64 i), (6, .os ob i (l.length - i) 1), (7, I64 (1 : Nat))]) (by repeat' (first | exact rfl | exact trivial | constructor))) ?_
        clear cc g1 g2 w2 ie2 i02 il2 z2 s1 s2 hz w1 hli ie i0 hnw
        refine SW.block ?_
        obtain ⟨J, hJ⟩ : ∃ J : Nat → St → Prop, ∀ n S, J n S ↔ (∃ (p m : Nat) (e : List LV), n = (l.length - i) - p ∧ 0 < p ∧ p ≤ l.length - i ∧ CptV l e m (i + p) ∧
          S = ⟨[(0, .os ob 0 l.length 1), (1, eqF), (5, I64 m), (6, .os ob i (l.length - i) 1), (7, I64 p)], [(ob, .svs (lvC e))]⟩) := ⟨fun n S => _, fun _ _ => Iff.rfl⟩
        refine SW.loop' J (l.length - i - 1) ((hJ _ _).2 ⟨1, i, l, rfl, by omega, by omega, hst, rfl⟩) (by repeat' (first | exact rfl | exact trivial | constructor)) ?_
        clear hst hct
        intro kk S hIn
        obtain ⟨p, m, e, rfl, hp0, hpl, hc, rfl⟩ := (hJ _ _).1 hIn
        clear hIn
        have hmj := hc.lt
        have hel := hc.len
        have hc1 : (lvC e).length = l.length := by rw [lvC_len, hel]
        have ie : ((p : Nat) : Int).toNat = p := Int.toNat_natCast _
        have i0 : (0 : Int) ≤ ((p : Nat) : Int) := by omega
        by_cases hlp : p < l.length - i
        · have hli : ((p : Nat) : Int) < (((l.length - i) : Nat) : Int) := by omega
          have w1 : IntKind.i64.wrap ((p : Int) + 1) = ((p + 1 : Nat) : Int) := by rw [i64_wrap (by omega) (by omega)]; omega
          have hj : i + p < l.length := by omega
          have w2 : IntKind.i64.wrap (((p : Nat) : Int) - 1) = ((p - 1 : Nat) : Int) := by rw [i64_wrap (by omega) (by omega)]; omega
          have ie2 : ((p - 1 : Nat) : Int).toNat = p - 1 := Int.toNat_natCast _
          have i02 : (0 : Int) ≤ ((p - 1 : Nat) : Int) := by omega
          have il2 : ((p - 1 : Nat) : Int) < ((l.length - i : Nat) : Int) := by omega
          have g1 := lvC_get (L := e) (show i + p < e.length by omega)
          have g2 := lvC_get (L := e) (show i + (p - 1) < e.length by omega)
          rw [hc.at (by omega) hj] at g1
          rw [hc.at (by omega) (by omega)] at g2
          have cc := ce _ _ (getD_mem' [] hj) (getD_mem' [] (show i + (p - 1) < l.length by omega))
          have z1 : i + p * 1 = i + p := by omega
          have z2 : i + (p - 1) * 1 = i + (p - 1) := by omega
          have k1 : (0 : Int) ≤ ((m : Nat) : Int) := by omega
          have k2 : ((m : Nat) : Int) < ((l.length : Nat) : Int) := by omega
          have k5 : ((m : Nat) : Int).toNat = m := Int.toNat_natCast _
          have w3 : IntKind.i64.wrap (((m : Nat) : Int) + 1) = ((m + 1 : Nat) : Int) := by rw [i64_wrap (by omega) (by omega)]; omega
          have zm : 0 + m * 1 = m := by omega
          have s1 := lvC_set e m (l.getD (i + p) [])
          have hnw0 := fun z => newV_of (l := l) (k := i + p) (z := z) (by omega)
          rw [show i + p - 1 = i + (p - 1) by omega] at hnw0
          have hsk := hc.skip hj
          have hst := hc.store hj
          generalize l.getD (i + p) [] = v at *
          generalize l.getD (i + (p - 1)) [] = u at *
          generalize hz : decide (lexV v u = 0) = z at *
          have hnw := hnw0 z rfl
          clear hnw0
          cases z with
          | true =>
            have h5 := hsk hnw
            clear hsk hst
            have hD : (0 : Nat) = 0 := rfl
            repeat' first | (refine SW.seq_k fun K hK => ?_) | ((first | refine SW.region ?_ | refine SW.cond ?_ | refine SW.skip ?_); try simp only [go_sem, hD, hli, true_implies]) | (apply hK; clear hK K)
            refine SW.block ?_
            repeat' first | (with_reducible refine And.intro (by omega) ?_) | (refine SW.seq_k fun K hK => ?_) | ((first | refine SW.region ?_ | refine SW.regionZ (id := 11) (Checked.mixed Tryz.checked) Go.Ab.zUF_2 (by kernel_rfl) ?_ | refine SW.cond ?_ | refine SW.skip ?_ | refine ⟨_, cc, ?_⟩); try simp only [Go.Ab.zUF_2, go_sem, hD, hli, ie, i0, w1, w2, ie2, i02, il2, g1, g2, z1, z2, hc1, true_implies]) | (apply hK; clear hK K)
            all_goals
              refine Rnd.sub (l.length - i - (p + 1)) (by omega) ((hJ _ _).2 ⟨p + 1, m, e, rfl, by omega, by omega, h5, rfl⟩) (by repeat' (first | exact rfl | exact trivial | constructor))
          | false =>
            have h5 := hst hnw
            clear hsk hst
            have hD : (0 : Nat) = 0 := rfl
            repeat' first | (refine SW.seq_k fun K hK => ?_) | ((first | refine SW.region ?_ | refine SW.cond ?_ | refine SW.skip ?_); try simp only [go_sem, hD, hli, true_implies]) | (apply hK; clear hK K)
            refine SW.block ?_
            repeat' first | (with_reducible refine And.intro (by omega) ?_) | (refine SW.seq_k fun K hK => ?_) | ((first | refine SW.region ?_ | refine SW.regionZ (id := 11) (Checked.mixed Tryz.checked) Go.Ab.zUF_2 (by kernel_rfl) ?_ | refine SW.cond ?_ | refine ⟨_, cc, ?_⟩); try simp only [Go.Ab.zUF_2, go_sem, hD, hli, ie, i0, w1, w2, ie2, i02, il2, g1, g2, z1, z2, k1, k2, k5, w3, zm, s1, hc1, true_implies]) | (apply hK; clear hK K)
            all_goals
              refine Rnd.sub (l.length - i - (p + 1)) (by omega) ((hJ _ _).2 ⟨p + 1, m + 1, _, rfl, by omega, by omega, h5, rfl⟩) (by repeat' (first | exact rfl | exact trivial | constructor))
        · have hli : ¬ ((p : Nat) : Int) < (((l.length - i) : Nat) : Int) := by omega
          obtain rfl : p = l.length - i := by omega
          have hkp := hc.keep
          rw [show i + (l.length - i) = l.length by omega, ← hR] at hkp
          have htk := lvC_take e m
          have hFl : R.length = m := by rw [← hkp, List.length_take]; omega
          rw [hkp] at htk
          clear hR hc
          have k1 : (0 : Int) ≤ ((m : Nat) : Int) := by omega
          have k2 : ((m : Nat) : Int) ≤ ((l.length : Nat) : Int) := by omega
          have k5 : ((m : Nat) : Int).toNat = m := Int.toNat_natCast _
          have hD : (0 : Nat) = 0 := rfl
          repeat' first | ((refine Ab.SW.region_clr (l := [_, _, _]) rfl rfl rfl hun hzo rfl 1 rfl ?_; simp only [go_sem, hD])) | (with_reducible refine And.intro (by omega) ?_) | (refine SW.seq_k fun K hK => ?_) | ((first | refine SW.region ?_ | refine SW.cond ?_ | refine SW.exit ?_); try simp only [go_sem, hD, hli, k1, k2, k5, hc1, true_implies]) | (apply hK; clear hK K) | (clear hK K; apply hK; clear hK K)
          have hsub : (((l.length : Nat) : Int) - ((m : Nat) : Int)).toNat = l.length - m := by omega
          refine .inr ⟨ob, m * 1, l.length - m, .svs (lvC e), ?_, by rw [find_cons, if_pos rfl], ?_, rfl, fun k' hk' hkM => ?_⟩
          · rw [← hsub, Nat.mul_one]; rfl
          · rw [Blk.len_svs, hc1]; omega
          have hk2 : k'.cells.take (m * 1) = lvC R := by rw [hk', Nat.mul_one]; exact htk
          clear hk' htk
          rw [upd_cons, if_pos rfl]
          show thn K _ Exit.normal _
          try simp only [go_sem, hD]
          (first | apply hK | (clear hK K; apply hK) | (clear hK K; clear hK K; apply hK)); clear hK K
          refine Ab.SW.le (St.le_cut (b := ob) (k := k') (k' := .svs (lvC R)) (m * 1) (by rw [find_cons, if_pos rfl]) hk2.symm hkM rfl) ?_
          rw [upd_cons, if_pos rfl]
          repeat' first | (refine SW.seq_k fun K hK => ?_) | ((first | refine SW.region ?_ | refine SW.ret ?_); try simp only [go_sem, hD, hli, k1, k2, k5, hc1, true_implies]) | (apply hK; clear hK K)
          refine retQ_le (fun M w0 D N a w r => r) ?_
          simp only [resL_tmp, resL_nil, tupOf, go_sem, hD]
          subst hFl
          refine .inr ⟨ob, _, by simp [fresh_nil], rfl, by rw [lvC_len, Nat.mul_one], rfl, rfl, rfl⟩
    · have hli : ¬ ((i : Nat) : Int) < (((l.length) : Nat) : Int) := by omega
      obtain rfl : i = l.length := by omega
      rw [List.take_length] at hct
      rw [hct] at hR
      subst hR
      have hD : (0 : Nat) = 0 := rfl
      repeat' first | (refine SW.seq_k fun K hK => ?_) | ((first | refine SW.region ?_ | refine SW.cond ?_ | refine SW.exit ?_ | refine SW.ret ?_); try simp only [go_sem, hD, hli, true_implies]) | (apply hK; clear hK K) | (clear hK K; apply hK; clear hK K)
      refine retQ_le (fun M w0 D N a w r => r) ?_
      simp only [resL_tmp, resL_nil, tupOf, go_sem, hD]
      refine .inr ⟨ob, _, by simp [fresh_nil], rfl, by rw [lvC_len, Nat.mul_one], rfl, rfl, rfl⟩
end Go.Proofs.YtpidncgibgiidaaGreat
namespace Go.Ab.A15
open Go Go.Ab Go.Ab.A34 Go.Ab.A01
theorem ordV_nil : ordV [] = [] := by
  unfold ordV
  rw [List.mergeSort_nil]
  rfl
def vlF (L : List LV) (i : Nat) : List SV := [VL (L.getD i [])]
abbrev VVL (L : List LV) : SV := .fl L.length 1 (vlF L)
theorem lvC_at {L : List LV} {j : Nat} (h : j < L.length) : vlF L j = ((lvC L).drop (j * 1)).take 1 := by
  have hl : j < (lvC L).length := by rw [lvC_len]; exact h
  rw [Nat.mul_one, List.drop_eq_getElem_cons hl, List.take_succ_cons, List.take_zero]
  have e : L.getD j [] = L[j] := by simp [List.getD_eq_getElem?_getD, h]
  unfold vlF
  rw [e]
  simp only [lvC, List.getElem_map]
def valR (l : List Int) (vs : LV) : LV := l.map fun a => vs.getD a.toNat v0
theorem valR_succ {l : List Int} {vs : LV} {j : Nat} (h : j < l.length) : valR (l.take (j + 1)) vs = valR (l.take j) vs ++ [vs.getD (l.getD j 0).toNat v0] := by
  unfold valR
  rw [List.take_succ_eq_append_getElem h, List.map_append, show l.getD j 0 = l[j] by simp [List.getD_eq_getElem?_getD, h]]
  rfl
theorem valR_len (l : List Int) (vs : LV) : (valR l vs).length = l.length := List.length_map _
def valK (l : List Int) (K : List R3) : List LV := K.map fun r => valR l r.2
theorem valK_succ {l : List Int} {K : List R3} {i : Nat} (h : i < K.length) : valK l (K.take (i + 1)) = valK l (K.take i) ++ [valR l (K.getD i r0).2] := by
  unfold valK
  rw [List.take_succ_eq_append_getElem h, List.map_append, show K.getD i r0 = K[i] by simp [List.getD_eq_getElem?_getD, h]]
  rfl
def noP (F T : List R3) (a b : List Int) : List R3 := F.filter fun x => !(T.any fun y => agB a b x.2 y.2)
theorem viol_noP (F T : List R3) (a b : List Int) : violS F T a b = (noP F T a b).map (·.1) := by
  unfold violS violP noP
  rw [List.take_length]
def missS (db : List Tb) (d : Dp) : List LV := ordV (valK d.l (noP (rowsAt db d.f) (rowsAt db d.t) d.l d.r))
theorem rowsV_ids {n : Nat} : ∀ {p : Int} {l : List R3}, rowsV n p l = 0 → (∀ r ∈ l, p < r.1) ∧ l.Pairwise fun a b => a.1 < b.1
  | p, [], _ => ⟨fun r hr => by (cases hr), .nil⟩
  | p, r :: l, h => by
    unfold rowsV at h
    split at h
    · cases h
    · split at h
      · cases h
      · split at h
        · obtain ⟨h1, h2⟩ := rowsV_ids h
          refine ⟨fun x hx => ?_, .cons h1 h2⟩
          rcases List.mem_cons.1 hx with rfl | hx
          · omega
          · have := h1 x hx
            omega
        · cases h
theorem valid_ids {t : Tb} (h : validS t = 0) : (∀ r ∈ t.rows, 0 < r.1) ∧ t.rows.Pairwise fun a b => a.1 < b.1 := by
  unfold validS at h
  split at h
  · split at h
    · cases h
    · split at h
      · exact rowsV_ids h
      · cases h
  · cases h
theorem ids_inj {F : List R3} (h : F.Pairwise fun a b => a.1 < b.1) {x y : R3} (hx : x ∈ F) (hy : y ∈ F) (e : x.1 = y.1) : x = y := by
  obtain ⟨i, hi, rfl⟩ := List.getElem_of_mem hx
  obtain ⟨j, hj, rfl⟩ := List.getElem_of_mem hy
  rw [List.pairwise_iff_getElem] at h
  rcases Nat.lt_trichotomy i j with h1 | rfl | h1
  · have := h i j hi hj h1
    omega
  · rfl
  · have := h j i hj hi h1
    omega
theorem keep_noP {F T : List R3} {a b : List Int} (h : F.Pairwise fun a b => a.1 < b.1) : keepS F (violS F T a b) = noP F T a b := by
  unfold keepS
  rw [viol_noP]
  unfold noP
  refine List.filter_congr fun x hx => ?_
  rw [Bool.eq_iff_iff]
  unfold kpB
  rw [decide_eq_true_eq]
  constructor
  · intro h1
    have h2 : x.1 ∈ (F.filter fun x => !(T.any fun y => agB a b x.2 y.2)).map (·.1) := by
      refine Classical.byContradiction fun h3 => ?_
      have := (atI_none (i := 0)).2 h3
      omega
    obtain ⟨y, hy, e⟩ := List.mem_map.1 h2
    obtain ⟨hy1, hy2⟩ := List.mem_filter.1 hy
    rw [← ids_inj h hy1 hx e]
    exact hy2
  · intro h1
    have h2 : x.1 ∈ (F.filter fun x => !(T.any fun y => agB a b x.2 y.2)).map (·.1) := List.mem_map.2 ⟨x, List.mem_filter.2 ⟨hx, h1⟩, rfl⟩
    refine Classical.byContradiction fun h3 => ?_
    exact (atI_none (i := 0)).1 (by omega) h2
end Go.Ab.A15
namespace Go.Proofs.YtpidncgibgiidaaGreat
open Go Go.Ab Go.Ab.A34 Go.Ab.A15 Go.Ab.A01
variable [Gl] [Tabs]
theorem mi_k (df dt : ByteArray) (dl dr : List Int) (r1 : Int) (r2 : LV) (hdl : dl.length ≤ 1000) (hb : ∀ a ∈ dl, 0 ≤ a ∧ a < r2.length) (K : List R3) (i : Nat) (y : SV) (hp : Heap) :
    Ab.SW Tryz.prog 63 (blk 2 Tryz.f32) (nrm fun S => S.le ⟨[(3, .fp [Str df, IL dl, Str dt, IL dr]), (8, y), (11, VL (valR dl r2)), (30, RL K), (31, I64 K.length), (32, I64 i)], hp⟩)
      ⟨[(3, .fp [Str df, IL dl, Str dt, IL dr]), (8, y), (10, .fp [I64 r1, VL r2]), (11, SN), (30, RL K), (31, I64 K.length), (32, I64 i), (37, IL dl), (38, I64 dl.length), (39, I64 (0 : Nat))], hp⟩ := by
  conv => arg 3; whnf
  refine SW.block ?_
  obtain ⟨I, hI⟩ : ∃ I : Nat → St → Prop, ∀ k S, I k S ↔ (∃ (j : Nat) (x : SV) (h : Heap), k = dl.length - j ∧ j ≤ dl.length ∧ Acc 3 x h hp (valR (dl.take j) r2).length (vCs (valR (dl.take j) r2)) ∧ S = ⟨[(3, .fp [Str df, IL dl, Str dt, IL dr]), (8, y), (10, .fp [I64 r1, VL r2]), (11, x), (30, RL K), (31, I64 K.length), (32, I64 i), (37, IL dl), (38, I64 dl.length), (39, I64 j)], h⟩) := ⟨fun k S => _, fun _ _ => Iff.rfl⟩
  refine SW.loop' I (dl.length) ((hI _ _).2 ⟨0, SN, hp, rfl, Nat.zero_le _, .nil 3 hp, rfl⟩) (by repeat' (first | exact rfl | exact trivial | constructor)) ?_
  intro k S hIn
  obtain ⟨j, x, h, rfl, hi, hA, rfl⟩ := (hI _ _).1 hIn
  clear hIn
  have ie : ((j : Nat) : Int).toNat = j := Int.toNat_natCast _
  have i0 : (0 : Int) ≤ ((j : Nat) : Int) := by omega
  by_cases hlt : j < dl.length
  · have hli : ((j : Nat) : Int) < (((dl.length) : Nat) : Int) := by omega
    have w1 : IntKind.i64.wrap ((j : Int) + 1) = ((j + 1 : Nat) : Int) := by rw [i64_wrap (by omega) (by omega)]; omega
    have fi : iF dl j = [I64 (dl.getD j 0)] := rfl
    have hst := valR_succ (vs := r2) hlt
    obtain ⟨p0, p1⟩ := hb _ (getD_mem' 0 hlt)
    have hml : (valR (dl.take j) r2).length = j := by rw [valR_len, List.length_take]; omega
    have fx : vF r2 (dl.getD j 0).toNat = vC (r2.getD (dl.getD j 0).toNat v0) := rfl
    have hsn := vCs_snoc (valR (dl.take j) r2) (r2.getD (dl.getD j 0).toNat v0)
    generalize r2.getD (dl.getD j 0).toNat v0 = v at *
    generalize dl.getD j 0 = p at *
    generalize valR (dl.take j) r2 = M at *
    generalize hM2 : valR (dl.take (j + 1)) r2 = M2 at *
    obtain ⟨v1, v2, v3⟩ := v
    have hm1 : (M.length + 1) * 32 ≤ 140737488355328 := by omega
    have hm2 : M.length + 1 ≤ 140737488355328 := by omega
    have hD : (0 : Nat) = 0 := rfl
    repeat' first | ((with_reducible refine appK_acc hA ?_ ?_ ?_ ?_ ?_ ?_ hm1 hm2 ?_); (simp [hD]); (rfl); (rfl); (rfl); (exact Nat.succ_pos _); (rfl); (intro x3 b3 blk3 f1 f2 f3 f4 f5 f6 h3 hh3); (obtain ⟨h4, hA4, hle4⟩ := Acc.after f1 f4 f5 f6 hh3); (clear f1 f2 f3 f4 f5 f6 hh3); (try simp only [go_sem, hD])) | (refine SW.seq_k fun K hK => ?_) | (refine SW.block ?_) | ((first | refine SW.region ?_ | refine SW.cond ?_ | refine SW.skip ?_ | (refine allF_i fun b hb => ?_; replace hD := And.intro hb hD; clear hb; try simp only [fresh_cons, fresh_nil, and_true, ne_eq, neF] at hD)); try simp only [go_sem, hD, hli, ie, i0, w1, fi, p0, p1, fx, true_implies]) | (apply hK; clear hK K)
    all_goals
      refine Rnd.le (hle4 _) ?_
      refine Rnd.sub (dl.length - (j + 1)) (by omega) ((hI _ _).2 ⟨j + 1, x3, h4, rfl, by omega, by rw [hM2, hst, List.length_append, ← hsn]; exact hA4, rfl⟩) (by repeat' (first | exact rfl | exact trivial | constructor))
  · have hli : ¬ ((j : Nat) : Int) < (((dl.length) : Nat) : Int) := by omega
    obtain rfl : j = dl.length := by omega
    rw [List.take_length] at hA
    generalize valR dl r2 = M at *
    have hD : (0 : Nat) = 0 := rfl
    repeat' first | (refine SW.seq_k fun K hK => ?_) | ((first | refine SW.region ?_ | refine SW.cond ?_ | refine SW.exit ?_); try simp only [go_sem, hD, hli, true_implies]) | (apply hK; clear hK K)
    exact (St.le_acc_fl (i := 11) rfl hA (vF M) (fun q hq => vCs_at M q hq)).trans (St.le_sub (by repeat' (first | exact rfl | exact trivial | constructor)))
theorem missing_p (db : List Tb) (d : Dp) (hdb : db.length ≤ 1000000) (hd : OkD d) (hn : OkN db) (h : vE db d = 0) : PCall Tryz.prog 32 [DB db, DV d] (.tup [VVL (missS db d), I64 0]) := by
  have cv := viol_p db d (by omega) hd hn h
  obtain ⟨V, F⟩ := vE_ok h
  have kf := rows_k V F.f
  have cn := named_p db d.f hdb F.f
  have hr : (tabAt db d.f).rows = rowsAt db d.f := rfl
  have hmt : tabAt db d.f ∈ db := by
    have hl := idxN_lt F.f
    have hl2 : idxN d.f (nmsOf db) < db.length := by unfold nmsOf at hl; rwa [List.length_map] at hl
    exact getD_mem' t0 hl2
  have hval := valid_rows (V.v _ hmt)
  have hids := (valid_ids (V.v _ hmt)).2
  have b16 := in16_len F.nl (F.in16l V)
  have hkl := viol_le (rowsAt db d.f) (rowsAt db d.t) d.l d.r
  have ck := keep_p (tabAt db d.f) (violS (rowsAt db d.f) (rowsAt db d.t) d.l d.r) (by have := kf.n; omega) (by have := hval.2.1; omega) (by rw [hr]; exact kf.n) (fun r hr2 => by rw [(hval.2.2 r hr2).1]; have := hval.2.1; omega)
  rw [hr] at hids
  rw [hr, keep_noP hids] at ck
  have hKl : (noP (rowsAt db d.f) (rowsAt db d.t) d.l d.r).length ≤ 1000 := Nat.le_trans (List.length_filter_le _ _) kf.n
  have hKb : ∀ r ∈ noP (rowsAt db d.f) (rowsAt db d.t) d.l d.r, ∀ a ∈ d.l, 0 ≤ a ∧ a < r.2.length := fun r hr2 a ha => by
    have := F.l a ha
    rw [kf.l r (List.mem_filter.1 hr2).1]
    exact this
  unfold missS
  clear hids hval hmt kf hr V F hkl
  generalize noP (rowsAt db d.f) (rowsAt db d.t) d.l d.r = G at *
  generalize violS (rowsAt db d.f) (rowsAt db d.t) d.l d.r = ids at *
  generalize tabAt db d.f = t at *
  obtain ⟨tn, ta, tr⟩ := t
  obtain ⟨df, dl, dt, dr⟩ := d
  simp only at *
  obtain ⟨W, hW⟩ : ∃ W, W = valK dl G := ⟨_, rfl⟩
  have hWl : W.length = G.length := by rw [hW]; exact List.length_map _
  have hWr : ∀ r ∈ W, r.length ≤ 1000 := fun r hr => by
    rw [hW] at hr
    obtain ⟨x, _, rfl⟩ := List.mem_map.1 hr
    rw [valR_len]
    omega
  rw [← hW]
  refine Call.enter' (N := 63) (rs := [.tmp 4, .tmp 5]) Tryz.func32 rfl rfl rfl (by decide) rfl ?_; simp only [argT]; have hD : (0 : Nat) = 0 := rfl
  repeat' first | (refine SW.seq_k fun K hK => ?_) | ((first | refine SW.region ?_ | refine SW.cond ?_ | refine SW.skip ?_ | refine Call.of_pure (cv) ?_ | refine Call.of_pure (cn) ?_ | refine Call.of_pure (ck) ?_ | (refine allF_i fun b hb => ?_; replace hD := And.intro hb hD; clear hb; try simp only [fresh_cons, fresh_nil, and_true, ne_eq, neF] at hD)); try simp only [go_sem, hD, true_implies]) | (apply hK; clear hK K)
  clear cv cn ck
  obtain ⟨zb, rfl⟩ : ∃ x, x = b := ⟨_, rfl⟩
  obtain ⟨yb, rfl⟩ : ∃ x, x = b := ⟨_, rfl⟩
  refine Ab.SW.le (S' := ⟨[(3, .fp [Str df, IL dl, Str dt, IL dr]), (8, SN), (30, RL G), (31, I64 G.length), (32, I64 (0 : Nat))], []⟩) ?_ ?_
  · refine St.le.trans (St.le_freezeP (i := 3) (off := 0) (n := 4) (k := .svs [Str df, IL dl, Str dt, IL dr]) rfl (by simp [find_cons, hD]) (by exact Nat.le_refl 4)) ?_
    simp only [getN, Blk.get, go_sem, hD]
    refine St.le.trans (St.le_freezeP (i := 2) (off := 0) (n := 1) (k := .svs [TL db]) rfl (by simp [find_cons, hD]) (by exact Nat.le_refl 1)) ?_
    simp only [getN, Blk.get, go_sem, hD]
    exact St.le_sub (by repeat' (first | exact rfl | exact trivial | constructor))
  clear hD
  have hD : (0 : Nat) = 0 := rfl
  refine SW.block ?_
  obtain ⟨I, hI⟩ : ∃ I : Nat → St → Prop, ∀ k S, I k S ↔ (∃ (i : Nat) (y : SV) (hp : Heap), k = G.length - i ∧ i ≤ G.length ∧ Acc 1 y hp [] (valK dl (G.take i)).length (lvC (valK dl (G.take i))) ∧ (i = 0 → y = SN) ∧ S = ⟨[(3, .fp [Str df, IL dl, Str dt, IL dr]), (8, y), (30, RL G), (31, I64 G.length), (32, I64 i)], hp⟩) := ⟨fun k S => _, fun _ _ => Iff.rfl⟩
  refine SW.loop' I (G.length) ((hI _ _).2 ⟨0, SN, [], rfl, Nat.zero_le _, .nil 1 [], fun _ => rfl, rfl⟩) (by repeat' (first | exact rfl | exact trivial | constructor)) ?_
  intro k S hIn
  obtain ⟨i, y, hp, rfl, hi, hA, hz, rfl⟩ := (hI _ _).1 hIn
  clear hIn
  have ie : ((i : Nat) : Int).toNat = i := Int.toNat_natCast _
  have i0 : (0 : Int) ≤ ((i : Nat) : Int) := by omega
  by_cases hlt : i < G.length
  · have hli : ((i : Nat) : Int) < (((G.length) : Nat) : Int) := by omega
    have w1 : IntKind.i64.wrap ((i : Int) + 1) = ((i + 1 : Nat) : Int) := by rw [i64_wrap (by omega) (by omega)]; omega
    have fi : rF G i = rC (G.getD i r0) := rfl
    have hst := valK_succ (l := dl) hlt
    have hml : (valK dl (G.take i)).length = i := by unfold valK; rw [List.length_map, List.length_take]; omega
    have hin := fun y hp => mi_k df dt dl dr (G.getD i r0).1 (G.getD i r0).2 (by omega) (hKb _ (getD_mem r0 hlt)) G i y hp
    have hsn := lvC_snoc (valK dl (G.take i)) (valR dl (G.getD i r0).2)
    generalize G.getD i r0 = r at *
    generalize valK dl (G.take i) = M at *
    generalize hM2 : valK dl (G.take (i + 1)) = M2 at *
    obtain ⟨r1, r2⟩ := r
    have fr : rC (r1, r2) = [I64 r1, VL r2] := rfl
    simp only at hin hst hsn
    generalize valR dl r2 = v at *
    have hm1 : (M.length + 1) * 24 ≤ 140737488355328 := by omega
    have hm2 : M.length + 1 ≤ 140737488355328 := by omega
    repeat' first | (refine SW.seq_k fun K hK => ?_) | ((first | refine SW.region ?_ | refine SW.cond ?_ | refine SW.skip ?_); try simp only [go_sem, hD, hli, ie, i0, w1, fi, fr, true_implies]) | (apply hK; clear hK K)
    refine SW.block ?_
    repeat' first | ((refine Ab.SW.le (St.le_freezeP (i := 10) (n := 2) rfl (by rw [find_cons, if_pos rfl]) (by exact Nat.le_refl 2)) ?_); (rw [del_head]); (simp only [getN, Blk.get])) | (refine SW.seq_k fun K hK => ?_) | ((first | refine SW.region ?_ | (refine allF_i fun b hb => ?_; replace hD := And.intro hb hD; clear hb; try simp only [fresh_cons, fresh_nil, and_true, ne_eq, neF] at hD)); try simp only [go_sem, hD, hli, ie, i0, w1, fi, fr, true_implies]) | (apply hK; clear hK K)
    refine Ab.SW.cut _ (Ab.SW.le (St.le_sub (by repeat' (first | exact rfl | exact trivial | constructor))) (hin y hp)) ?_
    intro S' hle
    try simp only [go_sem, hD]
    (first | apply hK | (clear hK K; apply hK) | (clear hK K; clear hK K; apply hK)); clear hK K
    refine Ab.SW.le hle ?_
    clear hle hin
    clear hD
    have hD : (0 : Nat) = 0 := rfl
    repeat' first | ((with_reducible refine appK_acc hA ?_ ?_ ?_ ?_ ?_ ?_ hm1 hm2 ?_); (simp [hD]); (rfl); (rfl); (rfl); (exact Nat.succ_pos _); (rfl); (intro x3 b3 blk3 f1 f2 f3 f4 f5 f6 h3 hh3); (obtain ⟨h4, hA4, hle4⟩ := Acc.after f1 f4 f5 f6 hh3); (clear f1 f2 f3 f4 f5 f6 hh3); (try simp only [go_sem, hD])) | ((first | refine SW.region ?_ | (refine allF_i fun b hb => ?_; replace hD := And.intro hb hD; clear hb; try simp only [fresh_cons, fresh_nil, and_true, ne_eq, neF] at hD)); try simp only [go_sem, hD, hli, ie, i0, w1, true_implies]) | (apply hK; clear hK K)
    refine Rnd.le (hle4 _) ?_
    refine Rnd.sub (G.length - (i + 1)) (by omega) ((hI _ _).2 ⟨i + 1, x3, h4, rfl, by omega, by rw [hM2, hst, List.length_append, ← hsn]; exact hA4, fun h => absurd h (by omega), rfl⟩) (by repeat' (first | exact rfl | exact trivial | constructor))
  · have hli : ¬ ((i : Nat) : Int) < (((G.length) : Nat) : Int) := by omega
    obtain rfl : i = G.length := by omega
    rw [List.take_length, ← hW] at hA
    have sn := sort_vn
    have cn := compact_n
    have ss := fun b hne => sort_v b W hne (by omega) hWr
    rcases Acc.cases hA with ⟨hn0, _, rfl, rfl⟩ | ⟨ob, hlen, rfl, hle2⟩
    · have hW0 : W = [] := List.eq_nil_of_length_eq_zero hn0
      have hO : ordV W = [] := by rw [hW0]; exact ordV_nil
      repeat' first | ((refine Ab.SW.le (St.le_freezeP (i := 14) (n := 1) rfl (by rw [find_cons, if_pos rfl]) (by exact Nat.le_refl 1)) ?_); (rw [del_head]); (simp only [getN, Blk.get])) | (refine SW.seq_k fun K hK => ?_) | ((first | refine SW.region ?_ | refine SW.cond ?_ | refine SW.exit ?_ | refine SW.ret ?_ | refine Call.of_pure (sn) ?_ | refine Call.of_pure (cn) ?_ | (refine allF_i fun b hb => ?_; replace hD := And.intro hb hD; clear hb; try simp only [fresh_cons, fresh_nil, and_true, ne_eq, neF] at hD)); try simp only [go_sem, hD, hli, true_implies]) | (apply hK; clear hK K) | (clear hK K; apply hK; clear hK K)
      refine retQ_le (St.le_nil_fl (i := 4) (sz := 1) (f := vlF []) rfl) ?_
      simp only [resL_tmp, resL_nil, tupOf, go_sem, hD]
      rw [hO]
      all_goals first | exact ⟨rfl, rfl⟩ | rfl
    · refine Ab.SW.le (hle2 _) ?_
      by_cases hne : W = []
      · have hG0 : G.length = 0 := by rw [← hWl, hne]; rfl
        cases hz hG0
      · have cs := ss ob hne
        repeat' first | ((refine Ab.SW.le (St.le_freezeP (i := 14) (n := 1) rfl (by rw [find_cons, if_pos rfl]) (by exact Nat.le_refl 1)) ?_); (rw [del_head]); (simp only [getN, Blk.get])) | ((with_reducible refine Call.mono cs ?_); (intro rr h' hx); (obtain ⟨rfl, s, hp, hpw, rfl⟩ := hx); (refine stop_i ?_)) | (refine SW.seq_k fun K hK => ?_) | ((first | refine SW.region ?_ | refine SW.cond ?_ | refine SW.exit ?_ | (refine allF_i fun b hb => ?_; replace hD := And.intro hb hD; clear hb; try simp only [fresh_cons, fresh_nil, and_true, ne_eq, neF] at hD)); try simp only [go_sem, hD, hli, true_implies]) | (apply hK; clear hK K) | (clear hK K; apply hK; clear hK K)
        refine ⟨?_⟩
        try simp only [go_sem, hD]
        (first | apply hK | (clear hK K; apply hK) | (clear hK K; clear hK K; apply hK)); clear hK K
        have hsl := hp.length_eq
        have cc := compact_v s ob (fun e => hne (by rw [e] at hp; exact hp.nil_eq.symm)) (by omega) (fun r hr => hWr r (hp.mem_iff.1 hr))
        have hor := cpt_ord hpw hp
        generalize cptI s s.length = R at *
        have hRe := hor.eq
        rw [hsl] at cc
        clear hor cs ss sn cn
        clear hD
        have hD : (0 : Nat) = 0 := rfl
        repeat' first | ((with_reducible refine Call.mono cc ?_); (intro rr h' hx); (try simp only [go_sem, hD])) | (refine SW.seq_k fun K hK => ?_) | ((first | refine SW.region ?_ | refine SW.ret ?_); try simp only [go_sem, hD, hli, true_implies]) | (apply hK; clear hK K)
        refine retQ_le (St.le_acc_fl (i := 4) rfl hx (vlF R) (fun j hj => lvC_at hj)) ?_
        simp only [resL_tmp, resL_nil, tupOf, go_sem, hD]
        rw [← hRe]
        all_goals first | exact ⟨rfl, rfl⟩ | rfl
end Go.Proofs.YtpidncgibgiidaaGreat
namespace Go.Ab.A15
open Go Go.Ab Go.Ab.A34
abbrev U32 (n : Int) : SV := .sc (.int .u32 n)
def ofG : Nat → List Int → Option Nat
  | s, [] => some s
  | s, i :: r => if i < 0 ∨ 16 ≤ i then none else ofG (s ||| 2 ^ i.toNat) r
theorem ofG_step {s : Nat} {l : List Int} {i : Nat} (h : i < l.length) : ofG s (l.drop i) = if l.getD i 0 < 0 ∨ 16 ≤ l.getD i 0 then none else ofG (s ||| 2 ^ (l.getD i 0).toNat) (l.drop (i + 1)) := by
  rw [List.drop_eq_getElem_cons h, show l.getD i 0 = l[i] by simp [List.getD_eq_getElem?_getD, h]]
  rfl
theorem ofG_end {s : Nat} {l : List Int} {i : Nat} (h : l.length ≤ i) : ofG s (l.drop i) = some s := by
  rw [List.drop_eq_nil_of_le h]; rfl
theorem or_lt16 {s i : Nat} (hs : s < 65536) (hi : i < 16) : s ||| 2 ^ i < 65536 := Nat.or_lt_two_pow (n := 16) hs (Nat.pow_lt_pow_right (by omega) hi)
def ofKR : Option Nat → SV
  | some s => .tup [U32 s, I64 0]
  | none => .tup [U32 (0 : Nat), I64 7]
abbrev Ky := ByteArray × Nat
def kd0 : Ky := (⟨#[]⟩, 0)
abbrev KV (k : Ky) : SV := .agg [Str k.1, U32 k.2]
def kyF (l : List Ky) (i : Nat) : List SV := [Str (l.getD i kd0).1, U32 (l.getD i kd0).2]
abbrev KyL (l : List Ky) : SV := .fl l.length 2 (kyF l)
theorem posK_step {p : Ky → Bool} {l : List Ky} {i : Nat} (h : i < l.length) : posF p i (l.drop i) = if p (l.getD i kd0) = true then (i : Int) else posF p (i + 1) (l.drop (i + 1)) := by
  rw [List.drop_eq_getElem_cons h, show l.getD i kd0 = l[i] by simp [List.getD_eq_getElem?_getD, h]]
  rfl
theorem posK_end {p : Ky → Bool} {l : List Ky} {i : Nat} (h : l.length ≤ i) : posF p i (l.drop i) = -1 := by
  rw [List.drop_eq_nil_of_le h]; rfl
def eqK (k x : Ky) : Bool := (k.1.toList == x.1.toList) && decide (((k.2 : Nat) : Int) = ((x.2 : Nat) : Int))
end Go.Ab.A15
namespace Go.Proofs.YtpidncgibgiidaaGreat
open Go Go.Ab Go.Ab.A34 Go.Ab.A15 Go.Ab.A01
variable [Gl] [Tabs]
theorem set_of (l : List Int) (hl : l.length ≤ 1000000) : PCall Tryz.prog 58 [IL l] (ofKR (ofG 0 l)) := by
  obtain ⟨R, hR⟩ : ∃ R, R = ofG 0 l := ⟨_, rfl⟩
  rw [← hR]
  refine Call.enter' (N := 25) (rs := [.tmp 2, .tmp 3]) Tryz.func58 rfl rfl rfl (by decide) rfl ?_; simp only [argT]; have hD : (0 : Nat) = 0 := rfl
  repeat' first | (refine SW.seq_k fun K hK => ?_) | (refine SW.region ?_; try simp only [go_sem, hD, true_implies]) | (apply hK; clear hK K)
  refine SW.block ?_
  obtain ⟨I, hI⟩ : ∃ I : Nat → St → Prop, ∀ k S, I k S ↔ (∃ (i : Nat) (s : Nat), k = l.length - i ∧ i ≤ l.length ∧ s < 65536 ∧ R = ofG s (l.drop i) ∧ S = ⟨[(4, U32 s), (7, IL l), (8, I64 l.length), (9, I64 i)], []⟩) := ⟨fun k S => _, fun _ _ => Iff.rfl⟩
  refine SW.loop' I (l.length) ((hI _ _).2 ⟨0, 0, rfl, Nat.zero_le _, (by omega), hR, rfl⟩) (by repeat' (first | exact rfl | exact trivial | constructor)) ?_
  intro k S hIn
  obtain ⟨i, s, rfl, hi, hs, hC, rfl⟩ := (hI _ _).1 hIn
  clear hIn
  have ie : ((i : Nat) : Int).toNat = i := Int.toNat_natCast _
  have i0 : (0 : Int) ≤ ((i : Nat) : Int) := by omega
  clear hR
  by_cases hlt : i < l.length
  · have hli : ((i : Nat) : Int) < (((l.length) : Nat) : Int) := by omega
    have w1 : IntKind.i64.wrap ((i : Int) + 1) = ((i + 1 : Nat) : Int) := by rw [i64_wrap (by omega) (by omega)]; omega
    rw [ofG_step hlt] at hC
    have fi : iF l i = [I64 (l.getD i 0)] := rfl
    generalize l.getD i 0 = v at *
    by_cases c1 : v < 0
    · rw [if_pos (Or.inl c1)] at hC
      subst hC
      repeat' first | (refine SW.seq_k fun K hK => ?_) | ((first | refine SW.region ?_ | refine SW.cond ?_ | refine SW.skip ?_); try simp only [go_sem, hD, hli, ie, i0, w1, fi, c1, true_implies]) | (apply hK; clear hK K)
      refine SW.block ?_
      repeat' first | (refine SW.seq_k fun K hK => ?_) | ((first | refine SW.region ?_ | refine SW.cond ?_ | refine SW.ret ?_); try simp only [go_sem, hD, hli, ie, i0, w1, fi, c1, true_implies]) | (apply hK; clear hK K)
      refine ret_pure ?_; simp only [resL_tmp, resL_nil, tupOf, go_sem, hD]
      try rfl
    · by_cases c2 : 16 ≤ v
      · rw [if_pos (Or.inr c2)] at hC
        subst hC
        repeat' first | (refine SW.seq_k fun K hK => ?_) | ((first | refine SW.region ?_ | refine SW.cond ?_ | refine SW.skip ?_); try simp only [go_sem, hD, hli, ie, i0, w1, fi, c1, c2, true_implies]) | (apply hK; clear hK K)
        refine SW.block ?_
        repeat' first | (refine SW.seq_k fun K hK => ?_) | ((first | refine SW.region ?_ | refine SW.cond ?_ | refine SW.ret ?_); try simp only [go_sem, hD, hli, ie, i0, w1, fi, c1, c2, true_implies]) | (apply hK; clear hK K)
        refine ret_pure ?_; simp only [resL_tmp, resL_nil, tupOf, go_sem, hD]
        try rfl
      · rw [if_neg (by rintro (h | h) <;> omega)] at hC
        obtain ⟨n, rfl⟩ : ∃ n : Nat, v = ((n : Nat) : Int) := ⟨v.toNat, by omega⟩
        rw [Int.toNat_natCast] at hC
        have hlt2 := or_lt16 (i := n) hs (by omega)
        have sh := shl32 n (by omega)
        have hp : (2 : Nat) ^ n < 65536 := by
          show (2 : Nat) ^ n < 2 ^ 16
          exact Nat.pow_lt_pow_right (by omega) (by omega)
        have e := or32 s (2 ^ n) (by omega) (by omega)
        have k5 : ((n : Nat) : Int).toNat = n := Int.toNat_natCast _
        repeat' first | (refine SW.seq_k fun K hK => ?_) | ((first | refine SW.region ?_ | refine SW.cond ?_ | refine SW.skip ?_); try simp only [go_sem, hD, hli, ie, i0, w1, fi, c1, c2, sh, e, k5, true_implies]) | (apply hK; clear hK K)
        refine SW.block ?_
        repeat' first | (refine SW.seq_k fun K hK => ?_) | ((first | refine SW.region ?_ | refine SW.cond ?_ | refine SW.skip ?_); try simp only [go_sem, hD, hli, ie, i0, w1, fi, c1, c2, sh, e, k5, true_implies]) | (apply hK; clear hK K)
        refine Rnd.sub (l.length - (i + 1)) (by omega) ((hI _ _).2 ⟨i + 1, (s ||| 2 ^ n), rfl, by omega, hlt2, hC, rfl⟩) (by repeat' (first | exact rfl | exact trivial | constructor))
  · have hli : ¬ ((i : Nat) : Int) < (((l.length) : Nat) : Int) := by omega
    rw [ofG_end (by omega)] at hC
    subst hC
    repeat' first | (refine SW.seq_k fun K hK => ?_) | ((first | refine SW.region ?_ | refine SW.cond ?_ | refine SW.exit ?_ | refine SW.ret ?_); try simp only [go_sem, hD, hli, true_implies]) | (apply hK; clear hK K) | (clear hK K; apply hK; clear hK K)
    refine ret_pure ?_; simp only [resL_tmp, resL_nil, tupOf, go_sem, hD]
    try rfl
theorem index_k (k : Ky) (l : List Ky) (hl : l.length ≤ 1000000) : PCall Tryz.prog 99 [KyL l, KV k] (I64 (posF (eqK k) 0 l)) := by
  obtain ⟨R, hR⟩ : ∃ R, R = posF (eqK k) 0 l := ⟨_, rfl⟩
  rw [← hR]
  obtain ⟨k1, k2⟩ := k
  show PCall Tryz.prog 99 [KyL l, .agg [Str k1, U32 k2]] _
  refine Call.enter' (N := 19) (rs := [.tmp 4]) Tryz.func99 rfl rfl rfl (by decide) rfl ?_; simp only [argT]; have hD : (0 : Nat) = 0 := rfl
  repeat' first | (refine SW.seq_k fun K hK => ?_) | ((first | refine SW.region ?_ | (refine allF_i fun b hb => ?_; replace hD := And.intro hb hD; clear hb; try simp only [fresh_cons, fresh_nil, and_true, ne_eq, neF] at hD)); try simp only [go_sem, hD, true_implies]) | (apply hK; clear hK K)
  obtain ⟨kb, rfl⟩ : ∃ x, x = b := ⟨_, rfl⟩
  refine SW.block ?_
  obtain ⟨I, hI⟩ : ∃ I : Nat → St → Prop, ∀ k S, I k S ↔ (∃ (i : Nat) , k = l.length - i ∧ i ≤ l.length ∧ R = posF (eqK (k1, k2)) i (l.drop i) ∧ S = ⟨[(0, KyL l), (3, .op kb 0), (6, KyL l), (7, I64 l.length), (8, I64 i)], [(kb, .svs [Str k1, U32 k2])]⟩) := ⟨fun k S => _, fun _ _ => Iff.rfl⟩
  refine SW.loop' I (l.length) ((hI _ _).2 ⟨0, rfl, Nat.zero_le _, hR, rfl⟩) (by repeat' (first | exact rfl | exact trivial | constructor)) ?_
  intro k S hIn
  obtain ⟨i, rfl, hi, hC, rfl⟩ := (hI _ _).1 hIn
  clear hIn
  have ie : ((i : Nat) : Int).toNat = i := Int.toNat_natCast _
  have i0 : (0 : Int) ≤ ((i : Nat) : Int) := by omega
  clear hR
  by_cases hlt : i < l.length
  · have hli : ((i : Nat) : Int) < (((l.length) : Nat) : Int) := by omega
    have w1 : IntKind.i64.wrap ((i : Int) + 1) = ((i + 1 : Nat) : Int) := by rw [i64_wrap (by omega) (by omega)]; omega
    rw [posK_step hlt] at hC
    have fi : kyF l i = [Str (l.getD i kd0).1, U32 (l.getD i kd0).2] := rfl
    generalize l.getD i kd0 = v at *
    obtain ⟨v1, v2⟩ := v
    have he : eqK (k1, k2) (v1, v2) = true ↔ ((k1.toList == v1.toList) = true ∧ ((k2 : Nat) : Int) = ((v2 : Nat) : Int)) := by
      unfold eqK
      simp only [Bool.and_eq_true, decide_eq_true_eq]
    simp only at fi
    repeat' first | (refine SW.seq_k fun K hK => ?_) | ((first | refine SW.region ?_ | refine SW.cond ?_ | refine SW.skip ?_); try simp only [go_sem, hD, hli, ie, i0, w1, fi, true_implies]) | (apply hK; clear hK K)
    refine SW.block ?_
    repeat' first | (refine SW.seq_k fun K hK => ?_) | ((first | refine SW.region ?_ | refine SW.regionD (Checked.mixed Tryz.checked) (by kernel_rfl) ?_ | refine SW.cond ?_ | refine SW.skip ?_ | refine SW.ret ?_); try simp only [go_sem, hD, hli, ie, i0, w1, fi, true_implies]) | (refine ifI (fun hc => ?_) (fun hc => ?_) <;> first | (exfalso; omega) | skip) | (apply hK; clear hK K)
    · rw [if_pos (he.2 hc)] at hC
      subst hC
      refine ret_pure ?_; simp only [resL_tmp, resL_nil, tupOf, go_sem, hD]
      try rfl
    · rw [if_neg (fun h => hc (he.1 h))] at hC
      refine Rnd.sub (l.length - (i + 1)) (by omega) ((hI _ _).2 ⟨i + 1, rfl, by omega, hC, rfl⟩) (by repeat' (first | exact rfl | exact trivial | constructor))
  · have hli : ¬ ((i : Nat) : Int) < (((l.length) : Nat) : Int) := by omega
    rw [posK_end (by omega)] at hC
    subst hC
    repeat' first | (refine SW.seq_k fun K hK => ?_) | ((first | refine SW.region ?_ | refine SW.cond ?_ | refine SW.exit ?_ | refine SW.ret ?_); try simp only [go_sem, hD, hli, true_implies]) | (apply hK; clear hK K) | (clear hK K; apply hK; clear hK K)
    refine ret_pure ?_; simp only [resL_tmp, resL_nil, tupOf, go_sem, hD]
    try rfl
theorem contains_k (k : Ky) (l : List Ky) (hl : l.length ≤ 1000000) : PCall Tryz.prog 59 [KyL l, KV k] (SB (l.any (eqK k))) := by
  have ix := index_k k l hl
  have hm := posF_any (eqK k) l 0
  generalize posF (eqK k) 0 l = z at *
  obtain ⟨k1, k2⟩ := k
  show PCall Tryz.prog 59 [KyL l, .agg [Str k1, U32 k2]] _
  cases ha : l.any (eqK (k1, k2)) with
  | true =>
    have hz := hm.2 ha
    have hz2 : z ≥ 0 := hz
    refine Call.enter' (N := 9) (rs := [.tmp 4]) Tryz.func59 rfl rfl rfl (by decide) rfl ?_; simp only [argT]; have hD : (0 : Nat) = 0 := rfl
    repeat' first | (refine SW.seq_k fun K hK => ?_) | ((first | refine SW.region ?_ | refine SW.ret ?_ | refine Call.of_pure (ix) ?_ | (refine allF_i fun b hb => ?_; replace hD := And.intro hb hD; clear hb; try simp only [fresh_cons, fresh_nil, and_true, ne_eq, neF] at hD)); try simp only [go_sem, hD, hz, hz2, true_implies]) | (apply hK; clear hK K)
    refine ret_pure ?_; simp only [resL_tmp, resL_nil, tupOf, go_sem, hD]
    try rfl
  | false =>
    have hz : ¬ 0 ≤ z := fun h => by rw [hm.1 h] at ha; cases ha
    have hz2 : ¬ z ≥ 0 := hz
    refine Call.enter' (N := 9) (rs := [.tmp 4]) Tryz.func59 rfl rfl rfl (by decide) rfl ?_; simp only [argT]; have hD : (0 : Nat) = 0 := rfl
    repeat' first | (refine SW.seq_k fun K hK => ?_) | ((first | refine SW.region ?_ | refine SW.ret ?_ | refine Call.of_pure (ix) ?_ | (refine allF_i fun b hb => ?_; replace hD := And.intro hb hD; clear hb; try simp only [fresh_cons, fresh_nil, and_true, ne_eq, neF] at hD)); try simp only [go_sem, hD, hz, hz2, true_implies]) | (apply hK; clear hK K)
    refine ret_pure ?_; simp only [resL_tmp, resL_nil, tupOf, go_sem, hD]
    try rfl
theorem foreign_1 (t : Tb) (x : ByteArray) (n : Nat) : PCall Tryz.prog 55 [TB t, .fp [Str x, U32 n]] (SB (t.name.toList == x.toList)) := by
  obtain ⟨tn, ta, trs⟩ := t
  refine Call.enter' (N := 9) (rs := [.tmp 3]) Tryz.func55 rfl rfl rfl (by decide) rfl ?_; simp only [argT]; have hD : (0 : Nat) = 0 := rfl
  repeat' first | (refine SW.seq_k fun K hK => ?_) | ((first | refine SW.region ?_ | refine SW.ret ?_ | (refine allF_i fun b hb => ?_; replace hD := And.intro hb hD; clear hb; try simp only [fresh_cons, fresh_nil, and_true, ne_eq, neF] at hD)); try simp only [go_sem, hD, true_implies]) | (apply hK; clear hK K)
  refine ret_pure ?_; simp only [resL_tmp, resL_nil, tupOf, go_sem, hD]
  try rfl
def notF (keys : List Ky) (d : Dp) : Bool := (d.f.toList == d.t.toList) || !(keys.any (eqK (d.t, (ofG 0 d.r).getD 0)))
theorem foreign_2 (keys : List Ky) (d : Dp) (hk : keys.length ≤ 1000000) (hd : d.r.length ≤ 1000000) : PCall Tryz.prog 57 [DV d, .fp [KyL keys]] (SB (notF keys d)) := by
  have co := set_of d.r hd
  have cc := contains_k (d.t, (ofG 0 d.r).getD 0) keys hk
  unfold notF
  generalize keys.any (eqK (d.t, (ofG 0 d.r).getD 0)) = B at *
  generalize hS : ofG 0 d.r = S at *
  obtain ⟨df, dl, dt, dr⟩ := d
  simp only at *
  clear hS
  cases S with
  | some s =>
    show PCall Tryz.prog 57 [.agg [Str df, IL dl, Str dt, IL dr], .fp [KyL keys]] _
    simp only [ofKR, Option.getD_some] at co cc
    cases hB : (df.toList == dt.toList) with
    | true =>
      refine Call.enter' (N := 26) (rs := [.tmp 3]) Tryz.func57 rfl rfl rfl (by decide) rfl ?_; simp only [argT]; have hD : (0 : Nat) = 0 := rfl
      repeat' first | (refine SW.seq_k fun K hK => ?_) | ((first | refine SW.region ?_ | refine SW.ret ?_ | refine Call.of_pure (co) ?_ | (refine allF_i fun b hb => ?_; replace hD := And.intro hb hD; clear hb; try simp only [fresh_cons, fresh_nil, and_true, ne_eq, neF] at hD)); try simp only [go_sem, hD, hB, true_implies]) | (apply hK; clear hK K)
      refine ret_pure ?_; simp only [resL_tmp, resL_nil, tupOf, go_sem, hD]
      try rfl
    | false =>
      refine Call.enter' (N := 26) (rs := [.tmp 3]) Tryz.func57 rfl rfl rfl (by decide) rfl ?_; simp only [argT]; have hD : (0 : Nat) = 0 := rfl
      repeat' first | (refine SW.seq_k fun K hK => ?_) | ((first | refine SW.region ?_ | refine SW.ret ?_ | refine Call.of_pure (co) ?_ | refine Call.of_pure (cc) ?_ | (refine allF_i fun b hb => ?_; replace hD := And.intro hb hD; clear hb; try simp only [fresh_cons, fresh_nil, and_true, ne_eq, neF] at hD)); try simp only [go_sem, hD, hB, true_implies]) | (apply hK; clear hK K)
      refine ret_pure ?_; simp only [resL_tmp, resL_nil, tupOf, go_sem, hD]
      try rfl
  | none =>
    show PCall Tryz.prog 57 [.agg [Str df, IL dl, Str dt, IL dr], .fp [KyL keys]] _
    simp only [ofKR, Option.getD_none] at co cc
    cases hB : (df.toList == dt.toList) with
    | true =>
      refine Call.enter' (N := 26) (rs := [.tmp 3]) Tryz.func57 rfl rfl rfl (by decide) rfl ?_; simp only [argT]; have hD : (0 : Nat) = 0 := rfl
      repeat' first | (refine SW.seq_k fun K hK => ?_) | ((first | refine SW.region ?_ | refine SW.ret ?_ | refine Call.of_pure (co) ?_ | (refine allF_i fun b hb => ?_; replace hD := And.intro hb hD; clear hb; try simp only [fresh_cons, fresh_nil, and_true, ne_eq, neF] at hD)); try simp only [go_sem, hD, hB, true_implies]) | (apply hK; clear hK K)
      refine ret_pure ?_; simp only [resL_tmp, resL_nil, tupOf, go_sem, hD]
      try rfl
    | false =>
      refine Call.enter' (N := 26) (rs := [.tmp 3]) Tryz.func57 rfl rfl rfl (by decide) rfl ?_; simp only [argT]; have hD : (0 : Nat) = 0 := rfl
      repeat' first | (refine SW.seq_k fun K hK => ?_) | ((first | refine SW.region ?_ | refine SW.ret ?_ | refine Call.of_pure (co) ?_ | refine Call.of_pure (cc) ?_ | (refine allF_i fun b hb => ?_; replace hD := And.intro hb hD; clear hb; try simp only [fresh_cons, fresh_nil, and_true, ne_eq, neF] at hD)); try simp only [go_sem, hD, hB, true_implies]) | (apply hK; clear hK K)
      refine ret_pure ?_; simp only [resL_tmp, resL_nil, tupOf, go_sem, hD]
      try rfl
end Go.Proofs.YtpidncgibgiidaaGreat
namespace Go.Ab.A15
open Go Go.Ab Go.Ab.A34
def posN (db : List Tb) (x : ByteArray) : Int := posF (fun t => t.name.toList == x.toList) 0 db
def keyE (db : List Tb) : List Ky → Int
  | [] => 0
  | k :: r => if posN db k.1 < 0 then 4 else if k.2 / 2 ^ (db.getD (posN db k.1).toNat t0).attrs.length = 0 then keyE db r else 6
theorem keyE_step {db : List Tb} {l : List Ky} {i : Nat} (h : i < l.length) : keyE db (l.drop i) = if posN db (l.getD i kd0).1 < 0 then 4 else if (l.getD i kd0).2 / 2 ^ (db.getD (posN db (l.getD i kd0).1).toNat t0).attrs.length = 0 then keyE db (l.drop (i + 1)) else 6 := by
  rw [List.drop_eq_getElem_cons h, show l.getD i kd0 = l[i] by simp [List.getD_eq_getElem?_getD, h]]
  rfl
theorem keyE_end {db : List Tb} {l : List Ky} {i : Nat} (h : l.length ≤ i) : keyE db (l.drop i) = 0 := by
  rw [List.drop_eq_nil_of_le h]; rfl
theorem posF_lt {α : Type} (p : α → Bool) : ∀ (l : List α) (k : Nat), posF p k l < ((k + l.length : Nat) : Int) ∧ (posF p k l < 0 ∨ 0 ≤ posF p k l)
  | [], k => ⟨by unfold posF; omega, by omega⟩
  | y :: l, k => by
    unfold posF
    have := posF_lt p l (k + 1)
    rw [List.length_cons]
    split
    · omega
    · omega
end Go.Ab.A15
namespace Go.Proofs.YtpidncgibgiidaaGreat
open Go Go.Ab Go.Ab.A34 Go.Ab.A15 Go.Ab.A01
variable [Gl] [Tabs]
theorem delete_n (g : FuncId) (caps : List SV) : PCall Tryz.prog 56 [SN, .fn (.func g) [] caps] SN := by
  have ix : PCall Tryz.prog 52 [SN, .fn (.func g) [] caps] (I64 (-1)) := PCall.nilA (args := [SN, .fn (.func g) [] caps]) 0 (by simp) rfl (indexF_d g caps (fun _ => true) [] (by simp) (fun d hd => by cases hd))
  refine Call.enter' (N := 42) (rs := [.tmp 4]) Tryz.func56 rfl rfl rfl (by decide) rfl ?_; simp only [argT]; have hD : (0 : Nat) = 0 := rfl
  repeat' first | (refine SW.seq_k fun K hK => ?_) | ((first | refine SW.region ?_ | refine SW.cond ?_ | refine SW.ret ?_ | refine Call.of_pure (ix) ?_); try simp only [go_sem, hD, true_implies]) | (apply hK; clear hK K)
  refine ret_pure ?_; simp only [resL_tmp, resL_nil, tupOf, go_sem, hD]
  try rfl
theorem chkD_6 {db : List Tb} (h : chkD db = 0) : ∀ t ∈ db, t.attrs.length ≤ 6 := by
  unfold chkD at h
  split at h
  · split at h
    · cases h
    · rename_i h1
      intro t ht
      have h2 : ¬ db.any (fun t => decide (6 < t.attrs.length)) = true := fun e => h1 (.inr e)
      rw [List.any_eq_true] at h2
      exact Nat.le_of_not_lt fun h3 => h2 ⟨t, ht, decide_eq_true h3⟩
  · rename_i h1
    exact absurd h h1
def ForQ (db : List Tb) (keys : List Ky) (R : Int) (r : SV) (h' : Heap) : Prop :=
  if R = 0 then ∃ x, r = .tup [x, I64 0] ∧ Acc 4 x h' [] ((allP db 6 0).filter fun d => !(notF keys d)).length (dCs ((allP db 6 0).filter fun d => !(notF keys d)))
  else r = .tup [SN, I64 R]
theorem foreign_p (db : List Tb) (keys : List Ky) (hk : keys.length ≤ 1000000) (hF : OkF db 6) (h0 : chkD db = 0) (h6 : ∀ d ∈ allP db 6 0, d.r.length ≤ 1000000) : Ab.Call Tryz.prog 24 [DB db, KyL keys] [] (ForQ db keys (keyE db keys)) := by
  have hdb := hF.n
  have c := checked_p db (by omega)
  rw [h0] at c
  have cs := search_p db 6 hF
  have htot := hF.tot
  have hix := fun (k : Ky) => indexF_t 55 [.fp [Str k.1, U32 k.2]] (fun t => t.name.toList == k.1.toList) db db.length (tF db) rfl (fun j hj => rfl) (by omega) (fun d _ => foreign_1 d k.1 k.2)
  obtain ⟨R, hR⟩ : ∃ R, R = keyE db keys := ⟨_, rfl⟩
  rw [← hR]
  have hCF := fun (b : Nat) => delete_o 57 [.fp [KyL keys]] (notF keys) (allP db 6 0) b (by omega) (fun d hd => foreign_2 keys d hk (h6 d hd))
  refine Call.enter' (N := 52) (rs := [.tmp 4, .tmp 5]) Tryz.func24 rfl rfl rfl (by decide) rfl ?_; simp only [argT]; have hD : (0 : Nat) = 0 := rfl
  repeat' first | (refine SW.seq_k fun K hK => ?_) | ((first | refine SW.region ?_ | refine SW.cond ?_ | refine SW.skip ?_ | refine Call.of_pure (c) ?_ | (refine allF_i fun b hb => ?_; replace hD := And.intro hb hD; clear hb; try simp only [fresh_cons, fresh_nil, and_true, ne_eq, neF] at hD)); try simp only [go_sem, hD, true_implies]) | (apply hK; clear hK K)
  obtain ⟨zb, rfl⟩ : ∃ x, x = b := ⟨_, rfl⟩
  obtain ⟨yb, rfl⟩ : ∃ x, x = b := ⟨_, rfl⟩
  refine Ab.SW.le (S' := ⟨[(2, .fp [TL db]), (3, .fp [KyL keys]), (17, KyL keys), (18, I64 keys.length), (19, I64 (0 : Nat))], []⟩) ?_ ?_
  · refine St.le.trans (St.le_freezeP (i := 3) (b := zb) (off := 0) (n := 1) (k := .svs [KyL keys]) rfl (by rw [find_cons, if_pos rfl]) (by exact Nat.le_refl 1)) ?_
    rw [del_head]
    simp only [getN, Blk.get, go_sem, hD]
    refine St.le.trans (St.le_freezeP (i := 2) (b := yb) (off := 0) (n := 1) (k := .svs [TL db]) rfl (by rw [find_cons, if_pos rfl]) (by exact Nat.le_refl 1)) ?_
    rw [del_head]
    simp only [getN, Blk.get, go_sem, hD]
    exact St.le_sub (by repeat' (first | exact rfl | exact trivial | constructor))
  clear hD
  have hD : (0 : Nat) = 0 := rfl
  refine SW.block ?_
  obtain ⟨I, hI⟩ : ∃ I : Nat → St → Prop, ∀ k S, I k S ↔ (∃ (i : Nat) , k = keys.length - i ∧ i ≤ keys.length ∧ R = keyE db (keys.drop i) ∧ S = ⟨[(2, .fp [TL db]), (3, .fp [KyL keys]), (17, KyL keys), (18, I64 keys.length), (19, I64 i)], []⟩) := ⟨fun k S => _, fun _ _ => Iff.rfl⟩
  refine SW.loop' I (keys.length) ((hI _ _).2 ⟨0, rfl, Nat.zero_le _, hR, rfl⟩) (by repeat' (first | exact rfl | exact trivial | constructor)) ?_
  intro k S hIn
  obtain ⟨i, rfl, hi, hC, rfl⟩ := (hI _ _).1 hIn
  clear hIn
  have ie : ((i : Nat) : Int).toNat = i := Int.toNat_natCast _
  have i0 : (0 : Int) ≤ ((i : Nat) : Int) := by omega
  clear hR
  by_cases hlt : i < keys.length
  · have hli : ((i : Nat) : Int) < (((keys.length) : Nat) : Int) := by omega
    have w1 : IntKind.i64.wrap ((i : Int) + 1) = ((i + 1 : Nat) : Int) := by rw [i64_wrap (by omega) (by omega)]; omega
    rw [keyE_step hlt] at hC
    have fi : kyF keys i = [Str (keys.getD i kd0).1, U32 (keys.getD i kd0).2] := rfl
    have ci := hix (keys.getD i kd0)
    generalize keys.getD i kd0 = v at *
    obtain ⟨v1, v2⟩ := v
    simp only at fi ci hC
    clear hix
    have hpl := posF_lt (fun t : Tb => t.name.toList == v1.toList) db 0
    change R = if posF (fun t : Tb => t.name.toList == v1.toList) 0 db < 0 then 4 else if v2 / 2 ^ (db.getD (posF (fun t : Tb => t.name.toList == v1.toList) 0 db).toNat t0).attrs.length = 0 then keyE db (keys.drop (i + 1)) else 6 at hC
    generalize posF (fun t : Tb => t.name.toList == v1.toList) 0 db = z at *
    by_cases hz : z < 0
    · rw [if_pos hz] at hC
      subst hC
      repeat' first | (refine SW.seq_k fun K hK => ?_) | ((first | refine SW.region ?_ | refine SW.cond ?_ | refine SW.skip ?_); try simp only [go_sem, hD, hli, ie, i0, w1, fi, true_implies]) | (apply hK; clear hK K)
      refine SW.block ?_
      repeat' first | ((refine Ab.SW.le (St.le_freezeP (i := 8) (n := 2) rfl (by rw [find_cons, if_pos rfl]) (by exact Nat.le_refl 2)) ?_); (rw [del_head]); (simp only [getN, Blk.get])) | (refine SW.seq_k fun K hK => ?_) | ((first | refine SW.region ?_ | refine SW.cond ?_ | refine SW.ret ?_ | refine Call.of_pure (ci) ?_ | (refine allF_i fun b hb => ?_; replace hD := And.intro hb hD; clear hb; try simp only [fresh_cons, fresh_nil, and_true, ne_eq, neF] at hD)); try simp only [go_sem, hD, hli, ie, i0, w1, fi, hz, true_implies]) | (apply hK; clear hK K)
      refine retQ_le (fun M w0 D N a w r => r) ?_
      simp only [resL_tmp, resL_nil, tupOf, go_sem, hD]
      unfold ForQ
      rw [if_neg (by decide)]
    · rw [if_neg hz] at hC
      obtain ⟨n, rfl⟩ : ∃ n : Nat, z = ((n : Nat) : Int) := ⟨z.toNat, by omega⟩
      have z0 : (0 : Int) ≤ ((n : Nat) : Int) := by omega
      have z1 : ((n : Nat) : Int) < ((db.length : Nat) : Int) := by omega
      have z2 : ((n : Nat) : Int).toNat = n := Int.toNat_natCast _
      rw [z2] at hC
      have ft : tF db n = tC (db.getD n t0) := rfl
      have ht6 := chkD_6 h0 _ (getD_mem' t0 (show n < db.length by omega))
      generalize db.getD n t0 = t at *
      obtain ⟨tn, ta, trs⟩ := t
      simp only at hC ht6
      have ft2 : tC ⟨tn, ta, trs⟩ = [Str tn, SL ta, RL trs] := rfl
      have sh := shr32 v2 ta.length
      have hmin : min ta.length 32 = ta.length := by omega
      clear hCF cs
      by_cases hq : v2 / 2 ^ ta.length = 0
      · rw [if_pos hq] at hC
        have hq2 : ((v2 / 2 ^ ta.length : Nat) : Int) = 0 := by rw [hq]; rfl
        repeat' first | (refine SW.seq_k fun K hK => ?_) | ((first | refine SW.region ?_ | refine SW.cond ?_ | refine SW.skip ?_); try simp only [go_sem, hD, hli, ie, i0, w1, fi, true_implies]) | (apply hK; clear hK K)
        refine SW.block ?_
        repeat' first | ((refine Ab.SW.le (St.le_freezeP (i := 8) (n := 2) rfl (by rw [find_cons, if_pos rfl]) (by exact Nat.le_refl 2)) ?_); (rw [del_head]); (simp only [getN, Blk.get])) | (refine SW.seq_k fun K hK => ?_) | ((first | refine SW.region ?_ | refine SW.regionD (Checked.mixed Tryz.checked) (by kernel_rfl) ?_ | refine SW.cond ?_ | refine SW.skip ?_ | refine Call.of_pure (ci) ?_ | (refine allF_i fun b hb => ?_; replace hD := And.intro hb hD; clear hb; try simp only [fresh_cons, fresh_nil, and_true, ne_eq, neF] at hD)); try simp only [go_sem, hD, hli, ie, i0, w1, fi, hz, z0, z1, z2, ft, ft2, hmin, sh, hq2, true_implies]) | (apply hK; clear hK K)
        refine Rnd.sub (keys.length - (i + 1)) (by omega) ((hI _ _).2 ⟨i + 1, rfl, by omega, hC, rfl⟩) (by repeat' (first | exact rfl | exact trivial | constructor))
      · rw [if_neg hq] at hC
        have hq2 : ¬ ((v2 / 2 ^ ta.length : Nat) : Int) = 0 := by omega
        subst hC
        repeat' first | (refine SW.seq_k fun K hK => ?_) | ((first | refine SW.region ?_ | refine SW.cond ?_ | refine SW.skip ?_); try simp only [go_sem, hD, hli, ie, i0, w1, fi, true_implies]) | (apply hK; clear hK K)
        refine SW.block ?_
        repeat' first | ((refine Ab.SW.le (St.le_freezeP (i := 8) (n := 2) rfl (by rw [find_cons, if_pos rfl]) (by exact Nat.le_refl 2)) ?_); (rw [del_head]); (simp only [getN, Blk.get])) | (refine SW.seq_k fun K hK => ?_) | ((first | refine SW.region ?_ | refine SW.regionD (Checked.mixed Tryz.checked) (by kernel_rfl) ?_ | refine SW.cond ?_ | refine SW.skip ?_ | refine SW.ret ?_ | refine Call.of_pure (ci) ?_ | (refine allF_i fun b hb => ?_; replace hD := And.intro hb hD; clear hb; try simp only [fresh_cons, fresh_nil, and_true, ne_eq, neF] at hD)); try simp only [go_sem, hD, hli, ie, i0, w1, fi, hz, z0, z1, z2, ft, ft2, hmin, sh, hq2, true_implies]) | (apply hK; clear hK K)
        refine retQ_le (fun M w0 D N a w r => r) ?_
        simp only [resL_tmp, resL_nil, tupOf, go_sem, hD]
        unfold ForQ
        rw [if_neg (by decide)]
  · have hli : ¬ ((i : Nat) : Int) < (((keys.length) : Nat) : Int) := by omega
    rw [keyE_end (by omega)] at hC
    subst hC
    have hdn := delete_n 57 [.fp [KyL keys]]
    clear hix
    obtain ⟨L, hL⟩ : ∃ L, L = allP db 6 0 := ⟨_, rfl⟩
    rw [← hL] at cs hCF
    repeat' first | ((with_reducible refine Call.mono cs ?_); (intro rr h' hx); (obtain ⟨x, rfl, hA⟩ := hx); (refine stop_i ?_)) | (refine SW.seq_k fun K hK => ?_) | ((first | refine SW.region ?_ | refine SW.cond ?_ | refine SW.exit ?_ | simp only [appK, appOsK]); try simp only [go_sem, hD, hli, true_implies]) | (apply hK; clear hK K) | (clear hK K; apply hK; clear hK K)
    refine ⟨?_⟩
    try simp only [go_sem, hD]
    (first | apply hK | (clear hK K; apply hK) | (clear hK K; clear hK K; apply hK)); clear hK K
    rcases Acc.cases hA with ⟨hn0, _, rfl, rfl⟩ | ⟨ob, hlen, rfl, hle2⟩
    · have hE0 : L = [] := List.eq_nil_of_length_eq_zero hn0
      repeat' first | (refine SW.seq_k fun K hK => ?_) | ((first | refine SW.region ?_ | refine SW.cond ?_ | refine SW.skip ?_ | refine SW.ret ?_ | refine Call.of_pure (hdn) ?_); try simp only [go_sem, hD, true_implies]) | (apply hK; clear hK K)
      refine retQ_le (fun M w0 D N a w r => r) ?_
      simp only [resL_tmp, resL_nil, tupOf, go_sem, hD]
      unfold ForQ
      rw [if_pos rfl, ← hL, hE0]
      exact ⟨_, rfl, .nil 4 []⟩
    · refine Ab.SW.le (hle2 _) ?_
      have hcf := hCF ob
      repeat' first | ((with_reducible refine Call.mono hcf ?_); (intro rr h' hx); (try simp only [go_sem, hD])) | (refine SW.seq_k fun K hK => ?_) | ((first | refine SW.region ?_ | refine SW.cond ?_ | refine SW.skip ?_ | refine SW.ret ?_); try simp only [go_sem, hD, true_implies]) | (apply hK; clear hK K)
      refine retQ_le (fun M w0 D N a w r => r) ?_
      simp only [resL_tmp, resL_nil, tupOf, go_sem, hD]
      unfold ForQ
      rw [if_pos rfl, ← hL]
      exact ⟨_, rfl, hx⟩
end Go.Proofs.YtpidncgibgiidaaGreat
namespace Go.Ab.A15
open Go Go.Ab Go.Ab.A34
def rcA : Rc := ⟨0, 0, [[1, 2], [2, 2]]⟩
def rcB : Rc := ⟨0, 0, [[1], [2], [11]]⟩
def exT : List Tb := [wideS rcA 2, ⟨⟨#[115]⟩, [⟨#[99]⟩], (wideS rcB 1).rows⟩]
end Go.Ab.A15
namespace Go.Proofs.YtpidncgibgiidaaGreat
open Go Go.Ab Go.Ab.A34 Go.Ab.A15 Go.Ab.A01
variable [Gl] [Tabs]
theorem wideA (b3 b4 b5 : Nat) (h1 : ¬ b5 = b4) (h2 : ¬ b5 = b3) (h3 : ¬ b4 = b3) (H : Heap) : Ab.Call Tryz.prog 87 [.agg [U8 0, U8 0, .os b5 0 2 1], I64 2] ((b5, .svs [.os b3 0 2 1, .os b4 0 2 1]) :: (b4, .svs [U8 2, U8 2]) :: (b3, .svs [U8 1, U8 2]) :: H) (fun r h' => r = TB (wideS rcA 2) ∧ h' = H) := by
  have c0 : PCall Tryz.prog 87 [RC rcA, I64 (2 : Nat)] (TB (wideS rcA 2)) := wide_r rcA ⟨by decide, by decide, by decide⟩ 2 (by omega) (by decide)
  have g1 : ¬ b4 = b5 := fun e => h1 e.symm
  have g2 : ¬ b3 = b5 := fun e => h2 e.symm
  have g3 : ¬ b3 = b4 := fun e => h3 e.symm
  have c1 : Ab.Call Tryz.prog 87 [.agg [U8 0, U8 0, .os b5 0 2 1], I64 2] [(b5, .svs [.os b3 0 2 1, .os b4 0 2 1]), (b4, .svs [U8 2, U8 2]), (b3, .svs [U8 1, U8 2])] (fun r h' => r = TB (wideS rcA 2) ∧ h' = []) := by
    refine Call.ofSt (args2 := [RC rcA, I64 (2 : Nat)]) (h2 := []) rfl (fun b hb => by obtain ⟨k, hk⟩ := hb; cases hk) ⟨[(0, RC rcA), (0, .agg [U8 0, U8 0, .os b5 0 2 1]), (1, I64 2)], ?_, fun i hi => by
      have : i = 0 ∨ i = 1 := by have h : i < 2 := hi; omega
      rcases this with rfl | rfl <;> rfl⟩ c0
    show (St.mk [(0, .agg [U8 0, U8 0, .os b5 0 2 1]), (1, I64 2)] _).le _
    refine St.le.trans (St.le_freezeC (c := b5) (j := 0) (b := b3) (off := 0) (len := 2) (sz := 1) (k := .svs [U8 1, U8 2]) (cs := [.os b3 0 2 1, .os b4 0 2 1]) (by rw [find_cons, if_pos rfl]) h2 (by simp) rfl (by simp [find_cons, h2, h3, h1]) (by decide) (fun j => [U8 ([1, 2].getD j 0)]) (fun p hp => by
      have h9 : p = 0 ∨ p = 1 := by omega
      rcases h9 with rfl | rfl <;> rfl)) ?_
    simp only [Heap.del, Heap.upd, h1, h2, h3, g1, g2, g3, if_true, if_false, List.set_cons_zero]
    refine St.le.trans (St.le_freezeC (c := b5) (j := 1) (b := b4) (off := 0) (len := 2) (sz := 1) (k := .svs [U8 2, U8 2]) (cs := [UL [1, 2], .os b4 0 2 1]) (by rw [find_cons, if_pos rfl]; rfl) h1 (by simp) rfl (by simp [find_cons, h2, h3, h1]) (by decide) (fun j => [U8 ([2, 2].getD j 0)]) (fun p hp => by
      have h9 : p = 0 ∨ p = 1 := by omega
      rcases h9 with rfl | rfl <;> rfl)) ?_
    simp only [Heap.del, Heap.upd, h1, h2, h3, g1, g2, g3, if_true, if_false, List.set_cons_zero, List.set_cons_succ]
    refine St.le.trans (St.le_freezeA (i := 0) (j := 2) (b := b5) (off := 0) (len := 2) (sz := 1) rfl (by simp) rfl (by rw [find_cons, if_pos rfl]) (by decide) (fun i => [UL ([[1, 2], [2, 2]].getD i [])]) (fun p hp => by
      have h9 : p = 0 ∨ p = 1 := by omega
      rcases h9 with rfl | rfl <;> rfl)) ?_
    simp only [Heap.del, if_true]
    exact St.le.refl _
  exact Call.mono (Call.frame (h2 := H) c1) fun r' h' ⟨h1, e, e1, e2⟩ => ⟨e1, by rw [e, e2]; rfl⟩
theorem wideB (b8 b9 b10 b11 : Nat) (h1 : ¬ b11 = b10) (h2 : ¬ b11 = b9) (h3 : ¬ b11 = b8) (h4 : ¬ b10 = b9) (h5 : ¬ b10 = b8) (h6 : ¬ b9 = b8) (H : Heap) : Ab.Call Tryz.prog 87 [.agg [U8 0, U8 0, .os b11 0 3 1], I64 1] ((b11, .svs [.os b8 0 1 1, .os b9 0 1 1, .os b10 0 1 1]) :: (b10, .svs [U8 11]) :: (b9, .svs [U8 2]) :: (b8, .svs [U8 1]) :: H) (fun r h' => r = TB (wideS rcB 1) ∧ h' = H) := by
  have c0 : PCall Tryz.prog 87 [RC rcB, I64 (1 : Nat)] (TB (wideS rcB 1)) := wide_r rcB ⟨by decide, by decide, by decide⟩ 1 (by omega) (by decide)
  have g1 : ¬ b10 = b11 := fun e => h1 e.symm
  have g2 : ¬ b9 = b11 := fun e => h2 e.symm
  have g3 : ¬ b8 = b11 := fun e => h3 e.symm
  have g4 : ¬ b9 = b10 := fun e => h4 e.symm
  have g5 : ¬ b8 = b10 := fun e => h5 e.symm
  have g6 : ¬ b8 = b9 := fun e => h6 e.symm
  have c1 : Ab.Call Tryz.prog 87 [.agg [U8 0, U8 0, .os b11 0 3 1], I64 1] [(b11, .svs [.os b8 0 1 1, .os b9 0 1 1, .os b10 0 1 1]), (b10, .svs [U8 11]), (b9, .svs [U8 2]), (b8, .svs [U8 1])] (fun r h' => r = TB (wideS rcB 1) ∧ h' = []) := by
    refine Call.ofSt (args2 := [RC rcB, I64 (1 : Nat)]) (h2 := []) rfl (fun b hb => by obtain ⟨k, hk⟩ := hb; cases hk) ⟨[(0, RC rcB), (0, .agg [U8 0, U8 0, .os b11 0 3 1]), (1, I64 1)], ?_, fun i hi => by
      have : i = 0 ∨ i = 1 := by have h : i < 2 := hi; omega
      rcases this with rfl | rfl <;> rfl⟩ c0
    show (St.mk [(0, .agg [U8 0, U8 0, .os b11 0 3 1]), (1, I64 1)] _).le _
    refine St.le.trans (St.le_freezeC (c := b11) (j := 0) (b := b8) (off := 0) (len := 1) (sz := 1) (k := .svs [U8 1]) (cs := [.os b8 0 1 1, .os b9 0 1 1, .os b10 0 1 1]) (by rw [find_cons, if_pos rfl]; try rfl) h3 (by simp) rfl (by simp [find_cons, h1, g1, h2, g2, h3, g3, h4, g4, h5, g5, h6, g6]) (by decide) (fun j => [U8 ([1].getD j 0)]) (fun p hp => by
      obtain rfl : p = 0 := by omega
      rfl)) ?_
    simp only [Heap.del, Heap.upd, h1, g1, h2, g2, h3, g3, h4, g4, h5, g5, h6, g6, if_true, if_false, List.set_cons_zero, List.set_cons_succ]
    refine St.le.trans (St.le_freezeC (c := b11) (j := 1) (b := b9) (off := 0) (len := 1) (sz := 1) (k := .svs [U8 2]) (cs := [UL [1], .os b9 0 1 1, .os b10 0 1 1]) (by rw [find_cons, if_pos rfl]; try rfl) h2 (by simp) rfl (by simp [find_cons, h1, g1, h2, g2, h3, g3, h4, g4, h5, g5, h6, g6]) (by decide) (fun j => [U8 ([2].getD j 0)]) (fun p hp => by
      obtain rfl : p = 0 := by omega
      rfl)) ?_
    simp only [Heap.del, Heap.upd, h1, g1, h2, g2, h3, g3, h4, g4, h5, g5, h6, g6, if_true, if_false, List.set_cons_zero, List.set_cons_succ]
    refine St.le.trans (St.le_freezeC (c := b11) (j := 2) (b := b10) (off := 0) (len := 1) (sz := 1) (k := .svs [U8 11]) (cs := [UL [1], UL [2], .os b10 0 1 1]) (by rw [find_cons, if_pos rfl]; try rfl) h1 (by simp) rfl (by simp [find_cons, h1, g1, h2, g2, h3, g3, h4, g4, h5, g5, h6, g6]) (by decide) (fun j => [U8 ([11].getD j 0)]) (fun p hp => by
      obtain rfl : p = 0 := by omega
      rfl)) ?_
    simp only [Heap.del, Heap.upd, h1, g1, h2, g2, h3, g3, h4, g4, h5, g5, h6, g6, if_true, if_false, List.set_cons_zero, List.set_cons_succ]
    refine St.le.trans (St.le_freezeA (i := 0) (j := 2) (b := b11) (off := 0) (len := 3) (sz := 1) rfl (by simp) rfl (by rw [find_cons, if_pos rfl]) (by decide) (fun i => [UL ([[1], [2], [11]].getD i [])]) (fun p hp => by
      have h9 : p = 0 ∨ p = 1 ∨ p = 2 := by omega
      rcases h9 with rfl | rfl | rfl <;> rfl)) ?_
    simp only [Heap.del, if_true]
    exact St.le.refl _
  exact Call.mono (Call.frame (h2 := H) c1) fun r' h' ⟨h1, e, e1, e2⟩ => ⟨e1, by rw [e, e2]; rfl⟩
theorem ex_c : PCall Tryz.prog 45 [] (DB exT) := by
  have wA := wideA
  have wB := wideB
  have eA : wideS rcA 2 = ⟨⟨#[114]⟩, nm8.take 2, (wideS rcA 2).rows⟩ := rfl
  have eB : wideS rcB 1 = ⟨⟨#[114]⟩, nm8.take 1, (wideS rcB 1).rows⟩ := rfl
  have eT : exT = [⟨⟨#[114]⟩, nm8.take 2, (wideS rcA 2).rows⟩, ⟨⟨#[115]⟩, [⟨#[99]⟩], (wideS rcB 1).rows⟩] := rfl
  rw [eT]
  rw [eA] at wA
  rw [eB] at wB
  clear eA eB eT
  generalize (wideS rcA 2).rows = rA at *
  generalize (wideS rcB 1).rows = rB at *
  generalize nm8.take 2 = nA at *
  generalize nm8.take 1 = nB at *
  refine Call.enter' (N := 21) (rs := [.cell 0 26]) Tryz.func45 rfl rfl rfl (by decide) rfl ?_; simp only [argT]; have hD : (0 : Nat) = 0 := rfl
  repeat' first | ((with_reducible refine Call.mono (wA _ _ _ ?_ ?_ ?_ _) ?_); (simp [hD]); (simp [hD]); (simp [hD]); (intro rr h' hx); (obtain ⟨rfl, rfl⟩ := hx); (try simp only [go_sem, hD])) | ((with_reducible refine Call.mono (wB _ _ _ _ ?_ ?_ ?_ ?_ ?_ ?_ _) ?_); (simp [hD]); (simp [hD]); (simp [hD]); (simp [hD]); (simp [hD]); (simp [hD]); (intro rr h' hx); (obtain ⟨rfl, rfl⟩ := hx); (try simp only [go_sem, hD])) | (refine SW.seq_k fun K hK => ?_) | ((first | refine SW.region ?_ | refine SW.ret ?_ | (refine allF_i fun b hb => ?_; replace hD := And.intro hb hD; clear hb; try simp only [fresh_cons, fresh_nil, and_true, ne_eq, neF] at hD)); try simp only [go_sem, hD, true_implies]) | (apply hK; clear hK K)
  obtain ⟨T, rfl⟩ : ∃ x, x = b := ⟨_, rfl⟩
  obtain ⟨A, rfl⟩ : ∃ x, x = b := ⟨_, rfl⟩
  obtain ⟨X2, rfl⟩ : ∃ x, x = b := ⟨_, rfl⟩
  obtain ⟨q1, rfl⟩ : ∃ x, x = b := ⟨_, rfl⟩
  obtain ⟨q2, rfl⟩ : ∃ x, x = b := ⟨_, rfl⟩
  obtain ⟨q3, rfl⟩ : ∃ x, x = b := ⟨_, rfl⟩
  obtain ⟨q4, rfl⟩ : ∃ x, x = b := ⟨_, rfl⟩
  obtain ⟨X1, rfl⟩ : ∃ x, x = b := ⟨_, rfl⟩
  obtain ⟨q5, rfl⟩ : ∃ x, x = b := ⟨_, rfl⟩
  obtain ⟨q6, rfl⟩ : ∃ x, x = b := ⟨_, rfl⟩
  obtain ⟨q7, rfl⟩ : ∃ x, x = b := ⟨_, rfl⟩
  obtain ⟨O, rfl⟩ : ∃ x, x = b := ⟨_, rfl⟩
  refine retQ_le (S' := ⟨[(0, .fp [TL [⟨⟨#[114]⟩, nA, rA⟩, ⟨⟨#[115]⟩, [⟨#[99]⟩], rB⟩]])], []⟩) ?_ ?_
  · skip
    refine St.le.trans (St.le_freezeC (c := T) (j := 4) (b := A) (off := 0) (len := 1) (sz := 1) (by first | (rw [find_cons, if_pos rfl]) | (simp [find_cons, hD]; done) | (simp [find_cons, hD]; rfl)) (by simp [hD]) (by first | decide | simp [Blk.len_svs]) rfl (by first | (rw [find_cons, if_pos rfl]) | (simp [find_cons, hD]; done) | (simp [find_cons, hD]; rfl)) (by first | decide | simp [Blk.len_svs]) (sF [⟨#[99]⟩]) (fun p hp => by
      obtain rfl : p = 0 := by omega
      rfl)) ?_
    simp only [go_sem, hD]
    refine St.le.trans (St.le_freezeC (c := O) (j := 0) (b := T) (off := 0) (len := 2) (sz := 3) (by first | (rw [find_cons, if_pos rfl]) | (simp [find_cons, hD]; done) | (simp [find_cons, hD]; rfl)) (by simp [hD]) (by first | decide | simp [Blk.len_svs]) rfl (by first | (rw [find_cons, if_pos rfl]) | (simp [find_cons, hD]; done) | (simp [find_cons, hD]; rfl)) (by first | decide | simp [Blk.len_svs]) (tF [⟨⟨#[114]⟩, nA, rA⟩, ⟨⟨#[115]⟩, [⟨#[99]⟩], rB⟩]) (fun p hp => by
      have h9 : p = 0 ∨ p = 1 := by omega
      rcases h9 with rfl | rfl <;> rfl)) ?_
    simp only [go_sem, hD]
    refine St.le.trans (St.le_freezeP (i := 0) (b := O) (off := 0) (n := 1) rfl (by first | (rw [find_cons, if_pos rfl]) | (simp [find_cons, hD]; done) | (simp [find_cons, hD]; rfl)) (by exact Nat.le_refl 1)) ?_
    refine St.le_drop.trans ?_
    simp only [getN, Blk.get, go_sem, hD]
    exact St.le_sub (by repeat' (first | exact rfl | exact trivial | constructor))
  simp only [resL_tmp, resL_cellE, resC_ok, resL_nil, tupOf, getN, go_sem, hD]
  try exact ⟨rfl, rfl⟩
end Go.Proofs.YtpidncgibgiidaaGreat
namespace Go.Ab.A15
open Go Go.Ab Go.Ab.A34 Go.Ab.A01 Go.Proofs.YtpidncgibgiidaaGreat
theorem mok_of {db : List Tb} (h : chkS db = 0) (hn : OkN db) : ∀ s ∈ db, ∀ t ∈ db, MOk s t := fun s hs t ht => by
  have V := chkS_ok h
  obtain ⟨a1, a2, a3⟩ := valid_rows (V.v s hs)
  obtain ⟨b1, b2, b3⟩ := valid_rows (V.v t ht)
  exact ⟨a1, b1, fun r hr => ⟨⟨(a3 r hr).2, hn s hs r hr⟩, (a3 r hr).1⟩, fun r hr => ⟨⟨(b3 r hr).2, hn t ht r hr⟩, (b3 r hr).1⟩, by omega, by omega⟩
theorem chkD_S {db : List Tb} (h : chkD db = 0) : chkS db = 0 := by
  unfold chkD at h
  split at h
  · rename_i h1; exact h1
  · exact h
def wantE : List Dp := [⟨⟨#[114]⟩, [1], ⟨#[114]⟩, [0]⟩, ⟨⟨#[114]⟩, [0], ⟨#[115]⟩, [0]⟩, ⟨⟨#[114]⟩, [1], ⟨#[115]⟩, [0]⟩]
theorem exE_chk : chkD exT = 0 := by decide +kernel
theorem exE_n : OkN exT := by
  have h : exT.all (fun t => t.rows.all fun r => r.2.all fun v => decide (-9223372036854775808 ≤ v.2.1) && decide (v.2.1 ≤ 9223372036854775807)) = true := by decide +kernel
  intro t ht r hr v hv
  have := List.all_eq_true.1 (List.all_eq_true.1 (List.all_eq_true.1 h t ht) r hr) v hv
  simp only [Bool.and_eq_true, decide_eq_true_eq] at this
  exact this
theorem srtD_id {l : List Dp} (h : l.Pairwise LtD) : srtD l = l :=
  pwD_eq (srtD_pw (h.imp fun {a b} hab e => by unfold LtD at hab; omega)) h fun x => (srtD_perm l).mem_iff
def unsP (db : List Tb) (ar i k : Nat) : List Dp := (exS (qB (db.getD i t0) (db.getD k t0) (decide ((i : Int) = (k : Int)))) (db.getD i t0).attrs.length (db.getD k t0).attrs.length ar [] []).map (mkD (db.getD i t0) (db.getD k t0))
def pwB : List Dp → Bool
  | [] => true
  | a :: l => l.all (fun b => decide (cmpD a b < 0)) && pwB l
theorem pwB_ok : ∀ {l : List Dp}, pwB l = true → l.Pairwise LtD
  | [], _ => .nil
  | a :: l, h => by
    unfold pwB at h
    simp only [Bool.and_eq_true] at h
    exact .cons (fun b hb => show cmpD a b < 0 from of_decide_eq_true (List.all_eq_true.1 h.1 b hb)) (pwB_ok h.2)
theorem unsP_eq {db : List Tb} {ar i k : Nat} {l : List Dp} (h : unsP db ar i k = l) (hl : pwB l = true) : pairP db ar i k = l := by
  show srtD (unsP db ar i k) = l
  rw [h]
  exact srtD_id (pwB_ok hl)
theorem exE_all (ar : Nat) {a b c d : List Dp} (ha : pairP exT ar 0 0 = a) (hb : pairP exT ar 0 1 = b) (hc : pairP exT ar 1 0 = c) (hd : pairP exT ar 1 1 = d) : allP exT ar 0 = a ++ b ++ (c ++ d) := by
  show (pairP exT ar 0 0 ++ (pairP exT ar 0 1 ++ [])) ++ ((pairP exT ar 1 0 ++ (pairP exT ar 1 1 ++ [])) ++ []) = _
  rw [ha, hb, hc, hd]
  simp only [List.append_nil]
theorem exE_1 : allP exT 1 0 = wantE :=
  exE_all 1 (a := [⟨⟨#[114]⟩, [1], ⟨#[114]⟩, [0]⟩]) (b := [⟨⟨#[114]⟩, [0], ⟨#[115]⟩, [0]⟩, ⟨⟨#[114]⟩, [1], ⟨#[115]⟩, [0]⟩]) (c := []) (d := []) (unsP_eq (by decide +kernel) (by decide +kernel)) (unsP_eq (by decide +kernel) (by decide +kernel)) (unsP_eq (by decide +kernel) (by decide +kernel)) (unsP_eq (by decide +kernel) (by decide +kernel))
theorem exE_6 : allP exT 6 0 = wantE :=
  exE_all 6 (a := [⟨⟨#[114]⟩, [1], ⟨#[114]⟩, [0]⟩]) (b := [⟨⟨#[114]⟩, [0], ⟨#[115]⟩, [0]⟩, ⟨⟨#[114]⟩, [1], ⟨#[115]⟩, [0]⟩]) (c := []) (d := []) (unsP_eq (by decide +kernel) (by decide +kernel)) (unsP_eq (by decide +kernel) (by decide +kernel)) (unsP_eq (by decide +kernel) (by decide +kernel)) (unsP_eq (by decide +kernel) (by decide +kernel))
theorem exE_max : maxP (allP exT 6 0) = wantE := by rw [exE_6]; decide +kernel
def keyE1 : List Ky := [(⟨#[115]⟩, 1)]
theorem exE_key : keyE exT keyE1 = 0 := by decide +kernel
theorem exE_for : ((allP exT 6 0).filter fun d => !(notF keyE1 d)) = [⟨⟨#[114]⟩, [0], ⟨#[115]⟩, [0]⟩, ⟨⟨#[114]⟩, [1], ⟨#[115]⟩, [0]⟩] := by rw [exE_6]; decide +kernel
theorem exE_vE : vE exT ⟨⟨#[115]⟩, [0], ⟨#[114]⟩, [0]⟩ = 0 := by decide +kernel
theorem exE_cov : covS exT ⟨⟨#[115]⟩, [0], ⟨#[114]⟩, [0]⟩ = (2, 3, 0) := by decide +kernel
theorem exE_F (ar : Nat) (h : ar ≤ 6) (hl : allP exT ar 0 = wantE) : OkF exT ar := ⟨by decide, mok_of (chkD_S exE_chk) exE_n, by rw [hl]; decide, h⟩
end Go.Ab.A15
namespace Go.Ab.A15
open Go Go.Ab Go.Ab.A34 Go.Ab.A01
theorem adj_lt {l : List Int} (h : ∀ i, i < l.length → 0 < i → l.getD (i - 1) 0 < l.getD i 0) : ∀ (d i : Nat), i + d + 1 < l.length → l.getD i 0 < l.getD (i + d + 1) 0
  | 0, i, hi => h (i + 1) hi (by omega)
  | d + 1, i, hi => by
    have h1 := adj_lt h d i (by omega)
    have h2 := h (i + (d + 1) + 1) hi (by omega)
    rw [Nat.add_sub_cancel] at h2
    rw [show i + (d + 1) = i + d + 1 by omega] at *
    omega
theorem adj_pw {l : List Int} : (∀ i, i < l.length → 0 < i → l.getD (i - 1) 0 < l.getD i 0) ↔ l.Pairwise (· < ·) := by
  rw [List.pairwise_iff_getElem]
  constructor
  · intro h i j hi hj hij
    have := adj_lt h (j - i - 1) i (by omega)
    rw [show i + (j - i - 1) + 1 = j by omega] at this
    simpa [List.getD_eq_getElem?_getD, hi, hj] using this
  · intro h i hi h0
    have := h (i - 1) i (by omega) hi (by omega)
    have h1 : i - 1 < l.length := by omega
    simpa [List.getD_eq_getElem?_getD, hi, h1] using this
theorem take_nd {r : List Int} : (∀ i, i < r.length → ¬ r.getD i 0 ∈ r.take i) ↔ r.Nodup := by
  unfold List.Nodup
  rw [List.pairwise_iff_getElem]
  constructor
  · intro h i j hi hj hij e
    refine h j hj ?_
    rw [show r.getD j 0 = r[j] by simp [List.getD_eq_getElem?_getD, hj], ← e]
    exact List.mem_take_iff_getElem.2 ⟨i, by omega, rfl⟩
  · intro h i hi hm
    obtain ⟨j, hj, e⟩ := List.mem_take_iff_getElem.1 hm
    rw [show r.getD i 0 = r[i] by simp [List.getD_eq_getElem?_getD, hi]] at e
    exact h j i (by omega) hi (by omega) e
theorem canD_iff {f t : ByteArray} {l r : List Int} : CanD ⟨f, l, t, r⟩ ↔ l ≠ [] ∧ l.length = r.length ∧ l.Pairwise (· < ·) ∧ r.Nodup ∧ (f = t → ∀ p ∈ l.zip r, p.1 ≠ p.2) := by
  unfold CanD canI
  simp only
  rw [← adj_pw, ← take_nd]
  constructor
  · rintro ⟨h0, hl, h⟩
    refine ⟨List.length_pos_iff.1 h0, hl, fun i hi h1 => (h i hi).1 h1, fun i hi => (h i (by omega)).2.1, fun e p hp e2 => ?_⟩
    obtain ⟨i, hi, rfl⟩ := List.mem_iff_getElem.1 hp
    rw [List.length_zip] at hi
    rw [List.getElem_zip] at e2
    have hi1 : i < l.length := by omega
    have hi2 : i < r.length := by omega
    refine (h i hi1).2.2 ⟨e, ?_⟩
    simpa [List.getD_eq_getElem?_getD, hi1, hi2] using e2
  · rintro ⟨h0, hl, h1, h2, h3⟩
    refine ⟨List.length_pos_iff.2 h0, hl, fun i hi => ⟨fun hp => h1 i hi hp, h2 i (by omega), ?_⟩⟩
    rintro ⟨e, e2⟩
    have hi2 : i < r.length := by omega
    refine h3 e (l[i], r[i]) (List.mem_iff_getElem.2 ⟨i, by rw [List.length_zip]; omega, by rw [List.getElem_zip]⟩) ?_
    simpa [List.getD_eq_getElem?_getD, hi, hi2] using e2
theorem hM_iff {F T : List R3} {l r : List Int} : hM F T l r = true ↔ violS F T l r = [] := by
  rw [viol_nil]
  unfold hM
  simp only [Bool.not_eq_true', List.any_eq_false, Bool.not_eq_true', Bool.not_eq_false, List.any_eq_true, agB_iff, Bool.not_eq_true]
  simp only [Classical.not_forall, Classical.not_not, exists_prop]
theorem ns_at {db : List Tb} {j : Nat} (hj : j < db.length) : (nsOf db).getD j 0 = (db.getD j t0).attrs.length := by
  unfold nsOf
  simp [List.getD_eq_getElem?_getD, hj]
theorem vE_fit {db : List Tb} {d : Dp} (h : chkS db = 0) : vE db d = 0 ↔ Fit (nmsOf db) (nsOf db) d := by
  unfold vE
  rw [if_neg (fun x => x h)]
  exact ⟨fits_ok, fitsS_of⟩
open Classical in
theorem qR_iff {db : List Tb} (h : chkS db = 0) {i k : Nat} (hi : i < db.length) (hk : k < db.length) (l r : List Int) : qR db (db.getD i t0) (db.getD k t0) l r = qB (db.getD i t0) (db.getD k t0) (decide ((i : Int) = (k : Int))) l r := by
  have V := chkS_ok h
  obtain ⟨mi, xi⟩ := idx_at V.n hi
  obtain ⟨mk, xk⟩ := idx_at V.n hk
  have nm : (db.getD i t0).name = (db.getD k t0).name ↔ decide ((i : Int) = (k : Int)) = true := by
    rw [decide_eq_true_eq]
    constructor
    · intro e
      rw [e, xk] at xi
      omega
    · intro e
      obtain rfl : i = k := by omega
      rfl
  rw [Bool.eq_iff_iff, qB_iff, canB_iff]
  unfold qR hldB
  rw [Bool.and_eq_true, Bool.and_eq_true, decide_eq_true_eq, decide_eq_true_eq, List.isEmpty_iff, canD_iff, vE_fit h]
  unfold rowsAt
  rw [xi, xk, ← hM_iff]
  constructor
  · rintro ⟨⟨a1, a2, a3, a4, a5⟩, F, v⟩
    have f1 := F.l
    have f2 := F.r
    simp only at f1 f2
    rw [xi, ns_at hi] at f1
    rw [xk, ns_at hk] at f2
    exact ⟨⟨a1, a2, a3, a4, fun e => a5 (nm.2 e)⟩, f1, f2, v⟩
  · rintro ⟨⟨a1, a2, a3, a4, a5⟩, f1, f2, v⟩
    refine ⟨⟨a1, a2, a3, a4, fun e => a5 (nm.1 e)⟩, ⟨mi, mk, a2, ?_, ?_, a3.imp fun {x y} hxy => Int.ne_of_lt hxy, a4⟩, v⟩
    · simp only
      rw [xi, ns_at hi]
      exact f1
    · simp only
      rw [xk, ns_at hk]
      exact f2
theorem q_len {q : List Int → List Int → Bool} {nf nt : Nat} (h : Pq q nf nt) {l r : List Int} (hq : q l r = true) : l.length ≤ nf ∧ r.length ≤ nf := by
  have h1 := few_nums (n := nf) ((h.asc hq).imp fun {x y} hxy => Int.ne_of_lt hxy) (h.inl hq)
  have h2 := h.len hq
  exact ⟨h1, by omega⟩
end Go.Ab.A15
namespace Go.Ab
open Go Go.RowKit
theorem Call.frzT [Gl] {P : Program} {f : FuncId} {args : List SV} {h : Heap} {Q Q' : SV → Heap → Prop} (hc : Call P f args h Q) (hq : ∀ r h1, Q r h1 → ∃ a b a2, r = .tup [a, b] ∧ (St.mk [(0, a), (1, b)] h1).le ⟨[(0, a2), (1, b)], []⟩ ∧ Q' (.tup [a2, b]) []) : Call P f args h Q' :=
  ⟨fun M w vs own hr => (hc.out M w vs own hr).mono fun e w' ⟨v, r, h', he, hQ, hv, own', frm, hh⟩ => by
    obtain ⟨a, b, a2, rfl, hle, hQ'⟩ := hq _ _ hQ
    cases hv with
    | tup c _ hl hr2 =>
      have r1 : Rel M w' (fun _ => True) c.size (St.mk [(0, a), (1, b)] h') ⟨c, []⟩ w' := by
        refine ⟨rfl, rfl, fun i => ?_, own', Frm.refl _ _, fun _ _ _ => trivial⟩
        match i with
        | 0 => exact hr2 0 (by simp)
        | 1 => exact hr2 1 (by simp)
        | i + 2 => exact .any _
      have r2 := hle M w' (fun _ => True) c.size ⟨c, []⟩ w' r1
      refine ⟨_, _, [], he, hQ', .tup c _ (by simpa using hl) (fun j hj => ?_), r2.own, frm, fun b hb => by obtain ⟨k, hk⟩ := hb; cases hk⟩
      have : j = 0 ∨ j = 1 := by have h : j < 2 := hj; omega
      rcases this with rfl | rfl
      · exact r2.t 0
      · exact r2.t 1⟩
end Go.Ab
namespace Go.Proofs.YtpidncgibgiidaaGreat
open Go Go.Ab Go.Ab.A34 Go.Ab.A15 Go.Ab.A01
variable [Gl] [Tabs]
theorem pure_acc {f : Nat} {args : List SV} {L : List Dp} (hc : Ab.Call Tryz.prog f args [] (fun r h' => ∃ x, r = .tup [x, I64 0] ∧ Acc 4 x h' [] L.length (dCs L))) : PCall Tryz.prog f args (.tup [DpL L, I64 0]) :=
  Call.frzT hc fun r h1 ⟨x, e, hA⟩ => ⟨x, I64 0, DpL L, e, (St.le_acc_fl (i := 0) rfl hA (dpF L) (fun j hj => fC_at (enc := dC) (k := 4) (fun _ => rfl) d0 L j hj)).trans (St.le_sub (by repeat' (first | exact rfl | exact trivial | constructor))), ⟨rfl, rfl⟩⟩
theorem wantE_s : ∀ d ∈ wantE, OkS d := by
  intro d hd
  have h : wantE.all (fun d => decide (d.l.length ≤ 5) && decide (d.r.length ≤ 5)) = true := by decide
  have := List.all_eq_true.1 h d hd
  simp only [Bool.and_eq_true, decide_eq_true_eq] at this
  exact ⟨by omega, by omega⟩
theorem wantE_6 : ∀ d ∈ wantE, Ok6 d := by
  intro d hd
  have h : wantE.all (fun d => decide (d.l.length = d.r.length) && decide (d.l.length ≤ 5)) = true := by decide
  have := List.all_eq_true.1 h d hd
  simp only [Bool.and_eq_true, decide_eq_true_eq] at this
  exact ⟨by omega, by omega⟩
theorem exE_un : PCall Tryz.prog 14 [DB exT] (.tup [DpL wantE, I64 0]) := by
  have h := unary_p exT (exE_F 1 (by omega) exE_1) exE_chk
  unfold AllC at h
  rw [exE_1] at h
  exact pure_acc h
theorem exE_mx : PCall Tryz.prog 16 [DB exT] (.tup [DpL wantE, I64 0]) := by
  have h := maximal_p exT (by decide) (allP exT 6 0) rfl (by rw [exE_6]; decide) (by rw [exE_6]; exact wantE_6) (all_p exT 6 (exE_F 6 (by omega) exE_6) exE_chk (by omega))
  rw [exE_max] at h
  exact pure_acc h
theorem exE_fo : PCall Tryz.prog 24 [DB exT, KyL keyE1] (.tup [DpL [⟨⟨#[114]⟩, [0], ⟨#[115]⟩, [0]⟩, ⟨⟨#[114]⟩, [1], ⟨#[115]⟩, [0]⟩], I64 0]) := by
  have h := foreign_p exT keyE1 (by decide) (exE_F 6 (by omega) exE_6) exE_chk (by rw [exE_6]; intro d hd; have := (wantE_s d hd); have := wantE_6 d hd; have := this.e; have := this; have h2 := (wantE_6 d hd).l; omega)
  rw [exE_key] at h
  refine pure_acc (Call.mono h fun r h' hq => ?_)
  unfold ForQ at hq
  rw [if_pos rfl, exE_for] at hq
  exact hq
theorem exE_co : PCall Tryz.prog 31 [DB exT, .agg [Str ⟨#[115]⟩, IL [0], Str ⟨#[114]⟩, IL [0]]] (FR (2, 3, 0)) := by
  have h := coverage_p exT ⟨⟨#[115]⟩, [0], ⟨#[114]⟩, [0]⟩ (by decide) ⟨by decide, by decide⟩ exE_n exE_vE
  rw [exE_cov] at h
  exact h
end Go.Proofs.YtpidncgibgiidaaGreat
