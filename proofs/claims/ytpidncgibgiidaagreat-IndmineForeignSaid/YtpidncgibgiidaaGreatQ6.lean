/- Several texts in one: NJ, NK, NL, NM, NN, NO, NP, NQ, NT, NU. -/
import Derived.Test.YtpidncgibgiidaaGreatQ5
import Derived.Test.YtpidncgibgiidaaGreatZ23
import Derived.Test.YtpidncgibgiidaaGreatQ4
import Derived.Test.YtpidncgibgiidaaGreatZ24
import Derived.Test.YtpidncgibgiidaaGreatZ15
set_option linter.unusedSimpArgs false
set_option linter.unusedVariables false
set_option linter.unusedSectionVars false
set_option maxHeartbeats 8000000
set_option maxRecDepth 20000
namespace Go.Ab.A15
open Go Go.Ab Go.Ab.A34
theorem flat_step {α β : Type} {l : List α} {i : Nat} {d : α} {F : α → List β} (h : i < l.length) : (l.drop i).flatMap F = F (l.getD i d) ++ (l.drop (i + 1)).flatMap F := by
  have g : l.getD i d = l[i] := by simp [List.getD_eq_getElem?_getD, h]
  rw [List.drop_eq_getElem_cons h, List.flatMap_cons, g]
end Go.Ab.A15
namespace Go.Proofs.YtpidncgibgiidaaGreat
open Go Go.Ab Go.Ab.A34 Go.Ab.A15 Go.Ab.A01
variable [Gl] [Tabs]
theorem hol_a (db : List Tb) (f t : Tb) (most : Nat) (h : OkH db f t most) (x : SV) (now : List Dp) (kk i : Nat) (p : Pr) (hi : i < now.length) (hp : now.getD i d0 = mkD f t p) (hpl : p.1.length ≤ 10 ∧ p.2.length ≤ 10) (hnow : now.length ≤ 10000) (x2 : SV) (hh h1 : Heap) (ms : List Dp) (hA : Acc 4 x2 hh h1 ms.length (dCs ms)) (hb : ms.length + (lvA (qR db f t) f.attrs.length t.attrs.length p 0).length ≤ 10000) :
    Ab.SW Tryz.prog 130 (blk 4 Tryz.f49) (nrm fun S => ∃ x' h', Acc 4 x' h' h1 (ms ++ (lvA (qR db f t) f.attrs.length t.attrs.length p 0).map (mkD f t)).length (dCs (ms ++ (lvA (qR db f t) f.attrs.length t.attrs.length p 0).map (mkD f t))) ∧ S.le ⟨[(3, I64 most), (4, .fp [TL db]), (5, .fp (tC f)), (6, .fp (tC t)), (9, x), (10, DpL now), (11, I64 kk), (12, x'), (13, I64 i)], h'⟩)
      ⟨[(3, I64 most), (4, .fp [TL db]), (5, .fp (tC f)), (6, .fp (tC t)), (9, x), (10, DpL now), (11, I64 kk), (12, x2), (13, I64 i), (14, I64 (0 : Nat))], hh⟩ := by
  obtain ⟨A, hAe⟩ : ∃ A, A = ms ++ (lvA (qR db f t) f.attrs.length t.attrs.length p 0).map (mkD f t) := ⟨_, rfl⟩
  have hAl : A.length ≤ 10000 := by rw [hAe, List.length_append, List.length_map]; exact hb
  rw [← hAe]
  have haf := h.af
  conv => arg 3; whnf
  refine SW.block ?_
  obtain ⟨I, hI⟩ : ∃ I : Nat → St → Prop, ∀ k S, I k S ↔ (∃ (a : Nat) (x2 : SV) (hh : Heap) (ms : List Dp), k = f.attrs.length - a ∧ a ≤ f.attrs.length ∧ Acc 4 x2 hh h1 ms.length (dCs ms) ∧ A = ms ++ (lvA (qR db f t) f.attrs.length t.attrs.length p a).map (mkD f t) ∧ S = ⟨[(3, I64 most), (4, .fp [TL db]), (5, .fp (tC f)), (6, .fp (tC t)), (9, x), (10, DpL now), (11, I64 kk), (12, x2), (13, I64 i), (14, I64 a)], hh⟩) := ⟨fun k S => _, fun _ _ => Iff.rfl⟩
  refine SW.loop' I (f.attrs.length) ((hI _ _).2 ⟨0, x2, hh, ms, rfl, Nat.zero_le _, hA, hAe, rfl⟩) (by repeat' (first | exact rfl | exact trivial | constructor)) ?_
  intro k S hIn
  obtain ⟨a, x2, hh, ms, rfl, hi, hA2, hA3, rfl⟩ := (hI _ _).1 hIn
  clear hIn
  have ie : ((a : Nat) : Int).toNat = a := Int.toNat_natCast _
  have i0 : (0 : Int) ≤ ((a : Nat) : Int) := by omega
  clear hA hAe hb
  by_cases hlt : a < f.attrs.length
  · have hli : ((a : Nat) : Int) < (((f.attrs.length) : Nat) : Int) := by omega
    have w1 : IntKind.i64.wrap ((a : Int) + 1) = ((a + 1 : Nat) : Int) := by rw [i64_wrap (by omega) (by omega)]; omega
    rw [lvA_step hlt, List.map_append, ← List.append_assoc] at hA3
    have hlen3 : ms.length + (lvB (qR db f t) t.attrs.length p a 0).length ≤ 10000 := by
      rw [hA3] at hAl
      simp only [List.length_append, List.length_map] at hAl
      omega
    have hin := hol_b db f t most h x now kk i a p ‹_› hp hpl hnow hlt x2 hh h1 ms hA2 hlen3
    generalize hYe : lvA (qR db f t) f.attrs.length t.attrs.length p (a + 1) = Y at *
    generalize lvB (qR db f t) t.attrs.length p a 0 = W at *
    generalize qR db f t = q at *
    clear hA2 hp
    obtain ⟨fn, fa, frs⟩ := f
    obtain ⟨tn, ta, trs⟩ := t
    simp only at *
    have hD : (0 : Nat) = 0 := rfl
    repeat' first | (refine SW.seq_k fun K hK => ?_) | ((first | refine SW.region ?_ | refine SW.cond ?_ | refine SW.skip ?_); try simp only [go_sem, hD, hli, ie, i0, w1, true_implies]) | (apply hK; clear hK K)
    refine SW.block ?_
    repeat' first | (refine SW.seq_k fun K hK => ?_) | (refine SW.region ?_; try simp only [go_sem, hD, hli, ie, i0, w1, true_implies]) | (apply hK; clear hK K)
    refine Ab.SW.cut _ (Ab.SW.le (St.le_sub (by repeat' (first | exact rfl | exact trivial | constructor))) hin) ?_
    rintro S' ⟨x3, h3, hA4, hle⟩
    try simp only [go_sem, hD]
    (first | apply hK | (clear hK K; apply hK) | (clear hK K; clear hK K; apply hK)); clear hK K
    refine Ab.SW.le hle ?_
    clear hle hin
    repeat' (refine SW.region ?_; try simp only [go_sem, hD, hli, ie, i0, w1, true_implies])
    refine Rnd.sub (fa.length - (a + 1)) (by omega) ((hI _ _).2 ⟨a + 1, x3, h3, (ms ++ W.map (mkD ⟨fn, fa, frs⟩ ⟨tn, ta, trs⟩)), rfl, by omega, hA4, by rw [hYe]; exact hA3, rfl⟩) (by repeat' (first | exact rfl | exact trivial | constructor))
  · have hli : ¬ ((a : Nat) : Int) < (((f.attrs.length) : Nat) : Int) := by omega
    rw [lvA_end (by omega), List.map_nil, List.append_nil] at hA3
    subst hA3
    obtain ⟨fn, fa, frs⟩ := f
    obtain ⟨tn, ta, trs⟩ := t
    simp only at *
    have hD : (0 : Nat) = 0 := rfl
    repeat' first | (refine SW.seq_k fun K hK => ?_) | ((first | refine SW.region ?_ | refine SW.cond ?_ | refine SW.exit ?_); try simp only [go_sem, hD, hli, true_implies]) | (apply hK; clear hK K)
    exact ⟨x2, hh, hA2, St.le_sub (by repeat' (first | exact rfl | exact trivial | constructor))⟩
theorem hol_i (db : List Tb) (f t : Tb) (most : Nat) (h : OkH db f t most) (x : SV) (now : List Pr) (kk : Nat) (hpl : ∀ p ∈ now, p.1.length ≤ 10 ∧ p.2.length ≤ 10) (hnow : now.length ≤ 10000) (h1 : Heap) (hb : (lvS (qR db f t) f.attrs.length t.attrs.length now).length ≤ 10000) :
    Ab.SW Tryz.prog 130 (blk 2 Tryz.f49) (nrm fun S => ∃ x' h', Acc 4 x' h' h1 ((lvS (qR db f t) f.attrs.length t.attrs.length now).map (mkD f t)).length (dCs ((lvS (qR db f t) f.attrs.length t.attrs.length now).map (mkD f t))) ∧ S.le ⟨[(3, I64 most), (4, .fp [TL db]), (5, .fp (tC f)), (6, .fp (tC t)), (9, x), (11, I64 kk), (12, x')], h'⟩)
      ⟨[(3, I64 most), (4, .fp [TL db]), (5, .fp (tC f)), (6, .fp (tC t)), (9, x), (10, DpL (now.map (mkD f t))), (11, I64 kk), (12, SN), (13, I64 (0 : Nat))], h1⟩ := by
  obtain ⟨A, hAe⟩ : ∃ A, A = ((now.drop 0).flatMap fun p => lvA (qR db f t) f.attrs.length t.attrs.length p 0).map (mkD f t) := ⟨_, rfl⟩
  have hAe2 : (lvS (qR db f t) f.attrs.length t.attrs.length now).map (mkD f t) = A := hAe.symm
  have hAl : A.length ≤ 10000 := by rw [← hAe2, List.length_map]; exact hb
  rw [hAe2]
  have hml : (now.map (mkD f t)).length = now.length := List.length_map _
  conv => arg 3; whnf
  refine SW.block ?_
  obtain ⟨I, hI⟩ : ∃ I : Nat → St → Prop, ∀ k S, I k S ↔ (∃ (i : Nat) (x2 : SV) (hh : Heap) (ms : List Dp), k = now.length - i ∧ i ≤ now.length ∧ Acc 4 x2 hh h1 ms.length (dCs ms) ∧ A = ms ++ ((now.drop i).flatMap fun p => lvA (qR db f t) f.attrs.length t.attrs.length p 0).map (mkD f t) ∧ S = ⟨[(3, I64 most), (4, .fp [TL db]), (5, .fp (tC f)), (6, .fp (tC t)), (9, x), (10, DpL (now.map (mkD f t))), (11, I64 kk), (12, x2), (13, I64 i)], hh⟩) := ⟨fun k S => _, fun _ _ => Iff.rfl⟩
  refine SW.loop' I (now.length) ((hI _ _).2 ⟨0, SN, h1, [], rfl, Nat.zero_le _, .nil 4 h1, hAe, rfl⟩) (by repeat' (first | exact rfl | exact trivial | constructor)) ?_
  intro k S hIn
  obtain ⟨i, x2, hh, ms, rfl, hi, hA2, hA3, rfl⟩ := (hI _ _).1 hIn
  clear hIn
  have ie : ((i : Nat) : Int).toNat = i := Int.toNat_natCast _
  have i0 : (0 : Int) ≤ ((i : Nat) : Int) := by omega
  clear hAe hb hAe2
  by_cases hlt : i < now.length
  · have hli : ((i : Nat) : Int) < (((now.map (mkD f t)).length : Nat) : Int) := by omega
    have w1 : IntKind.i64.wrap ((i : Int) + 1) = ((i + 1 : Nat) : Int) := by rw [i64_wrap (by omega) (by omega)]; omega
    rw [flat_step (d := ([], [])) hlt, List.map_append, ← List.append_assoc] at hA3
    have hlen3 : ms.length + (lvA (qR db f t) f.attrs.length t.attrs.length (now.getD i ([], [])) 0).length ≤ 10000 := by
      rw [hA3] at hAl
      simp only [List.length_append, List.length_map] at hAl
      omega
    have hgd : (now.map (mkD f t)).getD i d0 = mkD f t (now.getD i ([], [])) := by simp [List.getD_eq_getElem?_getD, hlt]
    have hin := hol_a db f t most h x (now.map (mkD f t)) kk i (now.getD i ([], [])) (by omega) hgd (hpl _ (getD_mem' _ hlt)) (by omega) x2 hh h1 ms hA2 hlen3
    generalize lvA (qR db f t) f.attrs.length t.attrs.length (now.getD i ([], [])) 0 = W at *
    generalize hnw : now.map (mkD f t) = nw at *
    generalize qR db f t = q at *
    clear hA2 hgd
    obtain ⟨fn, fa, frs⟩ := f
    obtain ⟨tn, ta, trs⟩ := t
    simp only at *
    have hD : (0 : Nat) = 0 := rfl
    repeat' first | (refine SW.seq_k fun K hK => ?_) | ((first | refine SW.region ?_ | refine SW.cond ?_ | refine SW.skip ?_); try simp only [go_sem, hD, hli, ie, i0, w1, true_implies]) | (apply hK; clear hK K)
    refine SW.block ?_
    repeat' first | (refine SW.seq_k fun K hK => ?_) | (refine SW.region ?_; try simp only [go_sem, hD, hli, ie, i0, w1, true_implies]) | (apply hK; clear hK K)
    refine Ab.SW.cut _ (Ab.SW.le (St.le_sub (by repeat' (first | exact rfl | exact trivial | constructor))) hin) ?_
    rintro S' ⟨x3, h3, hA4, hle⟩
    try simp only [go_sem, hD]
    (first | apply hK | (clear hK K; apply hK) | (clear hK K; clear hK K; apply hK)); clear hK K
    refine Ab.SW.le hle ?_
    clear hle hin
    repeat' (refine SW.region ?_; try simp only [go_sem, hD, hli, ie, i0, w1, true_implies])
    refine Rnd.sub (now.length - (i + 1)) (by omega) ((hI _ _).2 ⟨i + 1, x3, h3, (ms ++ W.map (mkD ⟨fn, fa, frs⟩ ⟨tn, ta, trs⟩)), rfl, by omega, hA4, hA3, rfl⟩) (by repeat' (first | exact rfl | exact trivial | constructor))
  · have hli : ¬ ((i : Nat) : Int) < (((now.map (mkD f t)).length : Nat) : Int) := by omega
    rw [List.drop_of_length_le (by omega), List.flatMap_nil, List.map_nil, List.append_nil] at hA3
    subst hA3
    generalize now.map (mkD f t) = nw at *
    obtain ⟨fn, fa, frs⟩ := f
    obtain ⟨tn, ta, trs⟩ := t
    simp only at *
    have hD : (0 : Nat) = 0 := rfl
    repeat' first | (refine SW.seq_k fun K hK => ?_) | ((first | refine SW.region ?_ | refine SW.cond ?_ | refine SW.exit ?_); try simp only [go_sem, hD, hli, true_implies]) | (apply hK; clear hK K)
    exact ⟨x2, hh, hA2, St.le_sub (by repeat' (first | exact rfl | exact trivial | constructor))⟩
end Go.Proofs.YtpidncgibgiidaaGreat
namespace Go.Ab.A15
open Go Go.Ab Go.Ab.A34
theorem swap_inv {α : Type} (d : α) (lt : α → α → Prop) (tr : ∀ {x y z}, lt x y → lt y z → lt x z) {L : List α} {k i : Nat} (hk : k + 1 ≤ i) (hi : i < L.length)
    (h1 : ∀ a b, a < b → b ≤ i → ¬ a = k + 1 → ¬ b = k + 1 → lt (L.getD a d) (L.getD b d)) (h2 : ∀ b, k + 1 < b → b ≤ i → lt (L.getD (k + 1) d) (L.getD b d)) (hs : lt (L.getD (k + 1) d) (L.getD k d)) :
    let L' := (L.set (k + 1) (L.getD k d)).set k (L.getD (k + 1) d)
    (∀ a b, a < b → b ≤ i → ¬ a = k → ¬ b = k → lt (L'.getD a d) (L'.getD b d)) ∧ (∀ b, k < b → b ≤ i → lt (L'.getD k d) (L'.getD b d)) := by
  intro L'
  have g : ∀ j, j < L.length → L'.getD j d = if j = k then L.getD (k + 1) d else if j = k + 1 then L.getD k d else L.getD j d := fun j hj => by
    show ((L.set (k + 1) (L.getD k d)).set k (L.getD (k + 1) d)).getD j d = _
    rw [List.getD_eq_getElem?_getD, List.getElem?_set]
    by_cases e : k = j
    · subst e
      rw [if_pos rfl, if_pos (by rw [List.length_set]; exact hj), if_pos rfl]
      rfl
    · rw [if_neg e, if_neg (Ne.symm e), List.getElem?_set]
      by_cases e2 : k + 1 = j
      · subst e2
        rw [if_pos rfl, if_pos hj, if_pos rfl]
        rfl
      · rw [if_neg e2, if_neg (Ne.symm e2), ← List.getD_eq_getElem?_getD]
  refine ⟨fun a b hab hb ha hbk => ?_, fun b hkb hb => ?_⟩
  · rw [g a (by omega), g b (by omega), if_neg ha, if_neg hbk]
    by_cases e1 : a = k + 1
    · rw [if_pos e1, if_neg (by omega)]
      exact h1 k b (by omega) hb (by omega) (by omega)
    · rw [if_neg e1]
      by_cases e2 : b = k + 1
      · rw [if_pos e2]
        exact h1 a k (by omega) (by omega) e1 (by omega)
      · rw [if_neg e2]
        exact h1 a b hab hb e1 e2
  · rw [g k (by omega), g b (by omega), if_pos rfl, if_neg (by omega)]
    by_cases e2 : b = k + 1
    · rw [if_pos e2]
      exact hs
    · rw [if_neg e2]
      exact h2 b (by omega) hb
theorem stop_inv {α : Type} (d : α) (lt : α → α → Prop) (tr : ∀ {x y z}, lt x y → lt y z → lt x z) {L : List α} {k i : Nat} (hk : k ≤ i)
    (h1 : ∀ a b, a < b → b ≤ i → ¬ a = k → ¬ b = k → lt (L.getD a d) (L.getD b d)) (h2 : ∀ b, k < b → b ≤ i → lt (L.getD k d) (L.getD b d)) (hs : k = 0 ∨ lt (L.getD (k - 1) d) (L.getD k d)) :
    ∀ a b, a < b → b ≤ i → lt (L.getD a d) (L.getD b d) := by
  intro a b hab hb
  by_cases e1 : a = k
  · subst e1
    exact h2 b hab hb
  · by_cases e2 : b = k
    · subst e2
      rcases hs with hs | hs
      · omega
      · by_cases e3 : a = b - 1
        · subst e3; exact hs
        · exact tr (h1 a (b - 1) (by omega) (by omega) e1 (by omega)) hs
    · exact h1 a b hab hb e1 e2
theorem swap_perm {α : Type} (d : α) {L : List α} {j k : Nat} (hj : j < L.length) (hk : k < L.length) : ((L.set j (L.getD k d)).set k (L.getD j d)).Perm L := by
  have e1 : L.getD k d = L[k] := by simp [List.getD_eq_getElem?_getD, hk]
  have e2 : L.getD j d = L[j] := by simp [List.getD_eq_getElem?_getD, hj]
  rw [e1, e2]
  exact List.set_set_perm hj hk
theorem pw_of_idx {α : Type} (d : α) (lt : α → α → Prop) {L : List α} (h : ∀ a b, a < b → b < L.length → lt (L.getD a d) (L.getD b d)) : L.Pairwise lt := by
  rw [List.pairwise_iff_getElem]
  intro i j hi hj hij
  have := h i j hij hj
  simpa [List.getD_eq_getElem?_getD, hi, hj] using this
theorem dCs_set : ∀ (L : List Dp) (j : Nat) (d : Dp), j < L.length → ((((dCs L).set (j * 4) (Str d.f)).set (j * 4 + 1) (IL d.l)).set (j * 4 + 1 + 1) (Str d.t)).set (j * 4 + 1 + 1 + 1) (IL d.r) = dCs (L.set j d)
  | [], j, d, h => absurd h (by simp)
  | a :: L, 0, d, _ => rfl
  | a :: L, j + 1, d, h => by
    have := dCs_set L j d (by rw [List.length_cons] at h; omega)
    rw [show (j + 1) * 4 = j * 4 + 1 + 1 + 1 + 1 by omega]
    show Str a.f :: IL a.l :: Str a.t :: IL a.r :: _ = Str a.f :: IL a.l :: Str a.t :: IL a.r :: dCs (L.set j d)
    rw [← this]
    rfl
theorem dCs_g4 : ∀ (L : List Dp) (j : Nat), j < L.length → (dCs L).getD (j * 4) .any = Str (L.getD j d0).f ∧ (dCs L).getD (j * 4 + 1) .any = IL (L.getD j d0).l ∧ (dCs L).getD (j * 4 + 1 + 1) .any = Str (L.getD j d0).t ∧ (dCs L).getD (j * 4 + 1 + 1 + 1) .any = IL (L.getD j d0).r
  | [], j, h => absurd h (by simp)
  | a :: L, 0, _ => ⟨rfl, rfl, rfl, rfl⟩
  | a :: L, j + 1, h => by
    have := dCs_g4 L j (by rw [List.length_cons] at h; omega)
    rw [show (j + 1) * 4 = j * 4 + 1 + 1 + 1 + 1 by omega]
    exact this
def LtD (a b : Dp) : Prop := cmpD a b < 0
theorem LtD.tr {a b c : Dp} (h1 : LtD a b) (h2 : LtD b c) : LtD a c := cmpD_trans h1 h2
end Go.Ab.A15
def Go.Ab.zNK_1 : Go.Ab.OZ := (.one 0 [0, 1, 2, 3, 4, 5, 6, 7, 8, 9, 10, 11, 12, 13] (.one 1 [1, 2, 3, 4, 5, 6, 7, 8, 9, 10, 11, 12, 13] (.one 2 [2, 3, 4, 5, 6, 7, 8, 9, 10, 11, 12, 13] (.one 3 [3, 5, 6, 12, 13] (.one 4 [4, 5, 6, 12, 13] (.one 5 [5, 6, 12, 13] (.one 6 [6, 12, 13] (.one 7 [7, 10, 11, 12, 13] (.one 8 [8, 9, 10, 11, 12, 13] (.one 9 [9, 10, 11, 12, 13] (.one 10 [10, 11, 12, 13] (.one 11 [11, 12, 13] (.one 12 [12, 13] (.one 13 [13] .done))))))))))))))
namespace Go.Proofs.YtpidncgibgiidaaGreat
open Go Go.Ab Go.Ab.A34 Go.Ab.A15 Go.Ab.A01
variable [Gl] [Tabs]
theorem hol_s (L0 : List Dp) (ob i : Nat) (hi : i < L0.length) (hn : L0.length ≤ 10000) (hnd : ∀ a b, a < L0.length → b < L0.length → ¬ a = b → ¬ cmpD (L0.getD a d0) (L0.getD b d0) = 0) (hs : ∀ d ∈ L0, OkS d) (h0 : ∀ a b, a < b → b < i → LtD (L0.getD a d0) (L0.getD b d0)) :
    Ab.SW Tryz.prog 130 (blk 10 Tryz.f49) (nrm fun S => ∃ L, L.Perm L0 ∧ (∀ a b, a < L.length → b < L.length → ¬ a = b → ¬ cmpD (L.getD a d0) (L.getD b d0) = 0) ∧ (∀ a b, a < b → b ≤ i → LtD (L.getD a d0) (L.getD b d0)) ∧ S.le ⟨[(9, .os ob 0 L0.length 4), (17, I64 i)], [(ob, .svs (dCs L))]⟩)
      ⟨[(9, .os ob 0 L0.length 4), (17, I64 i), (18, I64 i)], [(ob, .svs (dCs L0))]⟩ := by
  conv => arg 3; whnf
  refine SW.block ?_
  obtain ⟨I, hI⟩ : ∃ I : Nat → St → Prop, ∀ n S, I n S ↔ (∃ (kk : Nat) (L : List Dp), n = kk ∧ kk ≤ i ∧ L.Perm L0 ∧ (∀ a b, a < L.length → b < L.length → ¬ a = b → ¬ cmpD (L.getD a d0) (L.getD b d0) = 0) ∧ (∀ a b, a < b → b ≤ i → ¬ a = kk → ¬ b = kk → LtD (L.getD a d0) (L.getD b d0)) ∧ (∀ b, kk < b → b ≤ i → LtD (L.getD kk d0) (L.getD b d0)) ∧
    S = ⟨[(9, .os ob 0 L0.length 4), (17, I64 i), (18, I64 kk)], [(ob, .svs (dCs L))]⟩) := ⟨fun n S => _, fun _ _ => Iff.rfl⟩
  refine SW.loop' I i ((hI _ _).2 ⟨i, L0, rfl, Nat.le_refl _, List.Perm.refl _, hnd, fun a b hab hb ha hbi => h0 a b hab (by omega), fun b h1 h2 => by omega, rfl⟩) (by repeat' (first | exact rfl | exact trivial | constructor)) ?_
  intro kk S hIn
  obtain ⟨_, L, rfl, hk, hp, hd, h1, h2, rfl⟩ := (hI _ _).1 hIn
  clear hIn h0 hnd
  have hLn := hp.length_eq
  have hc0 : (dCs L).length = L0.length * 4 := by rw [dCs_len, hLn]
  by_cases hk0 : kk = 0
  · subst hk0
    have z0 : ¬ (0 : Int) < ((0 : Nat) : Int) := by omega
    have hD : (0 : Nat) = 0 := rfl
    repeat' first | (refine SW.seq_k fun K hK => ?_) | ((first | refine SW.regionZ (id := 24) (Checked.mixed Tryz.checked) Go.Ab.zNK_1 (by kernel_rfl) ?_ | refine SW.cond ?_ | refine SW.exit ?_); try simp only [Go.Ab.zNK_1, go_sem, hD, z0, true_implies]) | (refine ifI (fun hc => ?_) (fun hc => ?_) <;> first | (exfalso; omega) | skip) | (apply hK; clear hK K)
    all_goals
      exact ⟨L, hp, hd, stop_inv d0 LtD LtD.tr hk h1 h2 (.inl rfl), St.le_sub (by repeat' (first | exact rfl | exact trivial | constructor))⟩
  · obtain ⟨m, rfl⟩ : ∃ m, kk = m + 1 := ⟨kk - 1, by omega⟩
    have z0 : (0 : Int) < ((m + 1 : Nat) : Int) := by omega
    have wk : IntKind.i64.wrap (((m + 1 : Nat) : Int) - 1) = ((m : Nat) : Int) := by rw [i64_wrap (by omega) (by omega)]; omega
    have k1 : (0 : Int) ≤ ((m + 1 : Nat) : Int) := by omega
    have k2 : ((m + 1 : Nat) : Int) < ((L0.length : Nat) : Int) := by omega
    have k3 : (0 : Int) ≤ ((m : Nat) : Int) := by omega
    have k4 : ((m : Nat) : Int) < ((L0.length : Nat) : Int) := by omega
    have k5 : ((m + 1 : Nat) : Int).toNat = m + 1 := Int.toNat_natCast _
    have k6 : ((m : Nat) : Int).toNat = m := Int.toNat_natCast _
    obtain ⟨g1, g2, g3, g4⟩ := dCs_g4 L (m + 1) (by omega)
    obtain ⟨g5, g6, g7, g8⟩ := dCs_g4 L m (by omega)
    have cb := before_d (L.getD (m + 1) d0) (L.getD m d0) (hs _ (hp.mem_iff.1 (getD_mem' d0 (by omega)))) (hs _ (hp.mem_iff.1 (getD_mem' d0 (by omega))))
    rw [ltD_cmp] at cb
    have hne := hd (m + 1) m (by omega) (by omega) (by omega)
    have hcn := cmpD_neg (L.getD (m + 1) d0) (L.getD m d0)
    by_cases hlt : cmpD (L.getD (m + 1) d0) (L.getD m d0) < 0
    · rw [decide_eq_true hlt] at cb
      have hsp := swap_perm d0 (L := L) (j := m + 1) (k := m) (by omega) (by omega)
      have hsi := swap_inv d0 LtD LtD.tr (L := L) (k := m) (i := i) (by omega) (by omega) h1 h2 hlt
      have s1 := dCs_set L (m + 1) (L.getD m d0) (by omega)
      have s2 := dCs_set (L.set (m + 1) (L.getD m d0)) m (L.getD (m + 1) d0) (by rw [List.length_set]; omega)
      simp only at hsi
      generalize hL2 : (L.set (m + 1) (L.getD m d0)).set m (L.getD (m + 1) d0) = L2 at *
      have hd2 : ∀ a b, a < L2.length → b < L2.length → ¬ a = b → ¬ cmpD (L2.getD a d0) (L2.getD b d0) = 0 := by
        have hnd2 : L.Pairwise fun x y => ¬ cmpD x y = 0 := pw_of_idx d0 _ fun a b hab hb => hd a b (by omega) hb (by omega)
        have hnd3 : L2.Pairwise fun x y => ¬ cmpD x y = 0 := hsp.symm.pairwise hnd2 fun {x y} hxy e => hxy (by rw [cmpD_neg]; omega)
        intro a b ha hb hab e
        rw [List.pairwise_iff_getElem] at hnd3
        rcases Nat.lt_or_gt_of_ne hab with h | h
        · have := hnd3 a b ha hb h
          simp only [List.getD_eq_getElem?_getD, ha, hb, List.getElem?_eq_getElem, Option.getD_some] at e
          exact this e
        · have := hnd3 b a hb ha h
          simp only [List.getD_eq_getElem?_getD, ha, hb, List.getElem?_eq_getElem, Option.getD_some] at e
          rw [cmpD_neg, e] at this
          exact this rfl
      clear hcn hne
      generalize L.getD (m + 1) d0 = u at *
      generalize L.getD m d0 = v at *
      obtain ⟨u1, u2, u3, u4⟩ := u
      obtain ⟨v1, v2, v3, v4⟩ := v
      simp only at g1 g2 g3 g4 g5 g6 g7 g8 s1 s2
      have hD : (0 : Nat) = 0 := rfl
      repeat' first | (with_reducible refine And.intro (by omega) ?_) | (refine SW.seq_k fun K hK => ?_) | (refine SW.block ?_) | ((first | refine SW.region ?_ | refine SW.regionZ (id := 24) (Checked.mixed Tryz.checked) Go.Ab.zNK_1 (by kernel_rfl) ?_ | refine SW.regionX (id := 26) (Checked.mixed Tryz.checked) ((.one 0 [0, 14, 15, 16, 17] (.one 1 [1, 14, 15, 16, 17] (.one 5 [5, 8, 9, 14, 15, 16, 17] (.one 6 [6, 7, 8, 9, 14, 15, 16, 17] (.one 7 [7, 8, 9, 14, 15, 16, 17] (.one 8 [8, 9, 14, 15, 16, 17] (.one 9 [9, 14, 15, 16, 17] (.one 10 [10, 12, 13, 14, 15, 16, 17] (.one 11 [11, 12, 13, 14, 15, 16, 17] (.one 12 [12, 13, 14, 15, 16, 17] (.one 13 [13, 14, 15, 16, 17] (.one 14 [14, 15, 16, 17] (.fre 2 [2, 16, 17] (.fre 3 [3, 4, 16, 17] (.fre 4 [4, 16, 17] (.alt 15 (.one 16 [16, 17] (.alt 17 .done .nil)) .nil)))))))))))))))) : OX) (by kernel_rfl) ?_ | refine SW.cond ?_ | refine SW.skip ?_ | refine ⟨_, cb, ?_⟩); try simp only [Go.Ab.zNK_1, go_sem, hD, z0, wk, k1, k2, k3, k4, k5, k6, g1, g2, g3, g4, g5, g6, g7, g8, hc0, true_implies]) | (apply hK; clear hK K)
      all_goals
        rw [s1, s2]
        refine Rnd.sub m (by omega) ((hI _ _).2 ⟨m, L2, rfl, by omega, hsp.trans hp, hd2, hsi.1, hsi.2, rfl⟩) (by repeat' (first | exact rfl | exact trivial | constructor))
    · rw [decide_eq_false hlt] at cb
      have hst := stop_inv d0 LtD LtD.tr hk h1 h2 (.inr (by unfold LtD; rw [Nat.add_sub_cancel]; omega))
      clear hne hcn
      generalize hu : L.getD (m + 1) d0 = u at *
      generalize hv : L.getD m d0 = v at *
      obtain ⟨u1, u2, u3, u4⟩ := u
      obtain ⟨v1, v2, v3, v4⟩ := v
      simp only at g1 g2 g3 g4 g5 g6 g7 g8
      have hD : (0 : Nat) = 0 := rfl
      repeat' first | (with_reducible refine And.intro (by omega) ?_) | (refine SW.seq_k fun K hK => ?_) | ((first | refine SW.regionZ (id := 24) (Checked.mixed Tryz.checked) Go.Ab.zNK_1 (by kernel_rfl) ?_ | refine SW.cond ?_ | refine SW.exit ?_ | refine ⟨_, cb, ?_⟩); try simp only [Go.Ab.zNK_1, go_sem, hD, z0, wk, k1, k2, k3, k4, k5, k6, g1, g2, g3, g4, g5, g6, g7, g8, hc0, true_implies]) | (apply hK; clear hK K)
      all_goals
        exact ⟨L, hp, hd, hst, St.le_sub (by repeat' (first | exact rfl | exact trivial | constructor))⟩
end Go.Proofs.YtpidncgibgiidaaGreat
namespace Go.Ab.A15
open Go Go.Ab Go.Ab.A34
structure OkLv (q : List Int → List Int → Bool) (nf nt most : Nat) : Prop where
  len : ∀ k, k ≤ most → ∀ p ∈ (lvR q nf nt k).2, p.1.length ≤ 10 ∧ p.2.length ≤ 10
  l1 : ∀ k, k ≤ most → (lvR q nf nt k).1.length ≤ 9000
  l2 : ∀ k, k ≤ most → (lvR q nf nt k).2.length ≤ 9000
end Go.Ab.A15
namespace Go.Proofs.YtpidncgibgiidaaGreat
open Go Go.Ab Go.Ab.A34 Go.Ab.A15 Go.Ab.A01
variable [Gl] [Tabs]
theorem hol_o (L0 : List Dp) (ob : Nat) (hn : L0.length ≤ 10000) (hnd : ∀ a b, a < L0.length → b < L0.length → ¬ a = b → ¬ cmpD (L0.getD a d0) (L0.getD b d0) = 0) (hs : ∀ d ∈ L0, OkS d) :
    Ab.SW Tryz.prog 130 (blk 8 Tryz.f49) (nrm fun S => ∃ L, L.Perm L0 ∧ (∀ a b, a < b → b < L.length → LtD (L.getD a d0) (L.getD b d0)) ∧ S.le ⟨[(9, .os ob 0 L0.length 4)], [(ob, .svs (dCs L))]⟩)
      ⟨[(9, .os ob 0 L0.length 4), (17, I64 (1 : Nat))], [(ob, .svs (dCs L0))]⟩ := by
  conv => arg 3; whnf
  refine SW.block ?_
  obtain ⟨I, hI⟩ : ∃ I : Nat → St → Prop, ∀ n S, I n S ↔ (∃ (i : Nat) (L : List Dp), n = L0.length - i ∧ 1 ≤ i ∧ i ≤ L0.length + 1 ∧ L.Perm L0 ∧ (∀ a b, a < L.length → b < L.length → ¬ a = b → ¬ cmpD (L.getD a d0) (L.getD b d0) = 0) ∧ (∀ a b, a < b → b < i → LtD (L.getD a d0) (L.getD b d0)) ∧
    S = ⟨[(9, .os ob 0 L0.length 4), (17, I64 i)], [(ob, .svs (dCs L))]⟩) := ⟨fun n S => _, fun _ _ => Iff.rfl⟩
  refine SW.loop' I (L0.length - 1) ((hI _ _).2 ⟨1, L0, rfl, Nat.le_refl _, by omega, List.Perm.refl _, hnd, fun a b hab hb => by omega, rfl⟩) (by repeat' (first | exact rfl | exact trivial | constructor)) ?_
  intro n S hIn
  obtain ⟨i, L, rfl, hi1, hi, hp, hd, h1, rfl⟩ := (hI _ _).1 hIn
  clear hIn hnd
  have hLn := hp.length_eq
  by_cases hlt : i < L0.length
  · have hli : ((i : Nat) : Int) < (((L0.length) : Nat) : Int) := by omega
    have w1 : IntKind.i64.wrap ((i : Int) + 1) = ((i + 1 : Nat) : Int) := by rw [i64_wrap (by omega) (by omega)]; omega
    have hin := hol_s L ob i (by omega) (by omega) hd (fun d hd => hs d (hp.mem_iff.1 hd)) h1
    rw [hLn] at hin
    have hD : (0 : Nat) = 0 := rfl
    repeat' first | (refine SW.seq_k fun K hK => ?_) | ((first | refine SW.region ?_ | refine SW.cond ?_ | refine SW.skip ?_); try simp only [go_sem, hD, hli, w1, true_implies]) | (apply hK; clear hK K)
    refine SW.block ?_
    repeat' first | (refine SW.seq_k fun K hK => ?_) | (refine SW.region ?_; try simp only [go_sem, hD, hli, w1, true_implies]) | (apply hK; clear hK K)
    refine Ab.SW.cut _ (Ab.SW.le (St.le_sub (by repeat' (first | exact rfl | exact trivial | constructor))) hin) ?_
    rintro S' ⟨L2, hp2, hd2, h3, hle⟩
    try simp only [go_sem, hD]
    (first | apply hK | (clear hK K; apply hK) | (clear hK K; clear hK K; apply hK)); clear hK K
    refine Ab.SW.le hle ?_
    clear hle hin
    repeat' (refine SW.region ?_; try simp only [go_sem, hD, hli, w1, true_implies])
    refine Rnd.sub (L0.length - (i + 1)) (by omega) ((hI _ _).2 ⟨i + 1, L2, rfl, by omega, by omega, hp2.trans hp, hd2, fun a b hab hb => h3 a b hab (by omega), rfl⟩) (by repeat' (first | exact rfl | exact trivial | constructor))
  · have hli : ¬ ((i : Nat) : Int) < (((L0.length) : Nat) : Int) := by omega
    have hD : (0 : Nat) = 0 := rfl
    repeat' first | (refine SW.seq_k fun K hK => ?_) | ((first | refine SW.region ?_ | refine SW.cond ?_ | refine SW.exit ?_); try simp only [go_sem, hD, hli, true_implies]) | (apply hK; clear hK K)
    exact ⟨L, hp, fun a b hab hb => h1 a b hab (by omega), St.le_sub (by repeat' (first | exact rfl | exact trivial | constructor))⟩
theorem hol_o0 : Ab.SW Tryz.prog 130 (blk 8 Tryz.f49) (nrm fun S => S.le ⟨[(9, SN)], []⟩) ⟨[(9, SN), (17, I64 (1 : Nat))], []⟩ := by
  conv => arg 3; whnf
  refine SW.block ?_
  obtain ⟨I, hI⟩ : ∃ I : Nat → St → Prop, ∀ n S, I n S ↔ (n = 0 ∧ S = ⟨[(9, SN), (17, I64 (1 : Nat))], []⟩) := ⟨fun n S => _, fun _ _ => Iff.rfl⟩
  refine SW.loop' I 0 ((hI _ _).2 ⟨rfl, rfl⟩) (by repeat' (first | exact rfl | exact trivial | constructor)) ?_
  intro n S hIn
  obtain ⟨rfl, rfl⟩ := (hI _ _).1 hIn
  clear hIn
  have hD : (0 : Nat) = 0 := rfl
  have h0 : ¬ ((1 : Nat) : Int) < ((0 : Nat) : Int) := by omega
  repeat' first | (refine SW.seq_k fun K hK => ?_) | ((first | refine SW.region ?_ | refine SW.cond ?_ | refine SW.exit ?_); try simp only [go_sem, hD, h0, true_implies]) | (apply hK; clear hK K)
  exact St.le_sub (by repeat' (first | exact rfl | exact trivial | constructor))
theorem hol_k (db : List Tb) (f t : Tb) (most : Nat) (h : OkH db f t most) (hl : OkLv (qR db f t) f.attrs.length t.attrs.length most) :
    Ab.SW Tryz.prog 130 (blk 0 Tryz.f49) (nrm fun S => ∃ x' h', Acc 4 x' h' [] ((lvR (qR db f t) f.attrs.length t.attrs.length most).1.map (mkD f t)).length (dCs ((lvR (qR db f t) f.attrs.length t.attrs.length most).1.map (mkD f t))) ∧ S.le ⟨[(9, x')], h'⟩)
      ⟨[(3, I64 most), (4, .fp [TL db]), (5, .fp (tC f)), (6, .fp (tC t)), (9, SN), (10, DpL ([([], [])].map (mkD f t))), (11, I64 (0 : Nat))], []⟩ := by
  have hm6 := h.m
  conv => arg 3; whnf
  refine SW.block ?_
  obtain ⟨I, hI⟩ : ∃ I : Nat → St → Prop, ∀ k S, I k S ↔ (∃ (kk : Nat) (x : SV) (hh : Heap), k = most - kk ∧ kk ≤ most ∧ Acc 4 x hh [] ((lvR (qR db f t) f.attrs.length t.attrs.length kk).1.map (mkD f t)).length (dCs ((lvR (qR db f t) f.attrs.length t.attrs.length kk).1.map (mkD f t))) ∧ S = ⟨[(3, I64 most), (4, .fp [TL db]), (5, .fp (tC f)), (6, .fp (tC t)), (9, x), (10, DpL ((lvR (qR db f t) f.attrs.length t.attrs.length kk).2.map (mkD f t))), (11, I64 kk)], hh⟩) := ⟨fun k S => _, fun _ _ => Iff.rfl⟩
  refine SW.loop' I (most) ((hI _ _).2 ⟨0, SN, [], rfl, Nat.zero_le _, .nil 4 [], rfl⟩) (by repeat' (first | exact rfl | exact trivial | constructor)) ?_
  intro k S hIn
  obtain ⟨kk, x, hh, rfl, hi, hA2, rfl⟩ := (hI _ _).1 hIn
  clear hIn
  have ie : ((kk : Nat) : Int).toNat = kk := Int.toNat_natCast _
  have i0 : (0 : Int) ≤ ((kk : Nat) : Int) := by omega
  by_cases hlt : kk < most
  · have hli : ((kk : Nat) : Int) < (((most) : Nat) : Int) := by omega
    have w1 : IntKind.i64.wrap ((kk : Int) + 1) = ((kk + 1 : Nat) : Int) := by rw [i64_wrap (by omega) (by omega)]; omega
    have e1 : lvR (qR db f t) f.attrs.length t.attrs.length (kk + 1) = ((lvR (qR db f t) f.attrs.length t.attrs.length kk).1 ++ lvS (qR db f t) f.attrs.length t.attrs.length (lvR (qR db f t) f.attrs.length t.attrs.length kk).2, lvS (qR db f t) f.attrs.length t.attrs.length (lvR (qR db f t) f.attrs.length t.attrs.length kk).2) := rfl
    have q1 := hl.l1 (kk + 1) (by omega)
    have q2 := hl.l2 (kk + 1) (by omega)
    rw [e1] at q1 q2
    simp only [List.length_append] at q1 q2
    have hin := hol_i db f t most h x (lvR (qR db f t) f.attrs.length t.attrs.length kk).2 kk (hl.len kk (by omega)) (by have := hl.l2 kk (by omega); omega) hh (by omega)
    have e2 : (lvR (qR db f t) f.attrs.length t.attrs.length (kk + 1)).1.map (mkD f t) = (lvR (qR db f t) f.attrs.length t.attrs.length kk).1.map (mkD f t) ++ (lvS (qR db f t) f.attrs.length t.attrs.length (lvR (qR db f t) f.attrs.length t.attrs.length kk).2).map (mkD f t) := by rw [e1, List.map_append]
    have e3 : (lvR (qR db f t) f.attrs.length t.attrs.length (kk + 1)).2.map (mkD f t) = (lvS (qR db f t) f.attrs.length t.attrs.length (lvR (qR db f t) f.attrs.length t.attrs.length kk).2).map (mkD f t) := by rw [e1]
    have e4 : ((lvR (qR db f t) f.attrs.length t.attrs.length kk).1.map (mkD f t)).length + ((lvS (qR db f t) f.attrs.length t.attrs.length (lvR (qR db f t) f.attrs.length t.attrs.length kk).2).map (mkD f t)).length ≤ 9000 := by rw [List.length_map, List.length_map]; exact q1
    have e5 : (lvR (qR db f t) f.attrs.length t.attrs.length kk).2.length ≤ 9000 := hl.l2 kk (by omega)
    clear e1 q1 q2
    generalize (lvS (qR db f t) f.attrs.length t.attrs.length (lvR (qR db f t) f.attrs.length t.attrs.length kk).2).map (mkD f t) = E at *
    generalize (lvR (qR db f t) f.attrs.length t.attrs.length kk).1.map (mkD f t) = O at *
    generalize (lvR (qR db f t) f.attrs.length t.attrs.length kk).2.map (mkD f t) = nw at *
    generalize ho1 : (lvR (qR db f t) f.attrs.length t.attrs.length (kk + 1)).1.map (mkD f t) = O2 at *
    generalize ho2 : (lvR (qR db f t) f.attrs.length t.attrs.length (kk + 1)).2.map (mkD f t) = N2 at *
    have hsrc : ∀ H, srcCells (DpL E) H = some (E.length, dCs E) := fun H => by
      show some (_, flCells (dpF E) E.length) = _
      rw [fl_dCs]
    have hcl : (dCs E).length = E.length * 4 := dCs_len _
    have hb1 : (O.length + E.length) * 80 ≤ 140737488355328 := by omega
    have hb2 : O.length + E.length ≤ 140737488355328 := by omega
    have hall := dCs_all E
    have hOc : dCs O2 = dCs O ++ dCs E := by rw [e2]; unfold dCs; rw [List.flatMap_append]
    have hOn : O2.length = O.length + E.length := by rw [e2]; exact List.length_append
    have hD : (0 : Nat) = 0 := rfl
    obtain ⟨F, hF⟩ : ∃ F, F = (⟨f.name, f.attrs, f.rows⟩ : Tb) := ⟨_, rfl⟩
    repeat' first | (refine SW.seq_k fun K hK => ?_) | ((first | refine SW.region ?_ | refine SW.cond ?_ | refine SW.skip ?_); try simp only [go_sem, hD, hli, ie, i0, w1, true_implies]) | (apply hK; clear hK K)
    refine SW.block ?_
    repeat' first | (refine SW.seq_k fun K hK => ?_) | (refine SW.region ?_; try simp only [go_sem, hD, hli, ie, i0, w1, true_implies]) | (apply hK; clear hK K)
    refine Ab.SW.cut _ (Ab.SW.le (St.le_sub (by repeat' (first | exact rfl | exact trivial | constructor))) hin) ?_
    rintro S' ⟨x3, h3, hA4, hle⟩
    try simp only [go_sem, hD]
    (first | apply hK | (clear hK K; apply hK) | (clear hK K; clear hK K; apply hK)); clear hK K
    refine Ab.SW.le (hle.trans ((St.le_acc_fl (i := 12) rfl hA4 (dpF E) (fun j hj => fC_at (enc := dC) (k := 4) (fun _ => rfl) d0 E j hj)).trans (St.le_sub (l := [(3, I64 most), (4, .fp [TL db]), (5, .fp (tC f)), (6, .fp (tC t)), (9, x), (11, I64 kk), (12, DpL E)]) (by repeat' (first | exact rfl | exact trivial | constructor))))) ?_
    clear hle hin hA4
    repeat' first | ((with_reducible refine appK_accS hA2 ?_ (hsrc _) ?_ hcl hall ?_ ?_ hb1 hb2 ?_); (rfl); (rfl); (exact Nat.succ_pos _); (rfl); (intro x2 hp2 hA6); (try simp only [go_sem, hD])) | (refine SW.region ?_; try simp only [go_sem, hD, hli, ie, i0, w1, true_implies]) | (apply hK; clear hK K)
    refine Rnd.sub (most - (kk + 1)) (by omega) ((hI _ _).2 ⟨kk + 1, x2, hp2, rfl, by omega, by rw [ho1, hOn, hOc]; exact hA6, rfl⟩) (by rw [ho2, e3]; repeat' (first | exact rfl | exact trivial | constructor))
  · have hli : ¬ ((kk : Nat) : Int) < (((most) : Nat) : Int) := by omega
    obtain rfl : kk = most := by omega
    rw [List.length_map] at hA2
    generalize (lvR (qR db f t) f.attrs.length t.attrs.length kk).2.map (mkD f t) = nw at *
    have hD : (0 : Nat) = 0 := rfl
    repeat' first | (refine SW.seq_k fun K hK => ?_) | ((first | refine SW.region ?_ | refine SW.cond ?_ | refine SW.exit ?_); try simp only [go_sem, hD, hli, true_implies]) | (apply hK; clear hK K)
    exact ⟨x, hh, hA2, St.le_sub (by repeat' (first | exact rfl | exact trivial | constructor))⟩
end Go.Proofs.YtpidncgibgiidaaGreat
namespace Go.Ab.A15
open Go Go.Ab Go.Ab.A34 Go.Sort Go.Shelf Go.Proofs
theorem cmpD_le_trans (a b c : Dp) (h1 : (!(ltOf cmpD) b a) = true) (h2 : (!(ltOf cmpD) c b) = true) : (!(ltOf cmpD) c a) = true := by
  simp only [ltOf, Bool.not_eq_true', decide_eq_false_iff_not] at *
  intro h3
  have n1 := cmpD_neg a b
  rcases Int.lt_or_eq_of_le (show cmpD a b ≤ 0 by omega) with h4 | h4
  · exact h2 (cmpD_trans h3 h4)
  · obtain ⟨e1, e2⟩ := cmpD_zero h4
    have : cmpD c a = cmpD c b := by unfold cmpD; rw [e1, e2]
    omega
theorem cmpD_le_total (a b : Dp) : ((!(ltOf cmpD) b a) || (!(ltOf cmpD) a b)) = true := by
  have n1 := cmpD_neg a b
  simp only [ltOf, Bool.or_eq_true, Bool.not_eq_true', decide_eq_false_iff_not]
  omega
theorem srtD_pw {l : List Dp} (h : l.Pairwise fun a b => ¬ cmpD a b = 0) : (srtD l).Pairwise LtD := by
  have h1 : (srtD l).Pairwise (fun a b => (!(ltOf cmpD) b a) = true) := List.pairwise_mergeSort cmpD_le_trans cmpD_le_total l
  have h2 : (srtD l).Pairwise (fun a b => ¬ cmpD a b = 0) := (srtD_perm l).symm.pairwise h fun {x y} hxy e => hxy (by rw [cmpD_neg]; omega)
  refine (h1.and h2).imp fun {a b} hx => ?_
  obtain ⟨hx1, hx2⟩ := hx
  simp only [ltOf, Bool.not_eq_true', decide_eq_false_iff_not] at hx1
  have n1 := cmpD_neg a b
  unfold LtD
  omega
theorem LtD.irr (a : Dp) : ¬ LtD a a := fun h => by unfold LtD at h; have := cmpD_neg a a; omega
theorem pwD_eq : ∀ {L M : List Dp}, L.Pairwise LtD → M.Pairwise LtD → (∀ x, x ∈ L ↔ x ∈ M) → L = M
  | [], [], _, _, _ => rfl
  | [], b :: M, _, _, h => by have := (h b).2 List.mem_cons_self; cases this
  | a :: L, [], _, _, h => by have := (h a).1 List.mem_cons_self; cases this
  | a :: L, b :: M, h1, h2, h => by
    rw [List.pairwise_cons] at h1 h2
    have hab : a = b := by
      rcases List.mem_cons.1 ((h a).1 List.mem_cons_self) with e | e
      · exact e
      · rcases List.mem_cons.1 ((h b).2 List.mem_cons_self) with e2 | e2
        · exact e2.symm
        · exact absurd (LtD.tr (h1.1 b e2) (h2.1 a e)) (LtD.irr a)
    subst hab
    rw [pwD_eq h1.2 h2.2 fun x => ⟨fun hx => ?_, fun hx => ?_⟩]
    · rcases List.mem_cons.1 ((h x).1 (List.mem_cons_of_mem _ hx)) with e | e
      · subst e; exact absurd (h1.1 x hx) (LtD.irr x)
      · exact e
    · rcases List.mem_cons.1 ((h x).2 (List.mem_cons_of_mem _ hx)) with e | e
      · subst e; exact absurd (h2.1 x hx) (LtD.irr x)
      · exact e
theorem srtD_eq {L M : List Dp} (h1 : L.Pairwise fun a b => ¬ cmpD a b = 0) (h2 : M.Pairwise fun a b => ¬ cmpD a b = 0) (h : ∀ x, x ∈ L ↔ x ∈ M) : srtD L = srtD M :=
  pwD_eq (srtD_pw h1) (srtD_pw h2) fun x => by rw [(srtD_perm L).mem_iff, (srtD_perm M).mem_iff, h x]
theorem mk_pw (f t : Tb) {l : List Pr} (h : l.Nodup) : (l.map (mkD f t)).Pairwise fun a b => ¬ cmpD a b = 0 := by
  rw [List.pairwise_map]
  refine h.imp fun {p p'} hne e => hne ?_
  obtain ⟨e1, e2⟩ := cmpD_zero e
  exact Prod.ext e1 e2
theorem pw_idx {α : Type} (d : α) {R : α → α → Prop} (hsym : ∀ {x y}, R x y → R y x) {l : List α} (h : l.Pairwise R) : ∀ a b, a < l.length → b < l.length → ¬ a = b → R (l.getD a d) (l.getD b d) := by
  intro a b ha hb hab
  rw [List.pairwise_iff_getElem] at h
  have e1 : l.getD a d = l[a] := by simp [List.getD_eq_getElem?_getD, ha]
  have e2 : l.getD b d = l[b] := by simp [List.getD_eq_getElem?_getD, hb]
  rw [e1, e2]
  rcases Nat.lt_or_gt_of_ne hab with h1 | h1
  · exact h a b ha hb h1
  · exact hsym (h b a hb ha h1)
end Go.Ab.A15
namespace Go.Proofs.YtpidncgibgiidaaGreat
open Go Go.Ab Go.Ab.A34 Go.Ab.A15 Go.Ab.A01
variable [Gl] [Tabs]
theorem holding_r (db : List Tb) (f t : Tb) (most : Nat) (h : OkH db f t most) (hl : OkLv (qR db f t) f.attrs.length t.attrs.length most) (hnd : (lvR (qR db f t) f.attrs.length t.attrs.length most).1.Nodup) (hs : ∀ d ∈ (lvR (qR db f t) f.attrs.length t.attrs.length most).1.map (mkD f t), OkS d) :
    Ab.Call Tryz.prog 49 [DB db, TB f, TB t, I64 most] [] (fun r h' => Acc 4 r h' [] (srtD ((lvR (qR db f t) f.attrs.length t.attrs.length most).1.map (mkD f t))).length (dCs (srtD ((lvR (qR db f t) f.attrs.length t.attrs.length most).1.map (mkD f t))))) := by
  have hk := hol_k db f t most h hl
  have hpw := mk_pw f t hnd
  have hEl : ((lvR (qR db f t) f.attrs.length t.attrs.length most).1.map (mkD f t)).length ≤ 9000 := by rw [List.length_map]; exact hl.l1 most (Nat.le_refl _)
  have e0 : dC (mkD f t ([], [])) = [Str f.name, IL [], Str t.name, IL []] := rfl
  have e1 : [(([], []) : Pr)].map (mkD f t) = [mkD f t ([], [])] := rfl
  rw [e1] at hk
  generalize hE : (lvR (qR db f t) f.attrs.length t.attrs.length most).1.map (mkD f t) = E at *
  generalize hw : mkD f t ([], []) = w at *
  have hdw : dpF [w] 0 = dC w := rfl
  clear hl hnd e1
  obtain ⟨fn, fa, frs⟩ := f
  obtain ⟨tn, ta, trs⟩ := t
  simp only at e0
  refine Call.enter' (N := 130) (rs := [.tmp 8]) Tryz.func49 rfl rfl rfl (by decide) rfl ?_; simp only [argT]; have hD : (0 : Nat) = 0 := rfl
  repeat' first | (refine SW.seq_k fun K hK => ?_) | ((first | refine SW.region ?_ | (refine allF_i fun b hb => ?_; replace hD := And.intro hb hD; clear hb; try simp only [fresh_cons, fresh_nil, and_true, ne_eq, neF] at hD)); try simp only [go_sem, hD, true_implies]) | (apply hK; clear hK K)
  obtain ⟨nb, rfl⟩ : ∃ x, x = b := ⟨_, rfl⟩
  obtain ⟨tb, rfl⟩ : ∃ x, x = b := ⟨_, rfl⟩
  obtain ⟨fb, rfl⟩ : ∃ x, x = b := ⟨_, rfl⟩
  obtain ⟨xb, rfl⟩ : ∃ x, x = b := ⟨_, rfl⟩
  refine Ab.SW.le (S' := ⟨[(3, I64 most), (4, .fp [TL db]), (5, .fp (tC ⟨fn, fa, frs⟩)), (6, .fp (tC ⟨tn, ta, trs⟩)), (9, SN), (10, DpL [w]), (11, I64 (0 : Nat))], []⟩) ?_ ?_
  · refine St.le.trans (St.le_freezeP (i := 4) (b := xb) (off := 0) (n := 1) (k := .svs [TL db]) rfl (by simp [find_cons, hD]) (by exact Nat.le_refl 1)) ?_
    simp only [getN, Blk.get, go_sem, hD]
    refine St.le.trans (St.le_freezeP (i := 5) (b := fb) (off := 0) (n := 3) (k := .svs (tC ⟨fn, fa, frs⟩)) rfl (by simp [find_cons, hD]) (by exact Nat.le_refl 3)) ?_
    simp only [getN, Blk.get, go_sem, hD]
    refine St.le.trans (St.le_freezeP (i := 6) (b := tb) (off := 0) (n := 3) (k := .svs (tC ⟨tn, ta, trs⟩)) rfl (by simp [find_cons, hD]) (by exact Nat.le_refl 3)) ?_
    simp only [getN, Blk.get, go_sem, hD]
    refine St.le.trans (St.le_nilC (c := nb) (j := 1) (sz := 1) (f := iF []) (cs := [Str fn, SN, Str tn, SN]) (by rw [find_cons, if_pos rfl]) (by show 1 < 4; omega) rfl) ?_
    rw [upd_cons, if_pos rfl]
    refine St.le.trans (St.le_nilC (c := nb) (j := 3) (sz := 1) (f := iF []) (cs := [Str fn, IL [], Str tn, SN]) (by rw [find_cons, if_pos rfl]; rfl) (by show 3 < 4; omega) rfl) ?_
    rw [upd_cons, if_pos rfl]
    refine St.le.trans (St.le_freeze (i := 10) (b := nb) (off := 0) (len := 1) (sz := 4) (k := .svs [Str fn, IL [], Str tn, IL []]) rfl (by rw [find_cons, if_pos rfl]; rfl) (by show 0 + 1 * 4 ≤ 4; omega) (dpF [w]) (fun p hp => by
      obtain rfl : p = 0 := by omega
      rw [hdw, e0]
      rfl)) ?_
    rw [del_head]
    exact St.le_sub (by repeat' (first | exact rfl | exact trivial | constructor))
  clear hD
  have hD : (0 : Nat) = 0 := rfl
  refine Ab.SW.cut _ hk ?_
  rintro S' ⟨x, h1, hA, hle⟩
  try simp only [go_sem, hD]
  (first | apply hK | (clear hK K; apply hK) | (clear hK K; clear hK K; apply hK)); clear hK K
  refine Ab.SW.le hle ?_
  clear hle hk
  rcases Acc.cases hA with ⟨hn0, _, rfl, rfl⟩ | ⟨ob, hlen, rfl, hle2⟩
  · have hE0 : E = [] := List.eq_nil_of_length_eq_zero hn0
    subst hE0
    have hs0 : srtD ([] : List Dp) = [] := by simp [srtD]
    repeat' first | (refine SW.seq_k fun K hK => ?_) | (refine SW.region ?_; try simp only [go_sem, hD, true_implies]) | (apply hK; clear hK K)
    refine Ab.SW.cut _ (Ab.SW.le (St.le_sub (by repeat' (first | exact rfl | exact trivial | constructor))) hol_o0) ?_
    intro S' hle
    try simp only [go_sem, hD]
    (first | apply hK | (clear hK K; apply hK) | (clear hK K; clear hK K; apply hK)); clear hK K
    refine Ab.SW.le hle ?_
    clear hle
    repeat' first | (refine SW.seq_k fun K hK => ?_) | ((first | refine SW.region ?_ | refine SW.ret ?_); try simp only [go_sem, hD, true_implies]) | (apply hK; clear hK K)
    refine retQ_le (fun M w0 D N a w r => r) ?_
    simp only [resL_tmp, resL_nil, tupOf, go_sem, hD]
    rw [hs0]
    exact .nil 4 []
  · refine Ab.SW.le (hle2 _) ?_
    clear hle2 hA
    have ho := hol_o E ob (by omega) (pw_idx d0 (fun {x y} hxy e => hxy (by rw [cmpD_neg]; omega)) hpw) hs
    repeat' first | (refine SW.seq_k fun K hK => ?_) | (refine SW.region ?_; try simp only [go_sem, hD, true_implies]) | (apply hK; clear hK K)
    refine Ab.SW.cut _ (Ab.SW.le (St.le_sub (by repeat' (first | exact rfl | exact trivial | constructor))) ho) ?_
    rintro S' ⟨L, hp, hst, hle⟩
    have hL : L = srtD E := pwD_eq (pw_of_idx d0 LtD hst) (srtD_pw hpw) fun x => by rw [hp.mem_iff, (srtD_perm E).mem_iff]
    subst hL
    try simp only [go_sem, hD]
    (first | apply hK | (clear hK K; apply hK) | (clear hK K; clear hK K; apply hK)); clear hK K
    refine Ab.SW.le hle ?_
    clear hle ho
    repeat' first | (refine SW.seq_k fun K hK => ?_) | ((first | refine SW.region ?_ | refine SW.ret ?_); try simp only [go_sem, hD, true_implies]) | (apply hK; clear hK K)
    refine retQ_le (fun M w0 D N a w r => r) ?_
    simp only [resL_tmp, resL_nil, tupOf, go_sem, hD]
    refine .inr ⟨ob, _, by simp [fresh_nil], rfl, (dCs_len _).symm, by rw [srtD_len], rfl, rfl⟩
end Go.Proofs.YtpidncgibgiidaaGreat
namespace Go.Ab
open Go Go.RowKit
theorem Call.outP [Gl] {P : Program} {f : FuncId} {args : List SV} {h : Heap} {Q Q' : SV → Heap → Prop} (hc : Call P f args h Q) (hq : ∀ r h', Q r h' → ∃ h'' : Heap, h''.Perm h' ∧ Q' r h'') : Call P f args h Q' := by
  refine ⟨fun M w vs own hr => (hc.out M w vs own hr).mono fun e w' ⟨v, r, h1, he, hq1, hv, o1, frm, hh⟩ => ?_⟩
  obtain ⟨h2, hp, hq2⟩ := hq r h1 hq1
  have hhas : h2.has = h1.has := by funext b; unfold Heap.has; exact propext ⟨fun ⟨k, hk⟩ => ⟨k, hp.mem_iff.1 hk⟩, fun ⟨k, hk⟩ => ⟨k, hp.mem_iff.2 hk⟩⟩
  have hhid : hid M h2 = hid M h1 := by funext b; simp only [hid, hhas]
  refine ⟨v, r, h2, he, hq2, by rw [hhid]; exact hv, ⟨(hp.map _).nodup_iff.2 o1.nodup, fun b hb => o1.notM b (hhas ▸ hb), o1.lt, fun b k hk hM => by rw [hhid]; exact o1.ok b k (hp.mem_iff.1 hk) hM, fun b l hk => o1.mp b l (hp.mem_iff.1 hk), by rw [hhid]; exact o1.gl⟩, frm, fun b hb hlt => hh b (hhas ▸ hb) hlt⟩
theorem src_acc [Gl] {sz n : Nat} {r : SV} {h h1 : Heap} {cs : List SV} (hA : Acc sz r h1 [] n cs) (hn : ((h ++ h1).map (·.1)).Nodup) : srcCells r (h ++ h1) = some (n, cs) ∧ srcOk sz r (h ++ h1) := by
  rcases hA with ⟨rfl, rfl, rfl, rfl⟩ | ⟨b, blk, hfr, hc, hl, rfl, rfl, hkM⟩
  · exact ⟨rfl, trivial⟩
  · have hf : Heap.find (h ++ [(b, blk)]) b = some blk := find_of_mem hn (List.mem_append_right _ (List.mem_singleton.2 rfl))
    have hlen : blk.len = n * sz := by rw [← Blk.length_cells, hc, hl]
    have hg := getN_cells hc
    rw [← hl] at hg
    exact ⟨by rw [src_os, hf]; simp only; rw [hg], by rw [srcOk_os, hf]; exact ⟨rfl, by omega⟩⟩
theorem Acc.nd1 {sz n : Nat} {x : SV} {h : Heap} {cs : List SV} (hA : Acc sz x h [] n cs) : (h.map (·.1)).Nodup := by
  rcases hA with ⟨rfl, rfl, rfl, rfl⟩ | ⟨b, blk, hfr, hc, hl, rfl, rfl, hkM⟩ <;> simp
end Go.Ab
namespace Go.Proofs.YtpidncgibgiidaaGreat
open Go Go.Ab Go.Ab.A34 Go.Ab.A15 Go.Ab.A01
variable [Gl] [Tabs]
def AllC [Gl] (db : List Tb) (ar : Nat) (f : Nat) (args : List SV) : Prop := Ab.Call Tryz.prog f args [] (fun r h' => ∃ x, r = .tup [x, I64 0] ∧ Acc 4 x h' [] (allP db ar 0).length (dCs (allP db ar 0)))
theorem all_p (db : List Tb) (ar : Nat) (h : OkF db ar) (hchk : chkD db = 0) (h1 : 1 ≤ ar) : AllC db ar 12 [DB db, I64 ar] := by
  have hn := h.n
  have har := h.ar
  have cc := checked_p db (by omega)
  rw [hchk] at cc
  have cs := search_p db ar h
  have z1 : ¬ ((ar : Nat) : Int) < 1 := by omega
  have z2 : ¬ (6 : Int) < ((ar : Nat) : Int) := by omega
  unfold AllC
  generalize allP db ar 0 = L at *
  refine Call.enter' (N := 23) (rs := [.tmp 4, .tmp 5]) Tryz.func12 rfl rfl rfl (by decide) rfl ?_; simp only [argT]; have hD : (0 : Nat) = 0 := rfl
  repeat' first | ((with_reducible refine Call.mono (Call.frame (h1 := []) cs) ?_); (intro rr h' hx); (obtain ⟨h1, rfl, x, rfl, hA⟩ := hx); (try simp only [go_sem, hD])) | (refine SW.seq_k fun K hK => ?_) | ((first | refine SW.region ?_ | refine SW.cond ?_ | refine SW.skip ?_ | refine SW.ret ?_ | refine Call.of_pure (cc) ?_ | (refine allF_i fun b hb => ?_; replace hD := And.intro hb hD; clear hb; try simp only [fresh_cons, fresh_nil, and_true, ne_eq, neF] at hD)); try simp only [go_sem, hD, z1, z2, true_implies]) | (apply hK; clear hK K)
  all_goals
    refine retQ_le (St.le_pick h1 (fun x hx => List.mem_append_left _ hx) (Acc.nd1 hA)) ?_
    simp only [resL_tmp, resL_nil, tupOf, go_sem, hD]
    exact ⟨x, rfl, hA⟩
theorem unary_p (db : List Tb) (h : OkF db 1) (hchk : chkD db = 0) : AllC db 1 14 [DB db] := by
  have cs := all_p db 1 h hchk (by omega)
  unfold AllC at cs ⊢
  generalize allP db 1 0 = L at *
  refine Call.enter' (N := 8) (rs := [.tmp 2, .tmp 3]) Tryz.func14 rfl rfl rfl (by decide) rfl ?_; simp only [argT]; have hD : (0 : Nat) = 0 := rfl
  repeat' first | ((with_reducible refine Call.mono (Call.frame (h1 := []) cs) ?_); (intro rr h' hx); (obtain ⟨h1, rfl, x, rfl, hA⟩ := hx); (try simp only [go_sem, hD])) | (refine SW.seq_k fun K hK => ?_) | ((first | refine SW.region ?_ | refine SW.ret ?_ | (refine allF_i fun b hb => ?_; replace hD := And.intro hb hD; clear hb; try simp only [fresh_cons, fresh_nil, and_true, ne_eq, neF] at hD)); try simp only [go_sem, hD, true_implies]) | (apply hK; clear hK K)
  all_goals
    refine retQ_le (St.le_pick h1 (fun x hx => List.mem_append_left _ hx) (Acc.nd1 hA)) ?_
    simp only [resL_tmp, resL_nil, tupOf, go_sem, hD]
    exact ⟨x, rfl, hA⟩
theorem allr_k (db : List Tb) (ar i : Nat) (h : OkF db ar) (hil : i < db.length) (hh : ∀ i k, i < db.length → k < db.length → Ab.Call Tryz.prog 49 [DB db, TB (db.getD i t0), TB (db.getD k t0), I64 ar] [] (fun r h' => Acc 4 r h' [] (pairP db ar i k).length (dCs (pairP db ar i k)))) (x : SV) (hp : Heap) (ds : List Dp) (hA : Acc 4 x hp [] ds.length (dCs ds)) (hb : ds.length + (rowP db ar i 0).length ≤ 2000) :
    Ab.SW Tryz.prog 54 (blk 2 Tryz.f13) (nrm fun S => ∃ x' hp', Acc 4 x' hp' [] (ds ++ rowP db ar i 0).length (dCs (ds ++ rowP db ar i 0)) ∧ S.le ⟨[(1, I64 ar), (2, .fp [TL db]), (7, x'), (8, I64 i)], hp'⟩)
      ⟨[(1, I64 ar), (2, .fp [TL db]), (7, x), (8, I64 i), (9, I64 (0 : Nat))], hp⟩ := by
  obtain ⟨A, hAe⟩ : ∃ A, A = ds ++ rowP db ar i 0 := ⟨_, rfl⟩
  have hAl : A.length ≤ 2000 := by rw [hAe, List.length_append]; exact hb
  rw [← hAe]
  have hn := h.n
  conv => arg 3; whnf
  refine SW.block ?_
  obtain ⟨I, hI⟩ : ∃ I : Nat → St → Prop, ∀ k S, I k S ↔ (∃ (j : Nat) (x : SV) (hp : Heap) (ds : List Dp), k = db.length - j ∧ j ≤ db.length ∧ Acc 4 x hp [] ds.length (dCs ds) ∧ A = ds ++ rowP db ar i j ∧ S = ⟨[(1, I64 ar), (2, .fp [TL db]), (7, x), (8, I64 i), (9, I64 j)], hp⟩) := ⟨fun k S => _, fun _ _ => Iff.rfl⟩
  refine SW.loop' I (db.length) ((hI _ _).2 ⟨0, x, hp, ds, rfl, Nat.zero_le _, hA, hAe, rfl⟩) (by repeat' (first | exact rfl | exact trivial | constructor)) ?_
  intro k S hIn
  obtain ⟨j, x, hp, ds, rfl, hi, hA2, hA3, rfl⟩ := (hI _ _).1 hIn
  clear hIn
  have ie : ((j : Nat) : Int).toNat = j := Int.toNat_natCast _
  have i0 : (0 : Int) ≤ ((j : Nat) : Int) := by omega
  clear hA hAe hb
  by_cases hlt : j < db.length
  · have hli : ((j : Nat) : Int) < (((db.length) : Nat) : Int) := by omega
    have w1 : IntKind.i64.wrap ((j : Int) + 1) = ((j + 1 : Nat) : Int) := by rw [i64_wrap (by omega) (by omega)]; omega
    rw [rowP_step hlt, ← List.append_assoc] at hA3
    have fi : tF db i = tC (db.getD i t0) := rfl
    have fj : tF db j = tC (db.getD j t0) := rfl
    have hii : ((i : Nat) : Int) < ((db.length : Nat) : Int) := by omega
    have hi0 : (0 : Int) ≤ ((i : Nat) : Int) := by omega
    have hie : ((i : Nat) : Int).toNat = i := Int.toNat_natCast _
    have hlen3 : ds.length + (pairP db ar i j).length ≤ 2000 := by
      rw [hA3] at hAl
      simp only [List.length_append] at hAl
      omega
    have hc := hh i j hil hlt
    have hAc : dCs (ds ++ pairP db ar i j) = dCs ds ++ dCs (pairP db ar i j) := by unfold dCs; rw [List.flatMap_append]
    have hAn : (ds ++ pairP db ar i j).length = ds.length + (pairP db ar i j).length := List.length_append
    generalize hY : rowP db ar i (j + 1) = Y at *
    generalize pairP db ar i j = G at *
    clear hh
    have hcf : Ab.Call Tryz.prog 49 [DB db, TB (db.getD i t0), TB (db.getD j t0), I64 ar] hp (fun r h' => ∃ h1, h' = hp ++ h1 ∧ Acc 4 r h1 [] G.length (dCs G) ∧ (h'.map (·.1)).Nodup) :=
      Call.outP (Call.frameN (h1 := []) (h2 := hp) hc) fun r h' ⟨h1, e, hA4, hnd⟩ => ⟨hp ++ h1, by rw [e]; exact List.perm_append_comm, h1, rfl, hA4, by rw [e] at hnd; exact (List.perm_append_comm.map _).nodup_iff.2 hnd⟩
    have hb1 : (ds.length + G.length) * 80 ≤ 140737488355328 := by omega
    have hb2 : ds.length + G.length ≤ 140737488355328 := by omega
    have hall := dCs_all G
    have hcl : (dCs G).length = G.length * 4 := dCs_len _
    have hbig : ¬ (2000 : Int) < ((ds.length + G.length : Nat) : Int) := by omega
    clear hc
    generalize db.getD i t0 = f at *
    generalize db.getD j t0 = t at *
    obtain ⟨fn, fa, frs⟩ := f
    obtain ⟨tn, ta, trs⟩ := t
    have hD : (0 : Nat) = 0 := rfl
    repeat' first | ((with_reducible refine Call.mono hcf ?_); (intro rr h' hx); (obtain ⟨h1, rfl, hA4, hnd⟩ := hx); (obtain ⟨hsrc, hsok⟩ := src_acc hA4 hnd); (have hA5 := Acc.fr hA2 hnd); (try simp only [go_sem, hD])) | ((refine appX_of (appK_accS hA5 ?_ hsrc hsok hcl hall ?_ ?_ hb1 hb2 ?_)); (rfl); (exact Nat.succ_pos _); (rfl); (intro x2 hp2 hA6); (refine stop_i ?_)) | (refine SW.seq_k fun K hK => ?_) | (refine SW.block ?_) | ((first | refine SW.region ?_ | refine SW.regionY [13] (id := 13) (Checked.mixed Tryz.checked) ((.one 1 [1, 13, 14, 15] (.one 2 [2, 3, 5, 6, 13, 14, 15] (.one 3 [3, 5, 6, 13, 14, 15] (.one 4 [4, 5, 6, 13, 14, 15] (.one 5 [5, 6, 13, 14, 15] (.one 6 [6, 13, 14, 15] (.one 7 [7, 8, 10, 11, 13, 14, 15] (.one 8 [8, 10, 11, 13, 14, 15] (.one 9 [9, 10, 11, 13, 14, 15] (.one 10 [10, 11, 13, 14, 15] (.one 11 [11, 13, 14, 15] (.one 12 [12, 13, 14, 15] (.alt 0 false (.alt 13 true (.alt 14 false (.one 15 [15] .done) .nil) .nil) (.alt 13 true (.one 0 [0, 14, 15] (.alt 14 false (.one 15 [15] .done) .nil)) .nil)))))))))))))) : OY) (by kernel_rfl) ?_ | refine SW.cond ?_ | refine SW.skip ?_); try simp only [go_sem, hD, hli, ie, i0, w1, fi, fj, hii, hi0, hie, true_implies]) | (apply hK; clear hK K) | (refine And.intro ?_ ?_)
    all_goals
      obtain ⟨pre, hlx, hpre⟩ := Acc.len40 hA6
      obtain ⟨hp3, hA7, hle⟩ := Acc.alone hA6
      refine ⟨?_⟩
      try simp only [go_sem, hD]
      repeat' first | (refine SW.seq_k fun K hK => ?_) | ((first | refine SW.region ?_ | refine SW.cond ?_ | refine SW.skip ?_); try simp only [go_sem, hD, hli, ie, i0, w1, hlx, hpre, hbig, true_implies]) | (apply hK; clear hK K)
      refine Rnd.le (hle _) ?_
      refine Rnd.sub (db.length - (j + 1)) (by omega) ((hI _ _).2 ⟨j + 1, x2, hp3, (ds ++ G), rfl, by omega, by rw [hAn, hAc]; exact hA7, by rw [hY]; exact hA3, rfl⟩) (by repeat' (first | exact rfl | exact trivial | constructor))
  · have hli : ¬ ((j : Nat) : Int) < (((db.length) : Nat) : Int) := by omega
    rw [rowP_end (by omega), List.append_nil] at hA3
    subst hA3
    have hD : (0 : Nat) = 0 := rfl
    repeat' first | (refine SW.seq_k fun K hK => ?_) | ((first | refine SW.region ?_ | refine SW.cond ?_ | refine SW.exit ?_); try simp only [go_sem, hD, hli, true_implies]) | (apply hK; clear hK K)
    exact ⟨x, hp, hA2, St.le_sub (by repeat' (first | exact rfl | exact trivial | constructor))⟩
theorem all_r (db : List Tb) (ar : Nat) (h : OkF db ar) (hok : OkDb db) (hchk : chkD db = 0) (h1 : 1 ≤ ar) (hh : ∀ i k, i < db.length → k < db.length → Ab.Call Tryz.prog 49 [DB db, TB (db.getD i t0), TB (db.getD k t0), I64 ar] [] (fun r h' => Acc 4 r h' [] (pairP db ar i k).length (dCs (pairP db ar i k)))) : AllC db ar 13 [DB db, I64 ar] := by
  have hn := h.n
  have har := h.ar
  have htot := h.tot
  have cc := error_r db (by omega) hok
  rw [hchk] at cc
  have z1 : ¬ ((ar : Nat) : Int) < 1 := by omega
  have z2 : ¬ (6 : Int) < ((ar : Nat) : Int) := by omega
  unfold AllC
  refine Call.enter' (N := 54) (rs := [.tmp 4, .tmp 5]) Tryz.func13 rfl rfl rfl (by decide) rfl ?_; simp only [argT]; have hD : (0 : Nat) = 0 := rfl
  repeat' first | (refine SW.seq_k fun K hK => ?_) | ((first | refine SW.region ?_ | refine SW.cond ?_ | refine SW.skip ?_ | refine Call.of_pure (cc) ?_ | (refine allF_i fun b hb => ?_; replace hD := And.intro hb hD; clear hb; try simp only [fresh_cons, fresh_nil, and_true, ne_eq, neF] at hD)); try simp only [go_sem, hD, z1, z2, true_implies]) | (apply hK; clear hK K)
  obtain ⟨xb, rfl⟩ : ∃ x, x = b := ⟨_, rfl⟩
  refine Ab.SW.le (S' := ⟨[(1, I64 ar), (2, .fp [TL db]), (7, SN), (8, I64 (0 : Nat))], []⟩) ?_ ?_
  · refine St.le.trans (St.le_freezeP (i := 2) (b := xb) (off := 0) (n := 1) (k := .svs [TL db]) rfl (by simp [find_cons, hD]) (by exact Nat.le_refl 1)) ?_
    simp only [getN, Blk.get, go_sem, hD]
    exact St.le_sub (by repeat' (first | exact rfl | exact trivial | constructor))
  clear hD
  have hD : (0 : Nat) = 0 := rfl
  refine SW.block ?_
  obtain ⟨A, hAe⟩ : ∃ A, A = allP db ar 0 := ⟨_, rfl⟩
  have hAl : A.length ≤ 2000 := by rw [hAe]; exact htot
  have hAe0 := hAe
  obtain ⟨I, hI⟩ : ∃ I : Nat → St → Prop, ∀ k S, I k S ↔ (∃ (i : Nat) (x : SV) (hp : Heap) (ds : List Dp), k = db.length - i ∧ i ≤ db.length ∧ Acc 4 x hp [] ds.length (dCs ds) ∧ A = ds ++ allP db ar i ∧ S = ⟨[(1, I64 ar), (2, .fp [TL db]), (7, x), (8, I64 i)], hp⟩) := ⟨fun k S => _, fun _ _ => Iff.rfl⟩
  refine SW.loop' I (db.length) ((hI _ _).2 ⟨0, SN, [], [], rfl, Nat.zero_le _, .nil 4 [], hAe, rfl⟩) (by repeat' (first | exact rfl | exact trivial | constructor)) ?_
  intro k S hIn
  obtain ⟨i, x, hp, ds, rfl, hi, hA2, hA3, rfl⟩ := (hI _ _).1 hIn
  clear hIn
  have ie : ((i : Nat) : Int).toNat = i := Int.toNat_natCast _
  have i0 : (0 : Int) ≤ ((i : Nat) : Int) := by omega
  clear hAe
  by_cases hlt : i < db.length
  · have hli : ((i : Nat) : Int) < (((db.length) : Nat) : Int) := by omega
    have w1 : IntKind.i64.wrap ((i : Int) + 1) = ((i + 1 : Nat) : Int) := by rw [i64_wrap (by omega) (by omega)]; omega
    rw [allP_step hlt, ← List.append_assoc] at hA3
    have hlen3 : ds.length + (rowP db ar i 0).length ≤ 2000 := by
      rw [hA3] at hAl
      simp only [List.length_append] at hAl
      omega
    have hin := allr_k db ar i h hlt hh x hp ds hA2 hlen3
    generalize rowP db ar i 0 = W at *
    clear hA2 hlen3
    repeat' first | (refine SW.seq_k fun K hK => ?_) | ((first | refine SW.region ?_ | refine SW.cond ?_ | refine SW.skip ?_); try simp only [go_sem, hD, hli, ie, i0, w1, true_implies]) | (apply hK; clear hK K)
    refine SW.block ?_
    repeat' first | (refine SW.seq_k fun K hK => ?_) | (refine SW.region ?_; try simp only [go_sem, hD, hli, ie, i0, w1, true_implies]) | (apply hK; clear hK K)
    refine Ab.SW.cut _ (Ab.SW.le (St.le_sub (by repeat' (first | exact rfl | exact trivial | constructor))) hin) ?_
    rintro S' ⟨x2, hp2, hA4, hle⟩
    try simp only [go_sem, hD]
    (first | apply hK | (clear hK K; apply hK) | (clear hK K; clear hK K; apply hK)); clear hK K
    refine Ab.SW.le hle ?_
    clear hle hin
    repeat' (refine SW.region ?_; try simp only [go_sem, hD, hli, ie, i0, w1, true_implies])
    refine Rnd.sub (db.length - (i + 1)) (by omega) ((hI _ _).2 ⟨i + 1, x2, hp2, (ds ++ W), rfl, by omega, hA4, hA3, rfl⟩) (by repeat' (first | exact rfl | exact trivial | constructor))
  · have hli : ¬ ((i : Nat) : Int) < (((db.length) : Nat) : Int) := by omega
    rw [allP_end (by omega), List.append_nil] at hA3
    subst hA3
    rw [hAe0] at hA2
    repeat' first | (refine SW.seq_k fun K hK => ?_) | ((first | refine SW.region ?_ | refine SW.cond ?_ | refine SW.exit ?_ | refine SW.ret ?_); try simp only [go_sem, hD, hli, true_implies]) | (apply hK; clear hK K) | (clear hK K; apply hK; clear hK K)
    refine retQ_le (fun M w0 D N a w r => r) ?_
    simp only [resL_tmp, resL_nil, tupOf, go_sem, hD]
    exact ⟨x, rfl, hA2⟩
end Go.Proofs.YtpidncgibgiidaaGreat
namespace Go.Ab
open Go Go.RowKit
theorem Call.give [Gl] {P : Program} {f : FuncId} {args : List SV} {r : SV} (i : Nat) {b off len sz : Nat} {k : Blk} {H : Heap} (g : Nat → List SV) (hi : i < args.length) (ha : args.getD i .any = .os b off len sz) (hle : off + len * sz ≤ k.len)
    (hg : ∀ j, j < len → g j = getN k (off + j * sz) sz) (hc : PCall P f (args.set i (.fl len sz g)) r) : Call P f args ((b, k) :: H) (fun r' h' => r' = r ∧ h' = H) := by
  have h0 : Call P f args [(b, k)] (fun r' h' => r' = r ∧ h' = []) := by
    refine Call.le (fun c hc => by obtain ⟨k', hk'⟩ := hc; cases hk') (fun M w vs own hr => ⟨own.sub (by simp) (fun x hx => by cases hx), by simpa using hr.1, fun j hj => ?_⟩) hc
    rw [getD_set hi]
    have h0 := hr.2 j (by simpa using hj)
    by_cases hij : i = j
    · subst hij
      rw [if_pos rfl]
      rw [ha] at h0
      exact (freeze_rep own (by rw [find_cons, if_pos rfl]) hle g hg h0).mono (env_le (Frm.refl (fun _ => False) w) (fun _ x _ => x.elim) (fun c _ x => x.elim .inl (fun ⟨_, hk⟩ => by cases hk)))
    · rw [if_neg hij]
      exact h0.mono (env_le (Frm.refl (fun _ => False) w) (fun _ x _ => x.elim) (fun c _ x => x.elim .inl (fun ⟨_, hk⟩ => by cases hk)))
  exact Call.mono (Call.frame (h2 := H) h0) fun r' h' ⟨h1, e, e1, e2⟩ => ⟨e1, by rw [e, e2]; rfl⟩
end Go.Ab
namespace Go.Ab.A15
open Go Go.Ab Go.Ab.A34
def lenTo (ll : List (List Int)) : Nat → Nat
  | 0 => 0
  | k + 1 => lenTo ll k + (ll.getD k []).length
theorem lenTo_le {ll : List (List Int)} {B : Nat} (h : ∀ i, (ll.getD i []).length ≤ B) : ∀ k, lenTo ll k ≤ k * B
  | 0 => by simp [lenTo]
  | k + 1 => by rw [lenTo, Nat.succ_mul]; have := lenTo_le h k; have := h k; omega
theorem lenTo_flat (ll : List (List Int)) : ∀ k, k ≤ ll.length → (ll.take k).flatten.length = lenTo ll k
  | 0, _ => by simp [lenTo]
  | k + 1, h => by
    rw [List.take_succ_eq_append_getElem (by omega), List.flatten_append, List.length_append, lenTo_flat ll k (by omega), lenTo, getD_list _ _ _ (by omega)]
    simp
def shP (a b : Dp) : Bool := decide (a.f = b.f) && (decide (a.t = b.t) && (decide (a.l.length + 1 = b.l.length) && (List.range b.l.length).any fun p => decide (a.l = woL b.l p) && decide (a.r = woL b.r p)))
end Go.Ab.A15
namespace Go.Proofs.YtpidncgibgiidaaGreat
open Go Go.Ab Go.Ab.A34 Go.Ab.A15 Go.Ab.A01
variable [Gl] [Tabs]
theorem grow_i (n : Nat) (hn : n ≤ 1000000) : Ab.Call Tryz.prog 134 [SN, I64 n] [] (fun r h => (n = 0 ∧ r = SN ∧ h = []) ∨ ∃ b blk, r = .os b 0 0 1 ∧ h = [(b, blk)] ∧ blk.isM = false) := by
  have e0 : IntKind.i64.wrap (0 - 0) = 0 := by rw [i64_wrap] <;> omega
  have e1 : IntKind.i64.wrap (n : Int) = n := by rw [i64_wrap] <;> omega
  have e2 := Int.sub_zero (n : Int)
  have e3 : ¬ ((n : Nat) : Int) < 0 := by omega
  by_cases h0 : n = 0
  · subst h0
    have e4 : ¬ (0 : Int) < ((0 : Nat) : Int) := by omega
    refine Call.enter' (N := 27) (rs := [.tmp 4]) Tryz.func134 rfl rfl rfl (by decide) rfl ?_; simp only [argT]; have hD : (0 : Nat) = 0 := rfl
    repeat' first | (refine SW.seq_k fun K hK => ?_) | ((first | refine SW.region ?_ | refine SW.cond ?_ | refine SW.skip ?_ | refine SW.ret ?_); try simp only [go_sem, hD, e0, e1, e2, e3, e4, true_implies]) | (apply hK; clear hK K)
    all_goals
      refine retQ_le (fun M w0 D N a w r => r) ?_
      simp only [resL_tmp, resL_nil, tupOf, go_sem, hD]
      try exact .inl ⟨rfl, rfl, rfl⟩
  · have e4 : (0 : Int) < ((n : Nat) : Int) := by omega
    have e5 : ((n : Nat) : Int) * 8 ≤ 140737488355328 := by omega
    have e6 : ((n : Nat) : Int) ≤ 140737488355328 := by omega
    refine Call.enter' (N := 27) (rs := [.tmp 4]) Tryz.func134 rfl rfl rfl (by decide) rfl ?_; simp only [argT]; have hD : (0 : Nat) = 0 := rfl
    repeat' first | (with_reducible refine And.intro (by omega) ?_) | (refine SW.seq_k fun K hK => ?_) | ((first | refine SW.region ?_ | refine SW.cond ?_ | refine SW.skip ?_ | refine SW.ret ?_ | (refine allF_i fun b hb => ?_; replace hD := And.intro hb hD; clear hb; try simp only [fresh_cons, fresh_nil, and_true, ne_eq, neF] at hD)); try simp only [go_sem, hD, e0, e1, e2, e3, e4, e5, e6, true_implies]) | (apply hK; clear hK K)
    all_goals
      refine retQ_le (fun M w0 D N a w r => r) ?_
      simp only [resL_tmp, resL_nil, tupOf, go_sem, hD]
      exact .inr ⟨_, _, rfl, rfl, rfl⟩
theorem concat_i (ll : List (List Int)) (G : Nat → Nat → List SV) (hG : ∀ j, j < ll.length → flCells (G j) (ll.getD j []).length = iC (ll.getD j [])) (hl : ll.length ≤ 2) (hr : ∀ i, (ll.getD i []).length ≤ 1000) : PCall Tryz.prog 98 [.fl ll.length 1 (fun j => [.fl (ll.getD j []).length 1 (G j)])] (IL ll.flatten) := by
  obtain ⟨gf, hgf⟩ : ∃ gf : Nat → List SV, ∀ j, gf j = [.fl (ll.getD j []).length 1 (G j)] := ⟨_, fun _ => rfl⟩
  have hge : (fun j => [SV.fl (ll.getD j []).length 1 (G j)]) = gf := funext fun j => (hgf j).symm
  rw [hge]
  clear hge
  have hB := fun k => lenTo_le hr k
  refine Call.enter' (N := 36) (rs := [.tmp 2]) Tryz.func98 rfl rfl rfl (by decide) rfl ?_; simp only [argT]; have hD : (0 : Nat) = 0 := rfl
  repeat' first | (refine SW.seq_k fun K hK => ?_) | (refine SW.region ?_; try simp only [go_sem, hD, true_implies]) | (apply hK; clear hK K)
  refine SW.block ?_
  obtain ⟨I, hI⟩ : ∃ I : Nat → St → Prop, ∀ k S, I k S ↔ (∃ (j : Nat) , k = ll.length - j ∧ j ≤ ll.length ∧ S = ⟨[(0, .fl ll.length 1 gf), (3, I64 (lenTo ll j)), (9, .fl ll.length 1 gf), (10, I64 ll.length), (11, I64 j)], []⟩) := ⟨fun k S => _, fun _ _ => Iff.rfl⟩
  refine SW.loop' I (ll.length) ((hI _ _).2 ⟨0, rfl, Nat.zero_le _, rfl⟩) (by repeat' (first | exact rfl | exact trivial | constructor)) ?_
  intro k S hIn
  obtain ⟨j, rfl, hi, rfl⟩ := (hI _ _).1 hIn
  clear hIn
  have ie : ((j : Nat) : Int).toNat = j := Int.toNat_natCast _
  have i0 : (0 : Int) ≤ ((j : Nat) : Int) := by omega
  by_cases hlt : j < ll.length
  · have hli : ((j : Nat) : Int) < (((ll.length) : Nat) : Int) := by omega
    have w1 : IntKind.i64.wrap ((j : Int) + 1) = ((j + 1 : Nat) : Int) := by rw [i64_wrap (by omega) (by omega)]; omega
    have hBj := hB j
    have hj3 : j * 1000 ≤ 2000 := by have := Nat.mul_le_mul_right 1000 (show j ≤ 2 by omega); omega
    have hrj := hr j
    have ht : lenTo ll (j + 1) = lenTo ll j + (ll.getD j []).length := rfl
    have e3 : IntKind.i64.wrap ((lenTo ll j : Int) + ((ll.getD j []).length : Int)) = ((lenTo ll (j + 1) : Nat) : Int) := by rw [i64_wrap] <;> omega
    have fj := hgf j
    have e4 : ¬ ((lenTo ll (j + 1) : Nat) : Int) < 0 := by omega
    repeat' first | (refine SW.seq_k fun K hK => ?_) | (refine SW.block ?_) | ((first | refine SW.region ?_ | refine SW.cond ?_ | refine SW.skip ?_); try simp only [go_sem, hD, hli, ie, i0, w1, fj, e3, e4, true_implies]) | (apply hK; clear hK K)
    refine Rnd.sub (ll.length - (j + 1)) (by omega) ((hI _ _).2 ⟨j + 1, rfl, by omega, rfl⟩) (by repeat' (first | exact rfl | exact trivial | constructor))
  · have hli : ¬ ((j : Nat) : Int) < (((ll.length) : Nat) : Int) := by omega
    obtain rfl : j = ll.length := by omega
    have hBj := hB ll.length
    have hj3 : ll.length * 1000 ≤ 2000 := by have := Nat.mul_le_mul_right 1000 hl; omega
    repeat' first | (refine SW.seq_k fun K hK => ?_) | ((first | refine SW.region ?_ | refine SW.cond ?_ | refine SW.exit ?_); try simp only [go_sem, hD, hli, true_implies]) | (apply hK; clear hK K) | (clear hK K; apply hK; clear hK K)
    refine Ab.Call.mono (grow_i _ (by omega)) fun r h hrh => ?_
    have hA : ∃ h2, Acc 1 r h2 [] 0 [] ∧ ∀ t : List (Nat × SV), (St.mk t h).le ⟨t, h2⟩ := by
      rcases hrh with ⟨_, rfl, rfl⟩ | ⟨b, blk, rfl, rfl, hM⟩
      · exact ⟨[], .nil 1 [], fun t => .refl _⟩
      · exact ⟨[(b, .svs [])], .inr ⟨b, .svs [], trivial, rfl, rfl, rfl, rfl, rfl⟩, fun t => by
          have := St.le_cut (t := t) (h := [(b, blk)]) (b := b) (k' := .svs []) 0 (by rw [find_cons, if_pos rfl]) (by simp [Blk.cells]) hM rfl
          simpa [Heap.upd] using this⟩
    clear hrh
    obtain ⟨h2, hA, hle⟩ := hA
    try simp only [go_sem, hD]
    (first | apply hK | (clear hK K; apply hK) | (clear hK K; clear hK K; apply hK)); clear hK K
    refine Ab.SW.le (hle _) ?_
    clear hle hI I
    repeat' first | (refine SW.seq_k fun K hK => ?_) | (refine SW.region ?_; try simp only [go_sem, hD, true_implies]) | (apply hK; clear hK K)
    refine SW.block ?_
    obtain ⟨I, hI⟩ : ∃ I : Nat → St → Prop, ∀ k S, I k S ↔ (∃ (j : Nat) (y : SV) (hq : Heap), k = ll.length - j ∧ j ≤ ll.length ∧ Acc 1 y hq [] (lenTo ll j) (iC (ll.take j).flatten) ∧ S = ⟨[(6, y), (25, .fl ll.length 1 gf), (26, I64 ll.length), (27, I64 j)], hq⟩) := ⟨fun k S => _, fun _ _ => Iff.rfl⟩
    refine SW.loop' I (ll.length) ((hI _ _).2 ⟨0, _, _, rfl, Nat.zero_le _, hA, rfl⟩) (by repeat' (first | exact rfl | exact trivial | constructor)) ?_
    intro k S hIn
    obtain ⟨j, y, hq, rfl, hi, hA3, rfl⟩ := (hI _ _).1 hIn
    clear hIn
    have ie : ((j : Nat) : Int).toNat = j := Int.toNat_natCast _
    have i0 : (0 : Int) ≤ ((j : Nat) : Int) := by omega
    by_cases hlt : j < ll.length
    · have hli : ((j : Nat) : Int) < (((ll.length) : Nat) : Int) := by omega
      have w1 : IntKind.i64.wrap ((j : Int) + 1) = ((j + 1 : Nat) : Int) := by rw [i64_wrap (by omega) (by omega)]; omega
      have hBk := hB j
      have hBk2 := hB (j + 1)
      have hk3 : j * 1000 ≤ 2000 := by have := Nat.mul_le_mul_right 1000 (show j ≤ 2 by omega); omega
      have hrk := hr j
      have ht : lenTo ll (j + 1) = lenTo ll j + (ll.getD j []).length := rfl
      have fj := hgf j
      have hsrc : ∀ H, srcCells (.fl (ll.getD j []).length 1 (G j)) H = some ((ll.getD j []).length, iC (ll.getD j [])) := fun H => by
        show some (_, flCells (G j) (ll.getD j []).length) = _
        rw [hG j hlt]
      have hcl : (iC (ll.getD j [])).length = (ll.getD j []).length * 1 := by rw [List.length_map, Nat.mul_one]
      have hall := iC_all (ll.getD j [])
      have hb1 : (lenTo ll j + (ll.getD j []).length) * 8 ≤ 140737488355328 := by omega
      have hb2 : lenTo ll j + (ll.getD j []).length ≤ 140737488355328 := by omega
      have e4 : (ll.take (j + 1)).flatten = (ll.take j).flatten ++ ll.getD j [] := by
        rw [List.take_succ_eq_append_getElem (by omega), List.flatten_append, getD_list _ _ _ (by omega)]
        simp
      have e5 : iC (ll.take (j + 1)).flatten = iC (ll.take j).flatten ++ iC (ll.getD j []) := by rw [e4, iC, List.map_append]
      repeat' first | ((with_reducible refine appK_accS hA3 ?_ (hsrc _) ?_ hcl hall ?_ ?_ hb1 hb2 ?_); (rfl); (rfl); (exact Nat.succ_pos _); (rfl); (intro x2 hp2 hA6); (try simp only [go_sem, hD])) | (refine SW.seq_k fun K hK => ?_) | (refine SW.block ?_) | ((first | refine SW.region ?_ | refine SW.cond ?_ | refine SW.skip ?_); try simp only [go_sem, hD, hli, ie, i0, w1, fj, true_implies]) | (apply hK; clear hK K)
      refine Rnd.sub (ll.length - (j + 1)) (by omega) ((hI _ _).2 ⟨j + 1, x2, hp2, rfl, by omega, by rw [ht, e5]; exact hA6, rfl⟩) (by repeat' (first | exact rfl | exact trivial | constructor))
    · have hli : ¬ ((j : Nat) : Int) < (((ll.length) : Nat) : Int) := by omega
      obtain rfl : j = ll.length := by omega
      rw [List.take_length, ← lenTo_flat ll ll.length (Nat.le_refl _), List.take_length] at hA3
      repeat' first | (refine SW.seq_k fun K hK => ?_) | ((first | refine SW.region ?_ | refine SW.cond ?_ | refine SW.exit ?_ | refine SW.ret ?_); try simp only [go_sem, hD, hli, true_implies]) | (apply hK; clear hK K) | (clear hK K; apply hK; clear hK K)
      refine retQ_le (St.le_acc_ints (i := 2) rfl hA3) ?_
      simp only [resL_tmp, resL_nil, tupOf, go_sem, hD]
      rfl
end Go.Proofs.YtpidncgibgiidaaGreat
def Go.Ab.zNP_1 : Go.Ab.OW := (.fre 0 [0, 1, 13, 14, 15, 16, 17, 18, 19, 20, 21, 22, 23, 24, 25, 26, 27, 28, 29] (.fre 1 [1, 13, 14, 15, 16, 17, 18, 19, 20, 21, 22, 23, 24, 25, 26, 27, 28, 29] (.fre 2 [2, 3, 5, 11, 12, 13, 14, 15, 16, 17, 18, 19, 20, 21, 22, 23, 24, 25, 26, 27, 28, 29] (.fre 3 [3, 5, 11, 12, 13, 14, 15, 16, 17, 18, 19, 20, 21, 22, 23, 24, 25, 26, 27, 28, 29] (.fre 4 [4, 5, 11, 12, 13, 14, 15, 16, 17, 18, 19, 20, 21, 22, 23, 24, 25, 26, 27, 28, 29] (.fre 5 [5, 11, 12, 13, 14, 15, 16, 17, 18, 19, 20, 21, 22, 23, 24, 25, 26, 27, 28, 29] (.fre 6 [6, 7, 10, 11, 12, 13, 14, 15, 16, 17, 18, 19, 20, 21, 22, 23, 24, 25, 26, 27, 28, 29] (.fre 7 [7, 10, 11, 12, 13, 14, 15, 16, 17, 18, 19, 20, 21, 22, 23, 24, 25, 26, 27, 28, 29] (.fre 8 [8, 9, 10, 11, 12, 13, 14, 15, 16, 17, 18, 19, 20, 21, 22, 23, 24, 25, 26, 27, 28, 29] (.fre 9 [9, 10, 11, 12, 13, 14, 15, 16, 17, 18, 19, 20, 21, 22, 23, 24, 25, 26, 27, 28, 29] (.fre 10 [10, 11, 12, 13, 14, 15, 16, 17, 18, 19, 20, 21, 22, 23, 24, 25, 26, 27, 28, 29] (.alt 11 false (.alt 12 true (.fre 13 [13, 14, 15, 16, 17, 18, 19, 20, 21, 22, 23, 24, 25, 26, 27, 28, 29] (.fre 14 [14, 15, 16, 17, 18, 19, 20, 21, 22, 23, 24, 25, 26, 27, 28, 29] (.fre 15 [15, 16, 28, 29] (.fre 16 [16, 28, 29] (.fre 17 [17, 18, 20, 26, 27, 28, 29] (.fre 18 [18, 20, 26, 27, 28, 29] (.fre 19 [19, 20, 26, 27, 28, 29] (.fre 20 [20, 26, 27, 28, 29] (.fre 21 [21, 22, 25, 26, 27, 28, 29] (.fre 22 [22, 25, 26, 27, 28, 29] (.fre 23 [23, 24, 25, 26, 27, 28, 29] (.fre 24 [24, 25, 26, 27, 28, 29] (.fre 25 [25, 26, 27, 28, 29] (.alt 26 false (.alt 27 true (.fre 28 [28, 29] (.fre 29 [29] .done)) .nil) .nil)))))))))))))) .nil) .nil))))))))))))
namespace Go.Proofs.YtpidncgibgiidaaGreat
open Go Go.Ab Go.Ab.A34 Go.Ab.A15 Go.Ab.A01
variable [Gl] [Tabs]
theorem shorter_p (a b : Dp) (hb : b.l.length = b.r.length) (ol : b.l.length ≤ 400) (oa : a.l.length ≤ 1000) (oar : a.r.length ≤ 1000) : PCall Tryz.prog 51 [DV a, DV b] (SB (shP a b)) := by
  obtain ⟨X, hX⟩ : ∃ X, X = shP a b := ⟨_, rfl⟩
  rw [← hX]
  unfold shP at hX
  obtain ⟨af, al, at', ar⟩ := a
  obtain ⟨bf, bl, bt, br⟩ := b
  simp only at *
  have e1 := @barr_eq af bf
  have e2 := @barr_eq at' bt
  by_cases h1 : af = bf
  · have f1 : (af.toList == bf.toList) = true := e1.2 h1
    rw [decide_eq_true h1, Bool.true_and] at hX
    by_cases h2 : at' = bt
    · have f2 : (at'.toList == bt.toList) = true := e2.2 h2
      rw [decide_eq_true h2, Bool.true_and] at hX
      have wl : IntKind.i64.wrap (((al.length : Nat) : Int) + 1) = ((al.length : Nat) : Int) + 1 := by rw [i64_wrap] <;> omega
      by_cases h3 : al.length + 1 = bl.length
      · have f3 : ((al.length : Nat) : Int) + 1 = ((bl.length : Nat) : Int) := by omega
        rw [decide_eq_true h3, Bool.true_and] at hX
        have hno : (∀ p, p < bl.length → ¬ (al = woL bl p ∧ ar = woL br p)) → X = false := fun h => by
          rw [hX, List.any_eq_false]
          intro p hp
          rw [List.mem_range] at hp
          simpa using h p hp
        have hyes : ∀ p, p < bl.length → al = woL bl p → ar = woL br p → X = true := fun p hp h4 h5 => by
          rw [hX, List.any_eq_true]
          exact ⟨p, List.mem_range.2 hp, by simp [h4, h5]⟩
        clear hX e1 e2
        have wb : IntKind.i64.wrap ((bl.length : Nat) : Int) = ((bl.length : Nat) : Int) := by rw [i64_wrap] <;> omega
        have cK := fun (l : List Int) (p : Nat) (hp : p < l.length) (hl : l.length ≤ 400) => concat_i [l.take p, l.drop (p + 1)] (fun j => if j = 0 then (fun i => iF l i) else (fun i => iF l (p + 1 + i))) (fun j hj => by
          rcases (by simp at hj; omega : j = 0 ∨ j = 1) with rfl | rfl
          · show flCells (fun i => iF l i) (l.take p).length = iC (l.take p)
            rw [List.length_take, Nat.min_eq_left (by omega)]
            exact fl_take l p (by omega)
          · show flCells (fun i => iF l (p + 1 + i)) (l.drop (p + 1)).length = iC (l.drop (p + 1))
            exact fl_drop l (p + 1) _ (by rw [List.length_drop])) (by simp) (fun i => by
          rcases Nat.lt_or_ge i 2 with h | h
          · rcases (by omega : i = 0 ∨ i = 1) with rfl | rfl
            · show (l.take p).length ≤ _
              rw [List.length_take]; omega
            · show (l.drop (p + 1)).length ≤ _
              rw [List.length_drop]; omega
          · rw [List.getD_eq_getElem?_getD, List.getElem?_eq_none (by simp; omega)]; simp)
        have cC : ∀ (l : List Int) (p : Nat), p < l.length → l.length ≤ 400 → ∀ (bk : Nat) (H : Heap), Ab.Call Tryz.prog 98 [.os bk 0 2 1] ((bk, .svs [.fl p 1 (fun i => iF l i), .fl (l.length - (p + 1)) 1 (fun i => iF l (p + 1 + i))]) :: H) (fun r h' => r = IL (woL l p) ∧ h' = H) := fun l p hp hl bk H => by
          have c := cK l p hp hl
          have e : [l.take p, l.drop (p + 1)].flatten = woL l p := by simp [woL]
          rw [e] at c
          refine Call.give (args := [.os bk 0 2 1]) (len := 2) (sz := 1) 0 _ (by simp) rfl (by show 0 + 2 * 1 ≤ 2; omega) (fun j hj => ?_) c
          rcases (by omega : j = 0 ∨ j = 1) with rfl | rfl
          · show [SV.fl (l.take p).length 1 _] = _
            rw [List.length_take, Nat.min_eq_left (by omega)]
            rfl
          · show [SV.fl (l.drop (p + 1)).length 1 _] = _
            rw [List.length_drop]
            rfl
        clear cK
        refine Call.enter' (N := 65) (rs := [.tmp 4]) Tryz.func51 rfl rfl rfl (by decide) rfl ?_; simp only [argT]; have hD : (0 : Nat) = 0 := rfl
        repeat' first | (refine SW.seq_k fun K hK => ?_) | ((first | refine SW.region ?_ | refine SW.cond ?_ | refine SW.skip ?_ | (refine allF_i fun b hb => ?_; replace hD := And.intro hb hD; clear hb; try simp only [fresh_cons, fresh_nil, and_true, ne_eq, neF] at hD)); try simp only [go_sem, hD, f1, f2, wl, f3, wb, true_implies]) | (apply hK; clear hK K)
        obtain ⟨bb, rfl⟩ : ∃ x, x = b := ⟨_, rfl⟩
        obtain ⟨ab, rfl⟩ : ∃ x, x = b := ⟨_, rfl⟩
        refine Ab.SW.le (S' := ⟨[(2, .fp (dC ⟨af, al, at', ar⟩)), (3, .fp (dC ⟨bf, bl, bt, br⟩)), (30, I64 bl.length), (31, I64 (0 : Nat))], []⟩) ?_ ?_
        · refine St.le.trans (St.le_freezeP (i := 2) (b := ab) (off := 0) (n := 4) (k := .svs (dC ⟨af, al, at', ar⟩)) rfl (by simp [find_cons, hD]) (by exact Nat.le_refl 4)) ?_
          simp only [getN, Blk.get, go_sem, hD]
          refine St.le.trans (St.le_freezeP (i := 3) (b := bb) (off := 0) (n := 4) (k := .svs (dC ⟨bf, bl, bt, br⟩)) rfl (by simp [find_cons, hD]) (by exact Nat.le_refl 4)) ?_
          simp only [getN, Blk.get, go_sem, hD]
          exact St.le_sub (by repeat' (first | exact rfl | exact trivial | constructor))
        clear hD
        have hD : (0 : Nat) = 0 := rfl
        refine SW.block ?_
        obtain ⟨I, hI⟩ : ∃ I : Nat → St → Prop, ∀ k S, I k S ↔ (∃ (p : Nat) , k = bl.length - p ∧ p ≤ bl.length ∧ (∀ j, j < p → ¬ (al = woL bl j ∧ ar = woL br j)) ∧ S = ⟨[(2, .fp (dC ⟨af, al, at', ar⟩)), (3, .fp (dC ⟨bf, bl, bt, br⟩)), (30, I64 bl.length), (31, I64 p)], []⟩) := ⟨fun k S => _, fun _ _ => Iff.rfl⟩
        refine SW.loop' I (bl.length) ((hI _ _).2 ⟨0, rfl, Nat.zero_le _, (fun j hj => absurd hj (by omega)), rfl⟩) (by repeat' (first | exact rfl | exact trivial | constructor)) ?_
        intro k S hIn
        obtain ⟨p, rfl, hi, hL, rfl⟩ := (hI _ _).1 hIn
        clear hIn
        have ie : ((p : Nat) : Int).toNat = p := Int.toNat_natCast _
        have i0 : (0 : Int) ≤ ((p : Nat) : Int) := by omega
        by_cases hlt : p < bl.length
        · have hli : ((p : Nat) : Int) < (((bl.length) : Nat) : Int) := by omega
          have w1 : IntKind.i64.wrap ((p : Int) + 1) = ((p + 1 : Nat) : Int) := by rw [i64_wrap (by omega) (by omega)]; omega
          have g2 : ((p : Nat) : Int) ≤ ((bl.length : Nat) : Int) := by omega
          have g3 : ((p : Nat) : Int) ≤ ((br.length : Nat) : Int) := by omega
          have g4 : ((p + 1 : Nat) : Int) ≤ ((bl.length : Nat) : Int) := by omega
          have g5 : ((p + 1 : Nat) : Int) ≤ ((br.length : Nat) : Int) := by omega
          have g6 : (0 : Int) ≤ ((p + 1 : Nat) : Int) := by omega
          have z1 : (((p : Nat) : Int) - 0).toNat = p := by omega
          have t1 : (((bl.length : Nat) : Int) - ((p + 1 : Nat) : Int)).toNat = bl.length - (p + 1) := by omega
          have t2 : (((br.length : Nat) : Int) - ((p + 1 : Nat) : Int)).toNat = br.length - (p + 1) := by omega
          have c1 := fun bk H => cC bl p hlt ol bk H
          have c2 := fun bk H => cC br p (by omega) (by omega) bk H
          have wll : (woL bl p).length ≤ 1000 := by unfold woL; rw [List.length_append, List.length_take, List.length_drop]; omega
          have wlr : (woL br p).length ≤ 1000 := by unfold woL; rw [List.length_append, List.length_take, List.length_drop]; omega
          have q1 := equal_i al (woL bl p) (by omega) (by omega) _ rfl (iF (woL bl p)) (fun _ _ => rfl)
          have q2 := equal_i ar (woL br p) (by omega) (by omega) _ rfl (iF (woL br p)) (fun _ _ => rfl)
          have hyp := hyes p hlt
          have hn1 : ¬ (al = woL bl p ∧ ar = woL br p) → ∀ j, j < p + 1 → ¬ (al = woL bl j ∧ ar = woL br j) := fun h j hj => by
            rcases Nat.lt_or_ge j p with h3 | h3
            · exact hL j h3
            · obtain rfl : j = p := by omega
              exact h
          clear hyes hno hL cC
          generalize woL bl p = wbl at *
          generalize woL br p = wbr at *
          by_cases h5 : al = wbl
          · rw [decide_eq_true h5] at q1
            by_cases h6 : ar = wbr
            · rw [decide_eq_true h6] at q2
              have hx := hyp h5 h6
              subst hx
              clear hn1 hyp
              repeat' first | ((with_reducible refine Call.mono (c1 _ _) ?_); (intro rr h' hx); (obtain ⟨rfl, rfl⟩ := hx); (try simp only [go_sem, hD])) | ((with_reducible refine Call.mono (c2 _ _) ?_); (intro rr h' hx); (obtain ⟨rfl, rfl⟩ := hx); (try simp only [go_sem, hD])) | (refine SW.seq_k fun K hK => ?_) | (refine SW.block ?_) | ((first | refine SW.region ?_ | refine SW.regionW [12, 27] (id := 6) (Checked.mixed Tryz.checked) Go.Ab.zNP_1 (by kernel_rfl) ?_ | refine SW.cond ?_ | refine SW.skip ?_ | refine SW.ret ?_ | refine ⟨_, q1, ?_⟩ | refine ⟨_, q2, ?_⟩ | (refine allF_i fun b hb => ?_; replace hD := And.intro hb hD; clear hb; try simp only [fresh_cons, fresh_nil, and_true, ne_eq, neF] at hD)); try simp only [Go.Ab.zNP_1, go_sem, hD, hli, ie, i0, w1, g2, g3, g4, g5, g6, z1, t1, t2, true_implies]) | (apply hK; clear hK K)
              all_goals
                refine ret_pure ?_; simp only [resL_tmp, resL_nil, tupOf, go_sem, hD]
            · rw [decide_eq_false h6] at q2
              have hn2 := hn1 fun h => h6 h.2
              clear hn1 hyp
              repeat' first | ((with_reducible refine Call.mono (c1 _ _) ?_); (intro rr h' hx); (obtain ⟨rfl, rfl⟩ := hx); (try simp only [go_sem, hD])) | ((with_reducible refine Call.mono (c2 _ _) ?_); (intro rr h' hx); (obtain ⟨rfl, rfl⟩ := hx); (try simp only [go_sem, hD])) | (refine SW.seq_k fun K hK => ?_) | (refine SW.block ?_) | ((first | refine SW.region ?_ | refine SW.regionW [12, 27] (id := 6) (Checked.mixed Tryz.checked) Go.Ab.zNP_1 (by kernel_rfl) ?_ | refine SW.cond ?_ | refine SW.skip ?_ | refine ⟨_, q1, ?_⟩ | refine ⟨_, q2, ?_⟩ | (refine allF_i fun b hb => ?_; replace hD := And.intro hb hD; clear hb; try simp only [fresh_cons, fresh_nil, and_true, ne_eq, neF] at hD)); try simp only [Go.Ab.zNP_1, go_sem, hD, hli, ie, i0, w1, g2, g3, g4, g5, g6, z1, t1, t2, true_implies]) | (apply hK; clear hK K)
              all_goals
                refine Rnd.sub (bl.length - (p + 1)) (by omega) ((hI _ _).2 ⟨p + 1, rfl, by omega, hn2, rfl⟩) (by repeat' (first | exact rfl | exact trivial | constructor))
          · rw [decide_eq_false h5] at q1
            have hn2 := hn1 fun h => h5 h.1
            clear hn1 hyp q2 c2
            repeat' first | ((with_reducible refine Call.mono (c1 _ _) ?_); (intro rr h' hx); (obtain ⟨rfl, rfl⟩ := hx); (try simp only [go_sem, hD])) | (refine SW.seq_k fun K hK => ?_) | (refine SW.block ?_) | ((first | refine SW.region ?_ | refine SW.regionW [12, 27] (id := 6) (Checked.mixed Tryz.checked) Go.Ab.zNP_1 (by kernel_rfl) ?_ | refine SW.cond ?_ | refine SW.skip ?_ | refine ⟨_, q1, ?_⟩ | (refine allF_i fun b hb => ?_; replace hD := And.intro hb hD; clear hb; try simp only [fresh_cons, fresh_nil, and_true, ne_eq, neF] at hD)); try simp only [Go.Ab.zNP_1, go_sem, hD, hli, ie, i0, w1, g2, g3, g4, g5, g6, z1, t1, t2, true_implies]) | (apply hK; clear hK K)
            all_goals
              refine Rnd.sub (bl.length - (p + 1)) (by omega) ((hI _ _).2 ⟨p + 1, rfl, by omega, hn2, rfl⟩) (by repeat' (first | exact rfl | exact trivial | constructor))
        · have hli : ¬ ((p : Nat) : Int) < (((bl.length) : Nat) : Int) := by omega
          have hx := hno fun j hj => hL j (by omega)
          subst hx
          repeat' first | (refine SW.seq_k fun K hK => ?_) | ((first | refine SW.region ?_ | refine SW.cond ?_ | refine SW.exit ?_ | refine SW.ret ?_); try simp only [go_sem, hD, hli]) | (apply hK; clear hK K) | (clear hK K; apply hK; clear hK K)
          refine ret_pure ?_; simp only [resL_tmp, resL_nil, tupOf, go_sem, hD]
      · have f3 : ¬ ((al.length : Nat) : Int) + 1 = ((bl.length : Nat) : Int) := by omega
        rw [decide_eq_false h3, Bool.false_and] at hX
        subst hX
        refine Call.enter' (N := 65) (rs := [.tmp 4]) Tryz.func51 rfl rfl rfl (by decide) rfl ?_; simp only [argT]; have hD : (0 : Nat) = 0 := rfl
        repeat' first | (refine SW.seq_k fun K hK => ?_) | ((first | refine SW.region ?_ | refine SW.cond ?_ | refine SW.ret ?_ | (refine allF_i fun b hb => ?_; replace hD := And.intro hb hD; clear hb; try simp only [fresh_cons, fresh_nil, and_true, ne_eq, neF] at hD)); try simp only [go_sem, hD, f1, f2, wl, f3, true_implies]) | (apply hK; clear hK K)
        all_goals
          refine ret_pure ?_; simp only [resL_tmp, resL_nil, tupOf, go_sem, hD]
    · have f2 : (at'.toList == bt.toList) = false := Bool.eq_false_iff.2 fun h => h2 (e2.1 h)
      rw [decide_eq_false h2, Bool.false_and] at hX
      subst hX
      refine Call.enter' (N := 65) (rs := [.tmp 4]) Tryz.func51 rfl rfl rfl (by decide) rfl ?_; simp only [argT]; have hD : (0 : Nat) = 0 := rfl
      repeat' first | (refine SW.seq_k fun K hK => ?_) | ((first | refine SW.region ?_ | refine SW.cond ?_ | refine SW.ret ?_ | (refine allF_i fun b hb => ?_; replace hD := And.intro hb hD; clear hb; try simp only [fresh_cons, fresh_nil, and_true, ne_eq, neF] at hD)); try simp only [go_sem, hD, f1, f2, true_implies]) | (apply hK; clear hK K)
      all_goals
        refine ret_pure ?_; simp only [resL_tmp, resL_nil, tupOf, go_sem, hD]
  · have f1 : (af.toList == bf.toList) = false := Bool.eq_false_iff.2 fun h => h1 (e1.1 h)
    rw [decide_eq_false h1, Bool.false_and] at hX
    subst hX
    refine Call.enter' (N := 65) (rs := [.tmp 4]) Tryz.func51 rfl rfl rfl (by decide) rfl ?_; simp only [argT]; have hD : (0 : Nat) = 0 := rfl
    repeat' first | (refine SW.seq_k fun K hK => ?_) | ((first | refine SW.region ?_ | refine SW.cond ?_ | refine SW.ret ?_ | (refine allF_i fun b hb => ?_; replace hD := And.intro hb hD; clear hb; try simp only [fresh_cons, fresh_nil, and_true, ne_eq, neF] at hD)); try simp only [go_sem, hD, f1, true_implies]) | (apply hK; clear hK K)
    all_goals
      refine ret_pure ?_; simp only [resL_tmp, resL_nil, tupOf, go_sem, hD]
end Go.Proofs.YtpidncgibgiidaaGreat
namespace Go.Ab.A15
open Go Go.Ab Go.Ab.A34
def maxP (L : List Dp) : List Dp := L.filter fun a => !(L.any fun b => shP a b)
def maxI (L : List Dp) (i : Nat) : List Dp := (L.take i).filter fun a => !(L.any fun b => shP a b)
theorem maxI_step {L : List Dp} {i : Nat} (h : i < L.length) : maxI L (i + 1) = maxI L i ++ if (L.any fun b => shP (L.getD i d0) b) = true then [] else [L.getD i d0] := by
  have g : L.getD i d0 = L[i] := by simp [List.getD_eq_getElem?_getD, h]
  unfold maxI
  rw [List.take_succ_eq_append_getElem h, List.filter_append, g]
  congr 1
  cases hb : (L.any fun b => shP L[i] b) <;> simp [hb]
theorem maxI_len (L : List Dp) (i : Nat) : (maxI L i).length ≤ i := by
  unfold maxI
  refine Nat.le_trans (List.length_filter_le _ _) ?_
  rw [List.length_take]; omega
structure Ok6 (d : Dp) : Prop where
  e : d.l.length = d.r.length
  l : d.l.length ≤ 10
end Go.Ab.A15
namespace Go.Proofs.YtpidncgibgiidaaGreat
open Go Go.Ab Go.Ab.A34 Go.Ab.A15 Go.Ab.A01
variable [Gl] [Tabs]
theorem max_f (a b : Dp) (ha : Ok6 a) (hb : Ok6 b) : PCall Tryz.prog 50 [DV b, .fp (dC a)] (SB (shP a b)) := by
  have c := shorter_p a b hb.e (by have := hb.l; omega) (by have := ha.l; omega) (by have := ha.l; have := ha.e; omega)
  generalize shP a b = z at *
  obtain ⟨af, al, at', ar⟩ := a
  obtain ⟨bf, bl, bt, br⟩ := b
  refine Call.enter' (N := 7) (rs := [.tmp 3]) Tryz.func50 rfl rfl rfl (by decide) rfl ?_; simp only [argT]; have hD : (0 : Nat) = 0 := rfl
  repeat' first | (refine SW.seq_k fun K hK => ?_) | ((first | refine SW.region ?_ | refine SW.ret ?_ | refine Call.of_pure (c) ?_ | (refine allF_i fun b hb => ?_; replace hD := And.intro hb hD; clear hb; try simp only [fresh_cons, fresh_nil, and_true, ne_eq, neF] at hD)); try simp only [go_sem, hD, true_implies]) | (apply hK; clear hK K)
  all_goals
    refine ret_pure ?_; simp only [resL_tmp, resL_nil, tupOf, go_sem, hD]
theorem maximal_p (db : List Tb) (hn : db.length ≤ 1000) (L : List Dp) (hL : L = allP db 6 0) (hLl : L.length ≤ 2000) (h6 : ∀ d ∈ L, Ok6 d) (hall : AllC db 6 12 [DB db, I64 (6 : Nat)]) : Ab.Call Tryz.prog 16 [DB db] [] (fun r h' => ∃ x, r = .tup [x, I64 0] ∧ Acc 4 x h' [] (maxP L).length (dCs (maxP L))) := by
  unfold AllC at hall
  rw [← hL] at hall
  clear hL
  have hcf := fun (a : Dp) (ha : Ok6 a) => contF_d 50 [.fp (dC a)] (fun b => shP a b) L (by omega) (fun b hb => max_f a b ha (h6 b hb))
  refine Call.enter' (N := 33) (rs := [.tmp 2, .tmp 3]) Tryz.func16 rfl rfl rfl (by decide) rfl ?_; simp only [argT]; have hD : (0 : Nat) = 0 := rfl
  repeat' first | ((with_reducible refine Call.mono (Call.frameN (h1 := []) hall) ?_); (intro rr h' hx); (obtain ⟨h1, rfl, ⟨x, rfl, hA⟩, hnd⟩ := hx); (refine stop_i ?_)) | (refine SW.seq_k fun K hK => ?_) | ((first | refine SW.region ?_ | (refine allF_i fun b hb => ?_; replace hD := And.intro hb hD; clear hb; try simp only [fresh_cons, fresh_nil, and_true, ne_eq, neF] at hD) | simp only [appK, appOsK]); try simp only [go_sem, hD, true_implies]) | (apply hK; clear hK K)
  obtain ⟨xb, rfl⟩ : ∃ x, x = b := ⟨_, rfl⟩
  refine ⟨?_⟩
  try simp only [go_sem, hD]
  (first | apply hK | (clear hK K; apply hK) | (clear hK K; clear hK K; apply hK)); clear hK K
  refine Ab.SW.le ((St.le_acc_fl (i := 4) rfl (Acc.fr hA hnd) (dpF L) (fun j hj => fC_at (enc := dC) (k := 4) (fun _ => rfl) d0 L j hj)).trans (St.le_drop.trans (St.le_sub (l := [(4, DpL L), (5, I64 0)]) (by repeat' (first | exact rfl | exact trivial | constructor))))) ?_
  clear hA hnd hall hD
  have hD : (0 : Nat) = 0 := rfl
  repeat' first | (refine SW.seq_k fun K hK => ?_) | ((first | refine SW.region ?_ | refine SW.cond ?_ | refine SW.skip ?_); try simp only [go_sem, hD, true_implies]) | (apply hK; clear hK K)
  refine SW.block ?_
  obtain ⟨I, hI⟩ : ∃ I : Nat → St → Prop, ∀ k S, I k S ↔ (∃ (i : Nat) (y : SV) (hh : Heap), k = L.length - i ∧ i ≤ L.length ∧ Acc 4 y hh [] (maxI L i).length (dCs (maxI L i)) ∧ S = ⟨[(4, DpL L), (6, y), (17, DpL L), (18, I64 L.length), (19, I64 i)], hh⟩) := ⟨fun k S => _, fun _ _ => Iff.rfl⟩
  refine SW.loop' I (L.length) ((hI _ _).2 ⟨0, SN, [], rfl, Nat.zero_le _, .nil 4 [], rfl⟩) (by repeat' (first | exact rfl | exact trivial | constructor)) ?_
  intro k S hIn
  obtain ⟨i, y, hh, rfl, hi, hA2, rfl⟩ := (hI _ _).1 hIn
  clear hIn
  have ie : ((i : Nat) : Int).toNat = i := Int.toNat_natCast _
  have i0 : (0 : Int) ≤ ((i : Nat) : Int) := by omega
  by_cases hlt : i < L.length
  · have hli : ((i : Nat) : Int) < (((L.length) : Nat) : Int) := by omega
    have w1 : IntKind.i64.wrap ((i : Int) + 1) = ((i + 1 : Nat) : Int) := by rw [i64_wrap (by omega) (by omega)]; omega
    have fi : dpF L i = dC (L.getD i d0) := rfl
    have hst := maxI_step hlt
    have hml := maxI_len L i
    have cf := hcf _ (h6 _ (getD_mem' d0 hlt))
    have hsn := dCs_snoc (maxI L i) (L.getD i d0)
    generalize (L.any fun b => shP (L.getD i d0) b) = z at *
    generalize L.getD i d0 = d at *
    generalize maxI L i = M at *
    generalize hM2 : maxI L (i + 1) = M2 at *
    obtain ⟨df, dl, dt, dr⟩ := d
    have hm1 : (M.length + 1) * 80 ≤ 140737488355328 := by omega
    have hm2 : M.length + 1 ≤ 140737488355328 := by omega
    cases z with
    | true =>
      rw [if_pos rfl, List.append_nil] at hst
      subst hst
      repeat' first | ((refine Ab.SW.le (St.le_freezeP (i := 8) (n := 4) rfl (by rw [find_cons, if_pos rfl]) (by exact Nat.le_refl 4)) ?_); (rw [del_head]); (simp only [getN, Blk.get])) | (refine SW.seq_k fun K hK => ?_) | (refine SW.block ?_) | ((first | refine SW.region ?_ | refine SW.cond ?_ | refine SW.skip ?_ | refine Call.of_pure (cf) ?_ | (refine allF_i fun b hb => ?_; replace hD := And.intro hb hD; clear hb; try simp only [fresh_cons, fresh_nil, and_true, ne_eq, neF] at hD)); try simp only [go_sem, hD, hli, ie, i0, w1, fi, true_implies]) | (apply hK; clear hK K)
      refine Rnd.sub (L.length - (i + 1)) (by omega) ((hI _ _).2 ⟨i + 1, y, hh, rfl, by omega, by rw [hM2]; exact hA2, rfl⟩) (by repeat' (first | exact rfl | exact trivial | constructor))
    | false =>
      rw [if_neg (by simp)] at hst
      repeat' first | ((refine Ab.SW.le (St.le_freezeP (i := 8) (n := 4) rfl (by rw [find_cons, if_pos rfl]) (by exact Nat.le_refl 4)) ?_); (rw [del_head]); (simp only [getN, Blk.get])) | ((with_reducible refine appK_acc hA2 ?_ ?_ ?_ ?_ ?_ ?_ hm1 hm2 ?_); (simp [hD]); (rfl); (rfl); (rfl); (exact Nat.succ_pos _); (rfl); (intro x3 b3 blk3 f1 f2 f3 f4 f5 f6 h3 hh3); (obtain ⟨h4, hA4, hle4⟩ := Acc.after f1 f4 f5 f6 hh3); (clear f1 f2 f3 f4 f5 f6 hh3); (try simp only [go_sem, hD])) | (refine SW.seq_k fun K hK => ?_) | (refine SW.block ?_) | ((first | refine SW.region ?_ | refine SW.cond ?_ | refine SW.skip ?_ | refine Call.of_pure (cf) ?_ | (refine allF_i fun b hb => ?_; replace hD := And.intro hb hD; clear hb; try simp only [fresh_cons, fresh_nil, and_true, ne_eq, neF] at hD)); try simp only [go_sem, hD, hli, ie, i0, w1, fi, true_implies]) | (apply hK; clear hK K)
      refine Rnd.le (hle4 _) ?_
      refine Rnd.sub (L.length - (i + 1)) (by omega) ((hI _ _).2 ⟨i + 1, x3, h4, rfl, by omega, by rw [hM2, hst, hsn, List.length_append]; exact hA4, rfl⟩) (by repeat' (first | exact rfl | exact trivial | constructor))
  · have hli : ¬ ((i : Nat) : Int) < (((L.length) : Nat) : Int) := by omega
    obtain rfl : i = L.length := by omega
    have hmm : maxI L L.length = maxP L := by unfold maxI maxP; rw [List.take_length]
    rw [hmm] at hA2
    generalize maxP L = M at *
    repeat' first | (refine SW.seq_k fun K hK => ?_) | ((first | refine SW.region ?_ | refine SW.cond ?_ | refine SW.exit ?_ | refine SW.ret ?_); try simp only [go_sem, hD, hli, true_implies]) | (apply hK; clear hK K) | (clear hK K; apply hK; clear hK K)
    refine retQ_le (fun M w0 D N a w r => r) ?_
    simp only [resL_tmp, resL_nil, tupOf, go_sem, hD]
    exact ⟨y, rfl, hA2⟩
end Go.Proofs.YtpidncgibgiidaaGreat
namespace Go.Ab.A15
open Go Go.Ab Go.Ab.A34
theorem posF_find (p : Dp → Bool) : ∀ (l : List Dp) (k : Nat), (posF p k l = -1 ∧ ∀ x ∈ l, p x = false) ∨ ∃ n, n < l.length ∧ posF p k l = ((k + n : Nat) : Int) ∧ p (l.getD n d0) = true ∧ ∀ x ∈ l.take n, p x = false
  | [], k => .inl ⟨rfl, fun x hx => by cases hx⟩
  | y :: l, k => by
    unfold posF
    by_cases h : p y = true
    · rw [if_pos h]
      exact .inr ⟨0, by simp, rfl, h, fun x hx => by simp at hx⟩
    · rw [if_neg h]
      rcases posF_find p l (k + 1) with ⟨h1, h2⟩ | ⟨n, h1, h2, h3, h4⟩
      · refine .inl ⟨h1, fun x hx => ?_⟩
        rcases List.mem_cons.1 hx with rfl | hx
        · exact Bool.eq_false_iff.2 h
        · exact h2 x hx
      · refine .inr ⟨n + 1, by rw [List.length_cons]; omega, by rw [h2]; congr 1; omega, h3, fun x hx => ?_⟩
        rw [List.take_succ_cons] at hx
        rcases List.mem_cons.1 hx with rfl | hx
        · exact Bool.eq_false_iff.2 h
        · exact h4 x hx
structure Cpt (p : Dp → Bool) (l e : List Dp) (i j : Nat) : Prop where
  len : e.length = l.length
  lt : i < j
  le : j ≤ l.length
  keep : e.take i = (l.take j).filter fun x => !(p x)
  rest : e.drop j = l.drop j
theorem Cpt.start {p : Dp → Bool} {l : List Dp} {n : Nat} (h1 : n < l.length) (h2 : p (l.getD n d0) = true) (h3 : ∀ x ∈ l.take n, p x = false) : Cpt p l l n (n + 1) where
  len := rfl
  lt := by omega
  le := by omega
  keep := by
    have g : l.getD n d0 = l[n] := by simp [List.getD_eq_getElem?_getD, h1]
    rw [List.take_succ_eq_append_getElem h1, List.filter_append, ← g]
    rw [List.filter_eq_self.2 fun x hx => by rw [h3 x hx]; rfl]
    simp only [List.filter_cons, h2, List.filter_nil]
    simp
  rest := rfl
theorem Cpt.at {p : Dp → Bool} {l e : List Dp} {i j : Nat} (h : Cpt p l e i j) (hj : j < l.length) : e.getD j d0 = l.getD j d0 := by
  have := congrArg (fun z => z.getD 0 d0) h.rest
  simpa [List.getD_eq_getElem?_getD, List.getElem?_drop] using this
theorem Cpt.skip {p : Dp → Bool} {l e : List Dp} {i j : Nat} (h : Cpt p l e i j) (hj : j < l.length) (hp : p (l.getD j d0) = true) : Cpt p l e i (j + 1) where
  len := h.len
  lt := by have := h.lt; omega
  le := by omega
  keep := by
    have g : l.getD j d0 = l[j] := by simp [List.getD_eq_getElem?_getD, hj]
    rw [List.take_succ_eq_append_getElem hj, List.filter_append, ← h.keep, ← g]
    simp only [List.filter_cons, hp, List.filter_nil]
    simp
  rest := by
    have := congrArg (List.drop 1) h.rest
    rwa [List.drop_drop, List.drop_drop] at this
theorem Cpt.store {p : Dp → Bool} {l e : List Dp} {i j : Nat} (h : Cpt p l e i j) (hj : j < l.length) (hp : p (l.getD j d0) = false) : Cpt p l (e.set i (l.getD j d0)) (i + 1) (j + 1) where
  len := by rw [List.length_set]; exact h.len
  lt := by have := h.lt; omega
  le := by omega
  keep := by
    have g : l.getD j d0 = l[j] := by simp [List.getD_eq_getElem?_getD, hj]
    have hi : i < (e.set i (l.getD j d0)).length := by rw [List.length_set, h.len]; have := h.lt; omega
    rw [List.take_succ_eq_append_getElem hj, List.filter_append, ← h.keep, ← g]
    rw [List.take_succ_eq_append_getElem hi, List.take_set_of_le (Nat.le_refl _), List.getElem_set_self]
    simp only [List.filter_cons, hp, List.filter_nil]
    simp
  rest := by
    have h1 := congrArg (List.drop 1) h.rest
    rw [List.drop_drop, List.drop_drop] at h1
    rw [List.drop_set_of_lt (by have := h.lt; omega)]
    exact h1
theorem Cpt.done {p : Dp → Bool} {l e : List Dp} {i : Nat} (h : Cpt p l e i l.length) : e.take i = l.filter fun x => !(p x) := by
  rw [h.keep, List.take_length]
theorem dCs_take : ∀ (l : List Dp) (i : Nat), (dCs l).take (i * 4) = dCs (l.take i)
  | [], i => by simp [dCs]
  | a :: l, 0 => rfl
  | a :: l, i + 1 => by
    rw [show (i + 1) * 4 = i * 4 + 1 + 1 + 1 + 1 by omega]
    show Str a.f :: IL a.l :: Str a.t :: IL a.r :: (dCs l).take (i * 4) = Str a.f :: IL a.l :: Str a.t :: IL a.r :: dCs (l.take i)
    rw [dCs_take l i]
end Go.Ab.A15
namespace Go.Proofs.YtpidncgibgiidaaGreat
open Go Go.Ab Go.Ab.A34 Go.Ab.A15 Go.Ab.A01
variable [Gl] [Tabs]
theorem index_do (g : FuncId) (caps : List SV) (p : Dp → Bool) (l : List Dp) (b : Nat) (hl : l.length ≤ 1000000) (hg : ∀ d ∈ l, PCall Tryz.prog g (DV d :: caps) (SB (p d))) :
    Ab.Call Tryz.prog 52 [.os b 0 l.length 4, .fn (.func g) [] caps] [(b, .svs (dCs l))] (fun r h' => r = I64 (posF p 0 l) ∧ h' = [(b, .svs (dCs l))]) :=
  Call.lend (args := [.os b 0 l.length 4, .fn (.func g) [] caps]) (k := .svs (dCs l)) (off := 0) (sz := 4) 0 (dpF l) (by simp) rfl (by rw [find_cons, if_pos rfl]) (by rw [Blk.len_svs, dCs_len]; omega) (fun j hj => by
    exact dCs_get l hj) (indexF_d g caps p l hl hg)
theorem delete_o (g : FuncId) (caps : List SV) (p : Dp → Bool) (l : List Dp) (ob : Nat) (hl : l.length ≤ 1000000) (hg : ∀ d ∈ l, PCall Tryz.prog g (DV d :: caps) (SB (p d))) :
    Ab.Call Tryz.prog 56 [.os ob 0 l.length 4, .fn (.func g) [] caps] [(ob, .svs (dCs l))] (fun r h' => Acc 4 r h' [] (l.filter fun x => !(p x)).length (dCs (l.filter fun x => !(p x)))) := by
  have ix := index_do g caps p l ob hl hg
  rcases posF_find p l 0 with ⟨h1, h2⟩ | ⟨n, h1, h2, h3, h4⟩
  · rw [h1] at ix
    have hc0 : (dCs l).length = l.length * 4 := dCs_len l
    rw [List.filter_eq_self.2 fun x hx => by rw [h2 x hx]; rfl]
    refine Call.enter' (N := 42) (rs := [.tmp 4]) Tryz.func56 rfl rfl rfl (by decide) rfl ?_; simp only [argT]; have hD : (0 : Nat) = 0 := rfl
    repeat' first | ((with_reducible refine Call.mono ix ?_); (intro rr h' hx); (obtain ⟨rfl, rfl⟩ := hx); (try simp only [go_sem, hD])) | (refine SW.seq_k fun K hK => ?_) | ((first | refine SW.region ?_ | refine SW.cond ?_ | refine SW.ret ?_); try simp only [go_sem, hD, true_implies]) | (apply hK; clear hK K)
    refine retQ_le (fun M w0 D N a w r => r) ?_
    simp only [resL_tmp, resL_nil, tupOf, go_sem, hD]
    refine .inr ⟨ob, _, by simp [fresh_nil], rfl, (dCs_len _).symm, rfl, rfl, rfl⟩
  · rw [h2, Nat.zero_add] at ix
    have hs := Cpt.start h1 h3 h4
    have z0 : ¬ ((n : Nat) : Int) = -1 := by omega
    have w1 : IntKind.i64.wrap (((n : Nat) : Int) + 1) = ((n + 1 : Nat) : Int) := by rw [i64_wrap (by omega) (by omega)]; omega
    refine Call.enter' (N := 42) (rs := [.tmp 4]) Tryz.func56 rfl rfl rfl (by decide) rfl ?_; simp only [argT]; have hD : (0 : Nat) = 0 := rfl
    repeat' first | ((with_reducible refine Call.mono ix ?_); (intro rr h' hx); (obtain ⟨rfl, rfl⟩ := hx); (try simp only [go_sem, hD])) | (refine SW.seq_k fun K hK => ?_) | ((first | refine SW.region ?_ | refine SW.cond ?_ | refine SW.skip ?_); try simp only [go_sem, hD, z0, w1, true_implies]) | (apply hK; clear hK K)
    clear ix
    refine SW.block ?_
    have hzo : (Tryz.prog.info? 40).bind (fun i => i.zero) = some (.agg #[.string ⟨#[]⟩, .slice none 0 0, .string ⟨#[]⟩, .slice none 0 0]) := by kernel_rfl
    have hun : Tryz.prog.underlying 30 = some (.slice 40) := by kernel_rfl
    obtain ⟨I, hI⟩ : ∃ I : Nat → St → Prop, ∀ n S, I n S ↔ (∃ (j i : Nat) (e : List Dp), n = l.length - j ∧ Cpt p l e i j ∧
      S = ⟨[(0, .os ob 0 l.length 4), (1, .fn (.func g) [] caps), (5, I64 i), (6, I64 j)], [(ob, .svs (dCs e))]⟩) := ⟨fun n S => _, fun _ _ => Iff.rfl⟩
    refine SW.loop' I (l.length - (n + 1)) ((hI _ _).2 ⟨n + 1, n, l, rfl, hs, rfl⟩) (by repeat' (first | exact rfl | exact trivial | constructor)) ?_
    clear hs z0 w1 h1 h2 h3 h4
    intro kk S hIn
    obtain ⟨j, i, e, rfl, hc, rfl⟩ := (hI _ _).1 hIn
    clear hIn
    have hij := hc.lt
    have hjl := hc.le
    have hel := hc.len
    have hc0 : (dCs e).length = l.length * 4 := by rw [dCs_len, hel]
    by_cases hlt : j < l.length
    · have hli : ((j : Nat) : Int) < (((l.length) : Nat) : Int) := by omega
      have w1 : IntKind.i64.wrap ((j : Int) + 1) = ((j + 1 : Nat) : Int) := by rw [i64_wrap (by omega) (by omega)]; omega
      have ie : ((j : Nat) : Int).toNat = j := Int.toNat_natCast _
      have i0 : (0 : Int) ≤ ((j : Nat) : Int) := by omega
      have hat := hc.at hlt
      have cg := hg _ (getD_mem' d0 hlt)
      have hsk := hc.skip hlt
      have hst := hc.store hlt
      obtain ⟨g1, g2, g3, g4⟩ := dCs_g4 e j (by omega)
      rw [hat] at g1 g2 g3 g4
      have s1 := dCs_set e i (l.getD j d0) (by omega)
      have k1 : (0 : Int) ≤ ((i : Nat) : Int) := by omega
      have k2 : ((i : Nat) : Int) < ((l.length : Nat) : Int) := by omega
      have k5 : ((i : Nat) : Int).toNat = i := Int.toNat_natCast _
      have w3 : IntKind.i64.wrap (((i : Nat) : Int) + 1) = ((i + 1 : Nat) : Int) := by rw [i64_wrap (by omega) (by omega)]; omega
      clear hat
      generalize l.getD j d0 = v at *
      cases hpv : p v with
      | true =>
        have h5 := hsk hpv
        rw [hpv] at cg
        clear hsk hst s1
        obtain ⟨v1, v2, v3, v4⟩ := v
        simp only at g1 g2 g3 g4
        have hD : (0 : Nat) = 0 := rfl
        repeat' first | (refine SW.seq_k fun K hK => ?_) | ((first | refine SW.region ?_ | refine SW.cond ?_ | refine SW.skip ?_); try simp only [go_sem, hD, hli, ie, i0, w1, k1, k2, k5, w3, g1, g2, g3, g4, hc0, true_implies]) | (apply hK; clear hK K)
        refine SW.block ?_
        repeat' first | (with_reducible refine And.intro (by omega) ?_) | (refine SW.seq_k fun K hK => ?_) | ((first | refine SW.region ?_ | refine SW.cond ?_ | refine SW.skip ?_ | refine Call.of_pure (cg) ?_ | (refine allF_i fun b hb => ?_; replace hD := And.intro hb hD; clear hb; try simp only [fresh_cons, fresh_nil, and_true, ne_eq, neF] at hD)); try simp only [go_sem, hD, hli, ie, i0, w1, k1, k2, k5, w3, g1, g2, g3, g4, hc0, true_implies]) | (apply hK; clear hK K)
        refine Rnd.le (St.le_pick [(ob, .svs (dCs e))] (fun x hx => by rw [List.mem_singleton.1 hx]; exact List.mem_cons_of_mem _ List.mem_cons_self) (by simp)) ?_
        refine Rnd.sub (l.length - (j + 1)) (by omega) ((hI _ _).2 ⟨j + 1, i, e, rfl, h5, rfl⟩) (by repeat' (first | exact rfl | exact trivial | constructor))
      | false =>
        have h5 := hst hpv
        rw [hpv] at cg
        clear hsk hst
        obtain ⟨v1, v2, v3, v4⟩ := v
        simp only at g1 g2 g3 g4 s1
        have hD : (0 : Nat) = 0 := rfl
        repeat' first | (refine SW.seq_k fun K hK => ?_) | ((first | refine SW.region ?_ | refine SW.cond ?_ | refine SW.skip ?_); try simp only [go_sem, hD, hli, ie, i0, w1, k1, k2, k5, w3, g1, g2, g3, g4, hc0, true_implies]) | (apply hK; clear hK K)
        refine SW.block ?_
        repeat' first | (with_reducible refine And.intro (by omega) ?_) | (refine SW.seq_k fun K hK => ?_) | ((first | refine SW.region ?_ | refine SW.cond ?_ | refine Call.of_pure (cg) ?_ | (refine allF_i fun b hb => ?_; replace hD := And.intro hb hD; clear hb; try simp only [fresh_cons, fresh_nil, and_true, ne_eq, neF] at hD)); try simp only [go_sem, hD, hli, ie, i0, w1, k1, k2, k5, w3, g1, g2, g3, g4, hc0, true_implies]) | (apply hK; clear hK K)
        rw [s1]
        refine Rnd.le (St.le_pick [(ob, .svs (dCs (e.set i ⟨v1, v2, v3, v4⟩)))] (fun x hx => by rw [List.mem_singleton.1 hx]; exact List.mem_cons_of_mem _ List.mem_cons_self) (by simp)) ?_
        refine Rnd.sub (l.length - (j + 1)) (by omega) ((hI _ _).2 ⟨j + 1, i + 1, _, rfl, h5, rfl⟩) (by repeat' (first | exact rfl | exact trivial | constructor))
    · have hli : ¬ ((j : Nat) : Int) < (((l.length) : Nat) : Int) := by omega
      obtain rfl : j = l.length := by omega
      have hdn := hc.done
      have htk := dCs_take e i
      have hFl : (l.filter fun x => !(p x)).length = i := by rw [← hdn, List.length_take]; omega
      rw [hdn] at htk
      generalize (l.filter fun x => !(p x)) = F at *
      have k1 : (0 : Int) ≤ ((i : Nat) : Int) := by omega
      have k2 : ((i : Nat) : Int) ≤ ((l.length : Nat) : Int) := by omega
      have k5 : ((i : Nat) : Int).toNat = i := Int.toNat_natCast _
      have hD : (0 : Nat) = 0 := rfl
      repeat' first | ((refine Ab.SW.region_clr (l := [_, _, _]) rfl rfl rfl hun hzo rfl 4 rfl ?_; simp only [go_sem, hD])) | (with_reducible refine And.intro (by omega) ?_) | (refine SW.seq_k fun K hK => ?_) | ((first | refine SW.region ?_ | refine SW.cond ?_ | refine SW.exit ?_); try simp only [go_sem, hD, hli, k1, k2, k5, hc0, true_implies]) | (apply hK; clear hK K) | (clear hK K; apply hK; clear hK K)
      have hsub : (((l.length : Nat) : Int) - ((i : Nat) : Int)).toNat = l.length - i := by omega
      refine .inr ⟨ob, i * 4, l.length - i, .svs (dCs e), ?_, by rw [find_cons, if_pos rfl], ?_, rfl, fun k' hk' hkM => ?_⟩
      · rw [← hsub]; rfl
      · rw [Blk.len_svs, hc0]; omega
      have hk2 : k'.cells.take (i * 4) = dCs F := by rw [hk']; exact htk
      clear hk' htk hdn
      rw [upd_cons, if_pos rfl]
      show thn K _ Exit.normal _
      try simp only [go_sem, hD]
      (first | apply hK | (clear hK K; apply hK) | (clear hK K; clear hK K; apply hK)); clear hK K
      refine Ab.SW.le (St.le_cut (b := ob) (k := k') (k' := .svs (dCs F)) (i * 4) (by rw [find_cons, if_pos rfl]) hk2.symm hkM rfl) ?_
      rw [upd_cons, if_pos rfl]
      repeat' first | (refine SW.seq_k fun K hK => ?_) | ((first | refine SW.region ?_ | refine SW.ret ?_); try simp only [go_sem, hD, hli, k1, k2, k5, hc0, true_implies]) | (apply hK; clear hK K)
      refine retQ_le (fun M w0 D N a w r => r) ?_
      simp only [resL_tmp, resL_nil, tupOf, go_sem, hD]
      subst hFl
      refine .inr ⟨ob, _, by simp [fresh_nil], rfl, (dCs_len _).symm, rfl, rfl, rfl⟩
end Go.Proofs.YtpidncgibgiidaaGreat
namespace Go.Ab.A15
open Go Go.Ab Go.Ab.A34
abbrev U32 (n : Int) : SV := .sc (.int .u32 n)
def ofG : Nat → List Int → Option Nat
  | s, [] => some s
  | s, i :: r => if i < 0 ∨ 16 ≤ i then none else ofG (s ||| 2 ^ i.toNat) r
theorem ofG_step {s : Nat} {l : List Int} {i : Nat} (h : i < l.length) : ofG s (l.drop i) = if l.getD i 0 < 0 ∨ 16 ≤ l.getD i 0 then none else ofG (s ||| 2 ^ (l.getD i 0).toNat) (l.drop (i + 1)) := by
  rw [List.drop_eq_getElem_cons h, show l.getD i 0 = l[i] by simp [List.getD_eq_getElem?_getD, h]]
  rfl
theorem ofG_end {s : Nat} {l : List Int} {i : Nat} (h : l.length ≤ i) : ofG s (l.drop i) = some s := by
  rw [List.drop_eq_nil_of_le h]; rfl
theorem or_lt16 {s i : Nat} (hs : s < 65536) (hi : i < 16) : s ||| 2 ^ i < 65536 := Nat.or_lt_two_pow (n := 16) hs (Nat.pow_lt_pow_right (by omega) hi)
def ofKR : Option Nat → SV
  | some s => .tup [U32 s, I64 0]
  | none => .tup [U32 (0 : Nat), I64 7]
abbrev Ky := ByteArray × Nat
def kd0 : Ky := (⟨#[]⟩, 0)
abbrev KV (k : Ky) : SV := .agg [Str k.1, U32 k.2]
def kyF (l : List Ky) (i : Nat) : List SV := [Str (l.getD i kd0).1, U32 (l.getD i kd0).2]
abbrev KyL (l : List Ky) : SV := .fl l.length 2 (kyF l)
theorem posK_step {p : Ky → Bool} {l : List Ky} {i : Nat} (h : i < l.length) : posF p i (l.drop i) = if p (l.getD i kd0) = true then (i : Int) else posF p (i + 1) (l.drop (i + 1)) := by
  rw [List.drop_eq_getElem_cons h, show l.getD i kd0 = l[i] by simp [List.getD_eq_getElem?_getD, h]]
  rfl
theorem posK_end {p : Ky → Bool} {l : List Ky} {i : Nat} (h : l.length ≤ i) : posF p i (l.drop i) = -1 := by
  rw [List.drop_eq_nil_of_le h]; rfl
def eqK (k x : Ky) : Bool := (k.1.toList == x.1.toList) && decide (((k.2 : Nat) : Int) = ((x.2 : Nat) : Int))
end Go.Ab.A15
namespace Go.Proofs.YtpidncgibgiidaaGreat
open Go Go.Ab Go.Ab.A34 Go.Ab.A15 Go.Ab.A01
variable [Gl] [Tabs]
theorem set_of (l : List Int) (hl : l.length ≤ 1000000) : PCall Tryz.prog 58 [IL l] (ofKR (ofG 0 l)) := by
  obtain ⟨R, hR⟩ : ∃ R, R = ofG 0 l := ⟨_, rfl⟩
  rw [← hR]
  refine Call.enter' (N := 25) (rs := [.tmp 2, .tmp 3]) Tryz.func58 rfl rfl rfl (by decide) rfl ?_; simp only [argT]; have hD : (0 : Nat) = 0 := rfl
  repeat' first | (refine SW.seq_k fun K hK => ?_) | (refine SW.region ?_; try simp only [go_sem, hD, true_implies]) | (apply hK; clear hK K)
  refine SW.block ?_
  obtain ⟨I, hI⟩ : ∃ I : Nat → St → Prop, ∀ k S, I k S ↔ (∃ (i : Nat) (s : Nat), k = l.length - i ∧ i ≤ l.length ∧ s < 65536 ∧ R = ofG s (l.drop i) ∧ S = ⟨[(4, U32 s), (7, IL l), (8, I64 l.length), (9, I64 i)], []⟩) := ⟨fun k S => _, fun _ _ => Iff.rfl⟩
  refine SW.loop' I (l.length) ((hI _ _).2 ⟨0, 0, rfl, Nat.zero_le _, (by omega), hR, rfl⟩) (by repeat' (first | exact rfl | exact trivial | constructor)) ?_
  intro k S hIn
  obtain ⟨i, s, rfl, hi, hs, hC, rfl⟩ := (hI _ _).1 hIn
  clear hIn
  have ie : ((i : Nat) : Int).toNat = i := Int.toNat_natCast _
  have i0 : (0 : Int) ≤ ((i : Nat) : Int) := by omega
  clear hR
  by_cases hlt : i < l.length
  · have hli : ((i : Nat) : Int) < (((l.length) : Nat) : Int) := by omega
    have w1 : IntKind.i64.wrap ((i : Int) + 1) = ((i + 1 : Nat) : Int) := by rw [i64_wrap (by omega) (by omega)]; omega
    rw [ofG_step hlt] at hC
    have fi : iF l i = [I64 (l.getD i 0)] := rfl
    generalize l.getD i 0 = v at *
    by_cases c1 : v < 0
    · rw [if_pos (Or.inl c1)] at hC
      subst hC
      repeat' first | (refine SW.seq_k fun K hK => ?_) | ((first | refine SW.region ?_ | refine SW.cond ?_ | refine SW.skip ?_); try simp only [go_sem, hD, hli, ie, i0, w1, fi, c1, true_implies]) | (apply hK; clear hK K)
      refine SW.block ?_
      repeat' first | (refine SW.seq_k fun K hK => ?_) | ((first | refine SW.region ?_ | refine SW.cond ?_ | refine SW.ret ?_); try simp only [go_sem, hD, hli, ie, i0, w1, fi, c1, true_implies]) | (apply hK; clear hK K)
      refine ret_pure ?_; simp only [resL_tmp, resL_nil, tupOf, go_sem, hD]
      try rfl
    · by_cases c2 : 16 ≤ v
      · rw [if_pos (Or.inr c2)] at hC
        subst hC
        repeat' first | (refine SW.seq_k fun K hK => ?_) | ((first | refine SW.region ?_ | refine SW.cond ?_ | refine SW.skip ?_); try simp only [go_sem, hD, hli, ie, i0, w1, fi, c1, c2, true_implies]) | (apply hK; clear hK K)
        refine SW.block ?_
        repeat' first | (refine SW.seq_k fun K hK => ?_) | ((first | refine SW.region ?_ | refine SW.cond ?_ | refine SW.ret ?_); try simp only [go_sem, hD, hli, ie, i0, w1, fi, c1, c2, true_implies]) | (apply hK; clear hK K)
        refine ret_pure ?_; simp only [resL_tmp, resL_nil, tupOf, go_sem, hD]
        try rfl
      · rw [if_neg (by rintro (h | h) <;> omega)] at hC
        obtain ⟨n, rfl⟩ : ∃ n : Nat, v = ((n : Nat) : Int) := ⟨v.toNat, by omega⟩
        rw [Int.toNat_natCast] at hC
        have hlt2 := or_lt16 (i := n) hs (by omega)
        have sh := shl32 n (by omega)
        have hp : (2 : Nat) ^ n < 65536 := by
          show (2 : Nat) ^ n < 2 ^ 16
          exact Nat.pow_lt_pow_right (by omega) (by omega)
        have e := or32 s (2 ^ n) (by omega) (by omega)
        have k5 : ((n : Nat) : Int).toNat = n := Int.toNat_natCast _
        repeat' first | (refine SW.seq_k fun K hK => ?_) | ((first | refine SW.region ?_ | refine SW.cond ?_ | refine SW.skip ?_); try simp only [go_sem, hD, hli, ie, i0, w1, fi, c1, c2, sh, e, k5, true_implies]) | (apply hK; clear hK K)
        refine SW.block ?_
        repeat' first | (refine SW.seq_k fun K hK => ?_) | ((first | refine SW.region ?_ | refine SW.cond ?_ | refine SW.skip ?_); try simp only [go_sem, hD, hli, ie, i0, w1, fi, c1, c2, sh, e, k5, true_implies]) | (apply hK; clear hK K)
        refine Rnd.sub (l.length - (i + 1)) (by omega) ((hI _ _).2 ⟨i + 1, (s ||| 2 ^ n), rfl, by omega, hlt2, hC, rfl⟩) (by repeat' (first | exact rfl | exact trivial | constructor))
  · have hli : ¬ ((i : Nat) : Int) < (((l.length) : Nat) : Int) := by omega
    rw [ofG_end (by omega)] at hC
    subst hC
    repeat' first | (refine SW.seq_k fun K hK => ?_) | ((first | refine SW.region ?_ | refine SW.cond ?_ | refine SW.exit ?_ | refine SW.ret ?_); try simp only [go_sem, hD, hli, true_implies]) | (apply hK; clear hK K) | (clear hK K; apply hK; clear hK K)
    refine ret_pure ?_; simp only [resL_tmp, resL_nil, tupOf, go_sem, hD]
    try rfl
theorem index_k (k : Ky) (l : List Ky) (hl : l.length ≤ 1000000) : PCall Tryz.prog 99 [KyL l, KV k] (I64 (posF (eqK k) 0 l)) := by
  obtain ⟨R, hR⟩ : ∃ R, R = posF (eqK k) 0 l := ⟨_, rfl⟩
  rw [← hR]
  obtain ⟨k1, k2⟩ := k
  show PCall Tryz.prog 99 [KyL l, .agg [Str k1, U32 k2]] _
  refine Call.enter' (N := 19) (rs := [.tmp 4]) Tryz.func99 rfl rfl rfl (by decide) rfl ?_; simp only [argT]; have hD : (0 : Nat) = 0 := rfl
  repeat' first | (refine SW.seq_k fun K hK => ?_) | ((first | refine SW.region ?_ | (refine allF_i fun b hb => ?_; replace hD := And.intro hb hD; clear hb; try simp only [fresh_cons, fresh_nil, and_true, ne_eq, neF] at hD)); try simp only [go_sem, hD, true_implies]) | (apply hK; clear hK K)
  obtain ⟨kb, rfl⟩ : ∃ x, x = b := ⟨_, rfl⟩
  refine SW.block ?_
  obtain ⟨I, hI⟩ : ∃ I : Nat → St → Prop, ∀ k S, I k S ↔ (∃ (i : Nat) , k = l.length - i ∧ i ≤ l.length ∧ R = posF (eqK (k1, k2)) i (l.drop i) ∧ S = ⟨[(0, KyL l), (3, .op kb 0), (6, KyL l), (7, I64 l.length), (8, I64 i)], [(kb, .svs [Str k1, U32 k2])]⟩) := ⟨fun k S => _, fun _ _ => Iff.rfl⟩
  refine SW.loop' I (l.length) ((hI _ _).2 ⟨0, rfl, Nat.zero_le _, hR, rfl⟩) (by repeat' (first | exact rfl | exact trivial | constructor)) ?_
  intro k S hIn
  obtain ⟨i, rfl, hi, hC, rfl⟩ := (hI _ _).1 hIn
  clear hIn
  have ie : ((i : Nat) : Int).toNat = i := Int.toNat_natCast _
  have i0 : (0 : Int) ≤ ((i : Nat) : Int) := by omega
  clear hR
  by_cases hlt : i < l.length
  · have hli : ((i : Nat) : Int) < (((l.length) : Nat) : Int) := by omega
    have w1 : IntKind.i64.wrap ((i : Int) + 1) = ((i + 1 : Nat) : Int) := by rw [i64_wrap (by omega) (by omega)]; omega
    rw [posK_step hlt] at hC
    have fi : kyF l i = [Str (l.getD i kd0).1, U32 (l.getD i kd0).2] := rfl
    generalize l.getD i kd0 = v at *
    obtain ⟨v1, v2⟩ := v
    have he : eqK (k1, k2) (v1, v2) = true ↔ ((k1.toList == v1.toList) = true ∧ ((k2 : Nat) : Int) = ((v2 : Nat) : Int)) := by
      unfold eqK
      simp only [Bool.and_eq_true, decide_eq_true_eq]
    simp only at fi
    repeat' first | (refine SW.seq_k fun K hK => ?_) | ((first | refine SW.region ?_ | refine SW.cond ?_ | refine SW.skip ?_); try simp only [go_sem, hD, hli, ie, i0, w1, fi, true_implies]) | (apply hK; clear hK K)
    refine SW.block ?_
    repeat' first | (refine SW.seq_k fun K hK => ?_) | ((first | refine SW.region ?_ | refine SW.regionD (Checked.mixed Tryz.checked) (by kernel_rfl) ?_ | refine SW.cond ?_ | refine SW.skip ?_ | refine SW.ret ?_); try simp only [go_sem, hD, hli, ie, i0, w1, fi, true_implies]) | (refine ifI (fun hc => ?_) (fun hc => ?_) <;> first | (exfalso; omega) | skip) | (apply hK; clear hK K)
    · rw [if_pos (he.2 hc)] at hC
      subst hC
      refine ret_pure ?_; simp only [resL_tmp, resL_nil, tupOf, go_sem, hD]
      try rfl
    · rw [if_neg (fun h => hc (he.1 h))] at hC
      refine Rnd.sub (l.length - (i + 1)) (by omega) ((hI _ _).2 ⟨i + 1, rfl, by omega, hC, rfl⟩) (by repeat' (first | exact rfl | exact trivial | constructor))
  · have hli : ¬ ((i : Nat) : Int) < (((l.length) : Nat) : Int) := by omega
    rw [posK_end (by omega)] at hC
    subst hC
    repeat' first | (refine SW.seq_k fun K hK => ?_) | ((first | refine SW.region ?_ | refine SW.cond ?_ | refine SW.exit ?_ | refine SW.ret ?_); try simp only [go_sem, hD, hli, true_implies]) | (apply hK; clear hK K) | (clear hK K; apply hK; clear hK K)
    refine ret_pure ?_; simp only [resL_tmp, resL_nil, tupOf, go_sem, hD]
    try rfl
theorem contains_k (k : Ky) (l : List Ky) (hl : l.length ≤ 1000000) : PCall Tryz.prog 59 [KyL l, KV k] (SB (l.any (eqK k))) := by
  have ix := index_k k l hl
  have hm := posF_any (eqK k) l 0
  generalize posF (eqK k) 0 l = z at *
  obtain ⟨k1, k2⟩ := k
  show PCall Tryz.prog 59 [KyL l, .agg [Str k1, U32 k2]] _
  cases ha : l.any (eqK (k1, k2)) with
  | true =>
    have hz := hm.2 ha
    have hz2 : z ≥ 0 := hz
    refine Call.enter' (N := 9) (rs := [.tmp 4]) Tryz.func59 rfl rfl rfl (by decide) rfl ?_; simp only [argT]; have hD : (0 : Nat) = 0 := rfl
    repeat' first | (refine SW.seq_k fun K hK => ?_) | ((first | refine SW.region ?_ | refine SW.ret ?_ | refine Call.of_pure (ix) ?_ | (refine allF_i fun b hb => ?_; replace hD := And.intro hb hD; clear hb; try simp only [fresh_cons, fresh_nil, and_true, ne_eq, neF] at hD)); try simp only [go_sem, hD, hz, hz2, true_implies]) | (apply hK; clear hK K)
    refine ret_pure ?_; simp only [resL_tmp, resL_nil, tupOf, go_sem, hD]
    try rfl
  | false =>
    have hz : ¬ 0 ≤ z := fun h => by rw [hm.1 h] at ha; cases ha
    have hz2 : ¬ z ≥ 0 := hz
    refine Call.enter' (N := 9) (rs := [.tmp 4]) Tryz.func59 rfl rfl rfl (by decide) rfl ?_; simp only [argT]; have hD : (0 : Nat) = 0 := rfl
    repeat' first | (refine SW.seq_k fun K hK => ?_) | ((first | refine SW.region ?_ | refine SW.ret ?_ | refine Call.of_pure (ix) ?_ | (refine allF_i fun b hb => ?_; replace hD := And.intro hb hD; clear hb; try simp only [fresh_cons, fresh_nil, and_true, ne_eq, neF] at hD)); try simp only [go_sem, hD, hz, hz2, true_implies]) | (apply hK; clear hK K)
    refine ret_pure ?_; simp only [resL_tmp, resL_nil, tupOf, go_sem, hD]
    try rfl
theorem foreign_1 (t : Tb) (x : ByteArray) (n : Nat) : PCall Tryz.prog 55 [TB t, .fp [Str x, U32 n]] (SB (t.name.toList == x.toList)) := by
  obtain ⟨tn, ta, trs⟩ := t
  refine Call.enter' (N := 9) (rs := [.tmp 3]) Tryz.func55 rfl rfl rfl (by decide) rfl ?_; simp only [argT]; have hD : (0 : Nat) = 0 := rfl
  repeat' first | (refine SW.seq_k fun K hK => ?_) | ((first | refine SW.region ?_ | refine SW.ret ?_ | (refine allF_i fun b hb => ?_; replace hD := And.intro hb hD; clear hb; try simp only [fresh_cons, fresh_nil, and_true, ne_eq, neF] at hD)); try simp only [go_sem, hD, true_implies]) | (apply hK; clear hK K)
  refine ret_pure ?_; simp only [resL_tmp, resL_nil, tupOf, go_sem, hD]
  try rfl
def notF (keys : List Ky) (d : Dp) : Bool := (d.f.toList == d.t.toList) || !(keys.any (eqK (d.t, (ofG 0 d.r).getD 0)))
theorem foreign_2 (keys : List Ky) (d : Dp) (hk : keys.length ≤ 1000000) (hd : d.r.length ≤ 1000000) : PCall Tryz.prog 57 [DV d, .fp [KyL keys]] (SB (notF keys d)) := by
  have co := set_of d.r hd
  have cc := contains_k (d.t, (ofG 0 d.r).getD 0) keys hk
  unfold notF
  generalize keys.any (eqK (d.t, (ofG 0 d.r).getD 0)) = B at *
  generalize hS : ofG 0 d.r = S at *
  obtain ⟨df, dl, dt, dr⟩ := d
  simp only at *
  clear hS
  cases S with
  | some s =>
    show PCall Tryz.prog 57 [.agg [Str df, IL dl, Str dt, IL dr], .fp [KyL keys]] _
    simp only [ofKR, Option.getD_some] at co cc
    cases hB : (df.toList == dt.toList) with
    | true =>
      refine Call.enter' (N := 26) (rs := [.tmp 3]) Tryz.func57 rfl rfl rfl (by decide) rfl ?_; simp only [argT]; have hD : (0 : Nat) = 0 := rfl
      repeat' first | (refine SW.seq_k fun K hK => ?_) | ((first | refine SW.region ?_ | refine SW.ret ?_ | refine Call.of_pure (co) ?_ | (refine allF_i fun b hb => ?_; replace hD := And.intro hb hD; clear hb; try simp only [fresh_cons, fresh_nil, and_true, ne_eq, neF] at hD)); try simp only [go_sem, hD, hB, true_implies]) | (apply hK; clear hK K)
      refine ret_pure ?_; simp only [resL_tmp, resL_nil, tupOf, go_sem, hD]
      try rfl
    | false =>
      refine Call.enter' (N := 26) (rs := [.tmp 3]) Tryz.func57 rfl rfl rfl (by decide) rfl ?_; simp only [argT]; have hD : (0 : Nat) = 0 := rfl
      repeat' first | (refine SW.seq_k fun K hK => ?_) | ((first | refine SW.region ?_ | refine SW.ret ?_ | refine Call.of_pure (co) ?_ | refine Call.of_pure (cc) ?_ | (refine allF_i fun b hb => ?_; replace hD := And.intro hb hD; clear hb; try simp only [fresh_cons, fresh_nil, and_true, ne_eq, neF] at hD)); try simp only [go_sem, hD, hB, true_implies]) | (apply hK; clear hK K)
      refine ret_pure ?_; simp only [resL_tmp, resL_nil, tupOf, go_sem, hD]
      try rfl
  | none =>
    show PCall Tryz.prog 57 [.agg [Str df, IL dl, Str dt, IL dr], .fp [KyL keys]] _
    simp only [ofKR, Option.getD_none] at co cc
    cases hB : (df.toList == dt.toList) with
    | true =>
      refine Call.enter' (N := 26) (rs := [.tmp 3]) Tryz.func57 rfl rfl rfl (by decide) rfl ?_; simp only [argT]; have hD : (0 : Nat) = 0 := rfl
      repeat' first | (refine SW.seq_k fun K hK => ?_) | ((first | refine SW.region ?_ | refine SW.ret ?_ | refine Call.of_pure (co) ?_ | (refine allF_i fun b hb => ?_; replace hD := And.intro hb hD; clear hb; try simp only [fresh_cons, fresh_nil, and_true, ne_eq, neF] at hD)); try simp only [go_sem, hD, hB, true_implies]) | (apply hK; clear hK K)
      refine ret_pure ?_; simp only [resL_tmp, resL_nil, tupOf, go_sem, hD]
      try rfl
    | false =>
      refine Call.enter' (N := 26) (rs := [.tmp 3]) Tryz.func57 rfl rfl rfl (by decide) rfl ?_; simp only [argT]; have hD : (0 : Nat) = 0 := rfl
      repeat' first | (refine SW.seq_k fun K hK => ?_) | ((first | refine SW.region ?_ | refine SW.ret ?_ | refine Call.of_pure (co) ?_ | refine Call.of_pure (cc) ?_ | (refine allF_i fun b hb => ?_; replace hD := And.intro hb hD; clear hb; try simp only [fresh_cons, fresh_nil, and_true, ne_eq, neF] at hD)); try simp only [go_sem, hD, hB, true_implies]) | (apply hK; clear hK K)
      refine ret_pure ?_; simp only [resL_tmp, resL_nil, tupOf, go_sem, hD]
      try rfl
end Go.Proofs.YtpidncgibgiidaaGreat
