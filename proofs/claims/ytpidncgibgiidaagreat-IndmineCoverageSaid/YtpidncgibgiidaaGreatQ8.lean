/- Several texts in one: YF, YG, YH. -/
import Derived.Test.YtpidncgibgiidaaGreatQ7
set_option linter.unusedSimpArgs false
set_option linter.unusedVariables false
set_option linter.unusedSectionVars false
set_option maxHeartbeats 8000000
set_option maxRecDepth 20000
namespace Go.Ab.A15
open Go Go.Ab Go.Ab.A34 Go.Ab.A01
theorem anyV_succ {l : List LV} {p : LV → Bool} {k : Nat} (h : k < l.length) : (l.take (k + 1)).any p = ((l.take k).any p || p (l.getD k [])) := by
  rw [takeV_succ h, List.any_append]
  simp
def OkSz (m : Nat) (x : LV) : Prop := SzV x ∧ x.length = m
end Go.Ab.A15
def Go.Ab.zYF_1 : Go.Ab.OZ := (.one 0 [0, 1, 2, 3, 4, 5, 6, 7, 8, 9, 10, 11, 12, 13, 14] (.one 1 [1, 2, 3, 4, 5, 6, 7, 8, 9, 10, 11, 12, 13, 14] (.one 2 [2, 3, 4, 5, 6, 7, 8, 9, 10, 11, 12, 13, 14] (.one 3 [3, 5, 6, 12, 13, 14] (.one 4 [4, 5, 6, 12, 13, 14] (.one 5 [5, 6, 12, 13, 14] (.one 6 [6, 12, 13, 14] (.one 7 [7, 10, 11, 12, 13, 14] (.one 8 [8, 9, 10, 11, 12, 13, 14] (.one 9 [9, 10, 11, 12, 13, 14] (.one 10 [10, 11, 12, 13, 14] (.one 11 [11, 12, 13, 14] (.one 12 [12, 13, 14] (.one 13 [13, 14] (.one 14 [14] .done)))))))))))))))
namespace Go.Proofs.YtpidncgibgiidaaGreat
open Go Go.Ab Go.Ab.A34 Go.Ab.A15 Go.Ab.A01
variable [Gl] [Tabs]
theorem mr_seen (D T : SV) (ids : List Int) (i : Nat) (y : SV) (hp : Heap) (L : List LV) (v : LV) (m : Nat) (hl : L.length ≤ 1000) (hs : ∀ x ∈ L, OkSz m x) (hv : OkSz m v) (hA : Acc 1 y hp [] L.length (lvC L)) :
    Ab.SW Tryz.prog 132 (blk 4 Tryz.f41) (nrm fun S => ∃ hp2, Acc 1 y hp2 [] L.length (lvC L) ∧ S.le ⟨[(3, D), (6, IL ids), (8, T), (9, y), (10, I64 i), (13, VL v), (15, SB (L.any fun x => decide (lexV x v = 0)))], hp2⟩)
      ⟨[(3, D), (6, IL ids), (8, T), (9, y), (10, I64 i), (13, VL v), (15, SB false), (16, I64 (0 : Nat))], hp⟩ := by
  conv => arg 3; whnf
  obtain ⟨p, hpe⟩ : ∃ p : LV → Bool, p = fun x => decide (lexV x v = 0) := ⟨_, rfl⟩
  have hpx : ∀ x, p x = decide (lexV x v = 0) := fun x => by rw [hpe]
  rw [← hpe]
  clear hpe
  rcases Acc.cases hA with ⟨hn0, _, rfl, rfl⟩ | ⟨ob, hlen, rfl, hle2⟩
  · have hL0 : L = [] := List.eq_nil_of_length_eq_zero hn0
    subst hL0
    refine SW.block ?_
    obtain ⟨J, hJ⟩ : ∃ J : Nat → St → Prop, ∀ m S, J m S ↔ S = ⟨[(3, D), (6, IL ids), (8, T), (9, SN), (10, I64 i), (13, VL v), (15, SB false), (16, I64 (0 : Nat))], []⟩ := ⟨fun m S => _, fun _ _ => Iff.rfl⟩
    refine SW.loop' J 0 ((hJ _ _).2 rfl) (by repeat' (first | exact rfl | exact trivial | constructor)) ?_
    intro m S hIn
    obtain rfl := (hJ _ _).1 hIn
    clear hIn
    have hz : ¬ ((0 : Nat) : Int) < 0 := by omega
    have hD : (0 : Nat) = 0 := rfl
    repeat' first | (refine SW.seq_k fun K hK => ?_) | ((first | refine SW.region ?_ | refine SW.cond ?_ | refine SW.exit ?_); try simp only [go_sem, hD, hz, true_implies]) | (apply hK; clear hK K)
    exact ⟨[], hA, St.le_sub (by repeat' (first | exact rfl | exact trivial | constructor))⟩
  · refine Ab.SW.le (hle2 _) ?_
    have hA2 : Acc 1 (.os ob 0 L.length 1) [(ob, .svs (lvC L))] [] L.length (lvC L) := .inr ⟨ob, _, by simp [fresh_nil], rfl, by rw [lvC_len, Nat.mul_one], rfl, rfl, rfl⟩
    clear hA hle2
    have hc0 : (lvC L).length = L.length := lvC_len L
    refine SW.block ?_
    obtain ⟨I, hI⟩ : ∃ I : Nat → St → Prop, ∀ k S, I k S ↔ (∃ (j : Nat) , k = L.length - j ∧ j ≤ L.length ∧ S = ⟨[(3, D), (6, IL ids), (8, T), (9, .os ob 0 L.length 1), (10, I64 i), (13, VL v), (15, SB ((L.take j).any p)), (16, I64 j)], [(ob, .svs (lvC L))]⟩) := ⟨fun k S => _, fun _ _ => Iff.rfl⟩
    refine SW.loop' I (L.length) ((hI _ _).2 ⟨0, rfl, Nat.zero_le _, rfl⟩) (by repeat' (first | exact rfl | exact trivial | constructor)) ?_
    intro k S hIn
    obtain ⟨j, rfl, hi, rfl⟩ := (hI _ _).1 hIn
    clear hIn
    have ie : ((j : Nat) : Int).toNat = j := Int.toNat_natCast _
    have i0 : (0 : Int) ≤ ((j : Nat) : Int) := by omega
    by_cases hlt : j < L.length
    · have hli : ((j : Nat) : Int) < (((L.length) : Nat) : Int) := by omega
      have w1 : IntKind.i64.wrap ((j : Int) + 1) = ((j + 1 : Nat) : Int) := by rw [i64_wrap (by omega) (by omega)]; omega
      have has := anyV_succ (p := p) hlt
      have g1 := lvC_get hlt
      have zi : 0 + j * 1 = j := by omega
      obtain ⟨hx1, hx2⟩ := hs _ (getD_mem' [] hlt)
      have cc := cmpL_r (L.getD j []) v hx1 hv.1 (by rw [hx2, hv.2])
      have hpj := hpx (L.getD j [])
      generalize L.getD j [] = x at *
      generalize hz : lexV x v = z at *
      generalize p x = av at *
      generalize hfo : (L.take j).any p = fo at *
      generalize hfo2 : (L.take (j + 1)).any p = fo2 at *
      have hD : (0 : Nat) = 0 := rfl
      cases fo with
      | true =>
        obtain rfl : fo2 = true := by rw [has]; rfl
        repeat' first | (refine SW.seq_k fun K hK => ?_) | (refine SW.block ?_) | ((first | refine SW.region ?_ | refine SW.cond ?_ | refine SW.skip ?_); try simp only [go_sem, hD, hli, ie, i0, w1, g1, zi, hc0, true_implies]) | (apply hK; clear hK K)
        all_goals
          refine Rnd.sub (L.length - (j + 1)) (by omega) ((hI _ _).2 ⟨j + 1, rfl, by omega, by rw [hfo2]⟩) (by repeat' (first | exact rfl | exact trivial | constructor))
      | false =>
        obtain rfl : fo2 = av := by rw [has]; rfl
        subst hpj
        repeat' first | (with_reducible refine And.intro (by omega) ?_) | (refine SW.seq_k fun K hK => ?_) | (refine SW.block ?_) | ((first | refine SW.region ?_ | refine SW.cond ?_ | refine SW.skip ?_ | refine Call.of_pure (cc) ?_); try simp only [go_sem, hD, hli, ie, i0, w1, g1, zi, hc0, true_implies]) | (apply hK; clear hK K)
        all_goals
          refine Rnd.sub (L.length - (j + 1)) (by omega) ((hI _ _).2 ⟨j + 1, rfl, by omega, by rw [hfo2]⟩) (by repeat' (first | exact rfl | exact trivial | constructor))
    · have hli : ¬ ((j : Nat) : Int) < (((L.length) : Nat) : Int) := by omega
      obtain rfl : j = L.length := by omega
      rw [List.take_length]
      have hD : (0 : Nat) = 0 := rfl
      repeat' first | (refine SW.seq_k fun K hK => ?_) | ((first | refine SW.region ?_ | refine SW.cond ?_ | refine SW.exit ?_); try simp only [go_sem, hD, hli, true_implies]) | (apply hK; clear hK K)
      exact ⟨_, hA2, St.le_sub (by repeat' (first | exact rfl | exact trivial | constructor))⟩
theorem mr_ins (D T : SV) (ids : List Int) (ix : Nat) (m : Nat) (L0 : List LV) (ob i : Nat) (hi : i < L0.length) (hn : L0.length ≤ 10000) (hnd : ∀ a b, a < L0.length → b < L0.length → ¬ a = b → ¬ lexV (L0.getD a []) (L0.getD b []) = 0) (hs : ∀ x ∈ L0, OkSz m x) (h0 : ∀ a b, a < b → b < i → LtV (L0.getD a []) (L0.getD b [])) :
    Ab.SW Tryz.prog 132 (blk 6 Tryz.f41) (nrm fun S => ∃ L : List LV, L.Perm L0 ∧ (∀ a b, a < b → b ≤ i → LtV (L.getD a []) (L.getD b [])) ∧ S.le ⟨[(3, D), (6, IL ids), (8, T), (9, .os ob 0 L0.length 1), (10, I64 ix)], [(ob, .svs (lvC L))]⟩)
      ⟨[(3, D), (6, IL ids), (8, T), (9, .os ob 0 L0.length 1), (10, I64 ix), (17, I64 i)], [(ob, .svs (lvC L0))]⟩ := by
  conv => arg 3; whnf
  refine SW.block ?_
  obtain ⟨I, hI⟩ : ∃ I : Nat → St → Prop, ∀ n S, I n S ↔ (∃ (kk : Nat) (L : List LV), n = kk ∧ kk ≤ i ∧ L.Perm L0 ∧ (∀ a b, a < L.length → b < L.length → ¬ a = b → ¬ lexV (L.getD a []) (L.getD b []) = 0) ∧ (∀ a b, a < b → b ≤ i → ¬ a = kk → ¬ b = kk → LtV (L.getD a []) (L.getD b [])) ∧ (∀ b, kk < b → b ≤ i → LtV (L.getD kk []) (L.getD b [])) ∧
    S = ⟨[(3, D), (6, IL ids), (8, T), (9, .os ob 0 L0.length 1), (10, I64 ix), (17, I64 kk)], [(ob, .svs (lvC L))]⟩) := ⟨fun n S => _, fun _ _ => Iff.rfl⟩
  refine SW.loop' I i ((hI _ _).2 ⟨i, L0, rfl, Nat.le_refl _, List.Perm.refl _, hnd, fun a b hab hb ha hbi => h0 a b hab (by omega), fun b h1 h2 => by omega, rfl⟩) (by repeat' (first | exact rfl | exact trivial | constructor)) ?_
  intro kk S hIn
  obtain ⟨_, L, rfl, hk, hp, hd, h1, h2, rfl⟩ := (hI _ _).1 hIn
  clear hIn h0 hnd
  have hLn := hp.length_eq
  have hc0 : (lvC L).length = L0.length := by rw [lvC_len, hLn]
  by_cases hk0 : kk = 0
  · subst hk0
    have z0 : ¬ (0 : Int) < ((0 : Nat) : Int) := by omega
    have hD : (0 : Nat) = 0 := rfl
    repeat' first | (refine SW.seq_k fun K hK => ?_) | ((first | refine SW.regionZ (id := 23) (Checked.mixed Tryz.checked) Go.Ab.zYF_1 (by kernel_rfl) ?_ | refine SW.cond ?_ | refine SW.exit ?_); try simp only [Go.Ab.zYF_1, go_sem, hD, z0, true_implies]) | (refine ifI (fun hc => ?_) (fun hc => ?_) <;> first | (exfalso; omega) | skip) | (apply hK; clear hK K)
    all_goals
      exact ⟨L, hp, stop_inv [] LtV LtV.tr hk h1 h2 (.inl rfl), St.le_sub (by repeat' (first | exact rfl | exact trivial | constructor))⟩
  · obtain ⟨n, rfl⟩ : ∃ n, kk = n + 1 := ⟨kk - 1, by omega⟩
    have z0 : (0 : Int) < ((n + 1 : Nat) : Int) := by omega
    have wk : IntKind.i64.wrap (((n + 1 : Nat) : Int) - 1) = ((n : Nat) : Int) := by rw [i64_wrap (by omega) (by omega)]; omega
    have k1 : (0 : Int) ≤ ((n + 1 : Nat) : Int) := by omega
    have k2 : ((n + 1 : Nat) : Int) < ((L0.length : Nat) : Int) := by omega
    have k3 : (0 : Int) ≤ ((n : Nat) : Int) := by omega
    have k4 : ((n : Nat) : Int) < ((L0.length : Nat) : Int) := by omega
    have k5 : ((n + 1 : Nat) : Int).toNat = n + 1 := Int.toNat_natCast _
    have k6 : ((n : Nat) : Int).toNat = n := Int.toNat_natCast _
    have z1 : 0 + (n + 1) * 1 = n + 1 := by omega
    have z2 : 0 + n * 1 = n := by omega
    have g1 := lvC_get (L := L) (show n + 1 < L.length by omega)
    have g2 := lvC_get (L := L) (show n < L.length by omega)
    obtain ⟨su, lu⟩ := hs _ (hp.mem_iff.1 (getD_mem' [] (show n + 1 < L.length by omega)))
    obtain ⟨sv, lv⟩ := hs _ (hp.mem_iff.1 (getD_mem' [] (show n < L.length by omega)))
    have cb := cmpL_r (L.getD (n + 1) []) (L.getD n []) su sv (by rw [lu, lv])
    have hne := hd (n + 1) n (by omega) (by omega) (by omega)
    have hcn := lexV_swap (L.getD (n + 1) []) (L.getD n [])
    by_cases hlt : lexV (L.getD (n + 1) []) (L.getD n []) < 0
    · have hsp := swap_perm [] (L := L) (j := n + 1) (k := n) (by omega) (by omega)
      have hsi := swap_inv [] LtV LtV.tr (L := L) (k := n) (i := i) (by omega) (by omega) h1 h2 hlt
      have s1 := lvC_set L (n + 1) (L.getD n [])
      have s2 := lvC_set (L.set (n + 1) (L.getD n [])) n (L.getD (n + 1) [])
      simp only at hsi
      generalize hL2 : (L.set (n + 1) (L.getD n [])).set n (L.getD (n + 1) []) = L2 at *
      have hd2 : ∀ a b, a < L2.length → b < L2.length → ¬ a = b → ¬ lexV (L2.getD a []) (L2.getD b []) = 0 := by
        have hnd2 : L.Pairwise fun x y => ¬ lexV x y = 0 := pw_of_idx [] _ fun a b hab hb => hd a b (by omega) hb (by omega)
        have hnd3 : L2.Pairwise fun x y => ¬ lexV x y = 0 := hsp.symm.pairwise hnd2 fun {x y} hxy e => hxy (by rw [lexV_swap]; omega)
        intro a b ha hb hab e
        rw [List.pairwise_iff_getElem] at hnd3
        rcases Nat.lt_or_gt_of_ne hab with h | h
        · have := hnd3 a b ha hb h
          simp only [List.getD_eq_getElem?_getD, ha, hb, List.getElem?_eq_getElem, Option.getD_some] at e
          exact this e
        · have := hnd3 b a hb ha h
          simp only [List.getD_eq_getElem?_getD, ha, hb, List.getElem?_eq_getElem, Option.getD_some] at e
          rw [lexV_swap, e] at this
          exact this rfl
      clear hcn hne
      generalize lexV (L.getD (n + 1) []) (L.getD n []) = q at *
      generalize L.getD (n + 1) [] = u at *
      generalize L.getD n [] = v at *
      have hD : (0 : Nat) = 0 := rfl
      repeat' first | (with_reducible refine And.intro (by omega) ?_) | (refine SW.seq_k fun K hK => ?_) | (refine SW.block ?_) | ((first | refine SW.region ?_ | refine SW.regionZ (id := 23) (Checked.mixed Tryz.checked) Go.Ab.zYF_1 (by kernel_rfl) ?_ | refine SW.regionX (id := 25) (Checked.mixed Tryz.checked) ((.one 0 [0, 14, 15, 16, 17] (.one 1 [1, 14, 15, 16, 17] (.one 5 [5, 8, 9, 14, 15, 16, 17] (.one 6 [6, 7, 8, 9, 14, 15, 16, 17] (.one 7 [7, 8, 9, 14, 15, 16, 17] (.one 8 [8, 9, 14, 15, 16, 17] (.one 9 [9, 14, 15, 16, 17] (.one 10 [10, 12, 13, 14, 15, 16, 17] (.one 11 [11, 12, 13, 14, 15, 16, 17] (.one 12 [12, 13, 14, 15, 16, 17] (.one 13 [13, 14, 15, 16, 17] (.one 14 [14, 15, 16, 17] (.fre 2 [2, 16, 17] (.fre 3 [3, 4, 16, 17] (.fre 4 [4, 16, 17] (.alt 15 (.one 16 [16, 17] (.alt 17 .done .nil)) .nil)))))))))))))))) : OX) (by kernel_rfl) ?_ | refine SW.cond ?_ | refine SW.skip ?_ | refine ⟨_, cb, ?_⟩); try simp only [Go.Ab.zYF_1, go_sem, hD, z0, wk, k1, k2, k3, k4, k5, k6, g1, g2, z1, z2, hc0, hlt, true_implies]) | (apply hK; clear hK K)
      all_goals
        rw [s1, s2]
        refine Rnd.sub n (by omega) ((hI _ _).2 ⟨n, L2, rfl, by omega, hsp.trans hp, hd2, hsi.1, hsi.2, rfl⟩) (by repeat' (first | exact rfl | exact trivial | constructor))
    · have hst := stop_inv [] LtV LtV.tr hk h1 h2 (.inr (by unfold LtV; rw [Nat.add_sub_cancel]; omega))
      clear hne hcn
      generalize lexV (L.getD (n + 1) []) (L.getD n []) = q at *
      generalize hu : L.getD (n + 1) [] = u at *
      generalize hv : L.getD n [] = v at *
      have hD : (0 : Nat) = 0 := rfl
      repeat' first | (with_reducible refine And.intro (by omega) ?_) | (refine SW.seq_k fun K hK => ?_) | ((first | refine SW.regionZ (id := 23) (Checked.mixed Tryz.checked) Go.Ab.zYF_1 (by kernel_rfl) ?_ | refine SW.cond ?_ | refine SW.exit ?_ | refine ⟨_, cb, ?_⟩); try simp only [Go.Ab.zYF_1, go_sem, hD, z0, wk, k1, k2, k3, k4, k5, k6, g1, g2, z1, z2, hc0, hlt, true_implies]) | (apply hK; clear hK K)
      all_goals
        exact ⟨L, hp, hst, St.le_sub (by repeat' (first | exact rfl | exact trivial | constructor))⟩
end Go.Proofs.YtpidncgibgiidaaGreat
namespace Go.Ab.A15
open Go Go.Ab Go.Ab.A34 Go.Ab.A01
theorem any_zero {L : List LV} {v : LV} : (L.any fun x => decide (lexV x v = 0)) = true ↔ v ∈ L := by
  rw [List.any_eq_true]
  constructor
  · rintro ⟨x, hx, h⟩
    rw [decide_eq_true_eq] at h
    exact (lexV_zero.1 h) ▸ hx
  · intro h
    exact ⟨v, h, by rw [decide_eq_true_eq]; exact lexV_zero.2 rfl⟩
theorem ord_nd {L : List LV} {W : List LV} {v : LV} (h : IsOrd L W) (hv : ¬ v ∈ L) : ∀ a b, a < (L ++ [v]).length → b < (L ++ [v]).length → ¬ a = b → ¬ lexV ((L ++ [v]).getD a []) ((L ++ [v]).getD b []) = 0 := by
  have hp : (L ++ [v]).Pairwise fun x y => ¬ lexV x y = 0 := by
    rw [List.pairwise_append]
    refine ⟨h.1.imp fun hxy e => by unfold LtV at hxy; omega, by simp, fun x hx y hy e => ?_⟩
    rw [List.mem_singleton] at hy
    subst hy
    exact hv (lexV_zero.1 e ▸ hx)
  intro a b ha hb hab e
  rw [List.pairwise_iff_getElem] at hp
  rcases Nat.lt_or_gt_of_ne hab with h1 | h1
  · have := hp a b ha hb h1
    simp only [List.getD_eq_getElem?_getD, ha, hb, List.getElem?_eq_getElem, Option.getD_some] at e
    exact this e
  · have := hp b a hb ha h1
    simp only [List.getD_eq_getElem?_getD, ha, hb, List.getElem?_eq_getElem, Option.getD_some] at e
    rw [lexV_swap, e] at this
    exact this rfl
theorem ord_lt {L : List LV} {W : List LV} {v : LV} (h : IsOrd L W) : ∀ a b, a < b → b < L.length → LtV ((L ++ [v]).getD a []) ((L ++ [v]).getD b []) := by
  intro a b hab hb
  have hp := h.1
  rw [List.pairwise_iff_getElem] at hp
  have ha : a < L.length := by omega
  have := hp a b ha hb hab
  simpa [List.getD_eq_getElem?_getD, List.getElem?_append_left, ha, hb] using this
theorem ord_put {L L2 W : List LV} {v : LV} (h : IsOrd L W) (hp : L2.Perm (L ++ [v])) (hl : ∀ a b, a < b → b ≤ L.length → LtV (L2.getD a []) (L2.getD b [])) : IsOrd L2 (W ++ [v]) := by
  have hn := hp.length_eq
  rw [List.length_append, List.length_singleton] at hn
  refine ⟨pw_of_idx [] LtV fun a b hab hb => hl a b hab (by omega), fun x => ?_⟩
  rw [hp.mem_iff, List.mem_append, List.mem_append, h.2 x]
theorem ord_dup {L W : List LV} {v : LV} (h : IsOrd L W) (hv : v ∈ L) : IsOrd L (W ++ [v]) := by
  refine ⟨h.1, fun x => ?_⟩
  rw [List.mem_append, List.mem_singleton, ← h.2 x]
  constructor
  · exact .inl
  · rintro (h1 | rfl)
    · exact h1
    · exact hv
end Go.Ab.A15
namespace Go.Proofs.YtpidncgibgiidaaGreat
open Go Go.Ab Go.Ab.A34 Go.Ab.A15 Go.Ab.A01
variable [Gl] [Tabs]
theorem missing_r (db : List Tb) (d : Dp) (hdb : db.length ≤ 1000000) (hok : OkDb db) (hd : OkD d) (h : vE db d = 0) : PCall Tryz.prog 41 [DB db, DV d] (.tup [VVL (missS db d), I64 0]) := by
  have cv := viol_r db d (by omega) hok hd h
  rw [viol_noP] at cv
  obtain ⟨V, F⟩ := vE_ok h
  have kf := rows_k V F.f
  have l1 := idxN_lt F.f
  have nl : (nmsOf db).length = db.length := by unfold nmsOf; rw [List.length_map]
  rw [nl] at l1
  have c1 := table_r d.f db db.length (by omega) rfl (tF db) (fun i hi => rfl)
  rw [tabI_idx (i := 0) F.f, Nat.zero_add] at c1
  have hr : (db.getD (idxN d.f (nmsOf db)) t0).rows = rowsAt db d.f := rfl
  have hmt : db.getD (idxN d.f (nmsOf db)) t0 ∈ db := getD_mem' t0 l1
  have hids := (valid_ids (V.v _ hmt)).2
  have b16 := in16_len F.nl (F.in16l V)
  have ff : tF db (idxN d.f (nmsOf db)) = tC (db.getD (idxN d.f (nmsOf db)) t0) := rfl
  have hGm : ∀ r ∈ noP (rowsAt db d.f) (rowsAt db d.t) d.l d.r, r ∈ (db.getD (idxN d.f (nmsOf db)) t0).rows := fun r hr2 => by rw [hr]; exact (List.mem_filter.1 hr2).1
  have hGl : (noP (rowsAt db d.f) (rowsAt db d.t) d.l d.r).length ≤ 1000 := Nat.le_trans (List.length_filter_le _ _) kf.n
  have hKb : ∀ r ∈ (db.getD (idxN d.f (nmsOf db)) t0).rows, ∀ a ∈ d.l, 0 ≤ a ∧ a < r.2.length := fun r hr2 a ha => by
    have := F.l a ha
    rw [hr] at hr2
    rw [kf.l r hr2]
    exact this
  have hSz : ∀ r ∈ (db.getD (idxN d.f (nmsOf db)) t0).rows, OkSz d.l.length (valR d.l r.2) := fun r hr2 => by
    refine ⟨⟨by rw [valR_len]; omega, fun v hv => ?_⟩, valR_len _ _⟩
    obtain ⟨a, ha, rfl⟩ := List.mem_map.1 hv
    have hb := hKb r hr2 a ha
    rw [hr] at hr2
    have := okV_size (kf.v r hr2 _ (getD_mem v0 (show a.toNat < r.2.length by omega)))
    omega
  have hrl : (db.getD (idxN d.f (nmsOf db)) t0).rows.length ≤ 1000 := by rw [hr]; exact kf.n
  unfold missS
  clear V F kf h hr hmt nl
  generalize noP (rowsAt db d.f) (rowsAt db d.t) d.l d.r = G at *
  obtain ⟨ids, hidE⟩ : ∃ ids, ids = G.map (·.1) := ⟨_, rfl⟩
  have hidl : ids.length = G.length := by rw [hidE, List.length_map]
  have hidg : ∀ i, i < G.length → ids.getD i 0 = (G.getD i r0).1 := fun i hi => by
    rw [hidE]
    simp [List.getD_eq_getElem?_getD, hi]
  rw [← hidE] at cv
  clear hidE
  generalize idxN d.f (nmsOf db) = p at *
  have p1 : ((p : Nat) : Int) < ((db.length : Nat) : Int) := by omega
  have p0 : (0 : Int) ≤ ((p : Nat) : Int) := by omega
  have pe : ((p : Nat) : Int).toNat = p := Int.toNat_natCast _
  generalize db.getD p t0 = t at *
  obtain ⟨tn, ta, tr⟩ := t
  obtain ⟨df, dl, dt, dr⟩ := d
  simp only at *
  have ft2 : tC ⟨tn, ta, tr⟩ = [Str tn, SL ta, RL tr] := rfl
  have hfd : ∀ i, i < G.length → ∃ z, z < tr.length ∧ tr.getD z r0 = G.getD i r0 ∧ PCall Tryz.prog 79 [TB ⟨tn, ta, tr⟩, I64 (G.getD i r0).1] (.tup [I64 (z : Nat), SB true]) := fun i hi => by
    obtain ⟨z, hz1, hz2, hz3⟩ := fnd_at hids (hGm _ (getD_mem r0 hi))
    refine ⟨z, hz1, hz3, ?_⟩
    have c := find_rr ⟨tn, ta, tr⟩ (G.getD i r0).1 (by simp only; omega)
    simp only at c
    rw [hz2] at c
    unfold fndV at c
    rw [if_neg (by omega)] at c
    exact c
  refine Call.enter' (N := 132) (rs := [.tmp 4, .tmp 5]) Tryz.func41 rfl rfl rfl (by decide) rfl ?_; simp only [argT]; have hD : (0 : Nat) = 0 := rfl
  repeat' first | (refine SW.seq_k fun K hK => ?_) | ((first | refine SW.region ?_ | refine SW.regionZ (id := 4) (Checked.mixed Tryz.checked) ((.one 0 [0, 1, 7, 8, 10] (.one 1 [1, 7, 8, 10] (.one 2 [2, 3, 6, 7, 8, 10] (.one 3 [3, 6, 7, 8, 10] (.one 4 [4, 5, 6, 7, 8, 10] (.one 5 [5, 6, 7, 8, 10] (.one 6 [6, 7, 8, 10] (.one 7 [7, 8, 10] (.one 8 [8, 10] (.alt 9 (.alt 10 .done .nil) .nil)))))))))) : OZ) (by kernel_rfl) ?_ | refine SW.cond ?_ | refine SW.skip ?_ | refine Call.of_pure (cv) ?_ | refine ⟨_, c1, ?_⟩ | (refine allF_i fun b hb => ?_; replace hD := And.intro hb hD; clear hb; try simp only [fresh_cons, fresh_nil, and_true, ne_eq, neF] at hD)); try simp only [go_sem, hD, p0, p1, pe, ff, ft2, true_implies]) | (apply hK; clear hK K)
  clear cv c1
  obtain ⟨b8, rfl⟩ : ∃ x, x = b := ⟨_, rfl⟩
  obtain ⟨b3, rfl⟩ : ∃ x, x = b := ⟨_, rfl⟩
  obtain ⟨b2, rfl⟩ : ∃ x, x = b := ⟨_, rfl⟩
  obtain ⟨D, hDe⟩ : ∃ D, D = SV.fp [Str df, IL dl, Str dt, IL dr] := ⟨_, rfl⟩
  obtain ⟨T, hTe⟩ : ∃ T, T = SV.fp [Str tn, SL ta, RL tr] := ⟨_, rfl⟩
  refine Ab.SW.le (S' := ⟨[(3, .fp [Str df, IL dl, Str dt, IL dr]), (6, IL ids), (8, .fp [Str tn, SL ta, RL tr]), (9, SN), (10, I64 (0 : Nat))], []⟩) ?_ ?_
  · refine St.le.trans (St.le_freezeP (i := 8) (off := 0) (n := 3) (k := .svs [Str tn, SL ta, RL tr]) rfl (by simp [find_cons, hD]) (by exact Nat.le_refl 3)) ?_
    simp only [getN, Blk.get, go_sem, hD]
    refine St.le.trans (St.le_freezeP (i := 3) (off := 0) (n := 4) (k := .svs [Str df, IL dl, Str dt, IL dr]) rfl (by simp [find_cons, hD]) (by exact Nat.le_refl 4)) ?_
    simp only [getN, Blk.get, go_sem, hD]
    refine St.le.trans (St.le_freezeP (i := 2) (off := 0) (n := 1) (k := .svs [TL db]) rfl (by simp [find_cons, hD]) (by exact Nat.le_refl 1)) ?_
    simp only [getN, Blk.get, go_sem, hD]
    exact St.le_sub (by repeat' (first | exact rfl | exact trivial | constructor))
  clear hD
  have hD : (0 : Nat) = 0 := rfl
  refine SW.block ?_
  obtain ⟨I, hI⟩ : ∃ I : Nat → St → Prop, ∀ k S, I k S ↔ (∃ (i : Nat) (y : SV) (hp : Heap) (L : List LV), k = G.length - i ∧ i ≤ G.length ∧ IsOrd L (valK dl (G.take i)) ∧ L.length ≤ i ∧ (∀ x ∈ L, OkSz dl.length x) ∧ Acc 1 y hp [] L.length (lvC L) ∧ S = ⟨[(3, .fp [Str df, IL dl, Str dt, IL dr]), (6, IL ids), (8, .fp [Str tn, SL ta, RL tr]), (9, y), (10, I64 i)], hp⟩) := ⟨fun k S => _, fun _ _ => Iff.rfl⟩
  refine SW.loop' I (G.length) ((hI _ _).2 ⟨0, SN, [], [], rfl, Nat.zero_le _, ⟨.nil, fun x => by simp [valK]⟩, Nat.le_refl _, (fun x hx => by cases hx), .nil 1 [], rfl⟩) (by repeat' (first | exact rfl | exact trivial | constructor)) ?_
  intro k S hIn
  obtain ⟨i, y, hp, L, rfl, hi, hO, hLl, hLs, hA, rfl⟩ := (hI _ _).1 hIn
  clear hIn
  have ie : ((i : Nat) : Int).toNat = i := Int.toNat_natCast _
  have i0 : (0 : Int) ≤ ((i : Nat) : Int) := by omega
  have hii : ((ids.length : Nat) : Int) = ((G.length : Nat) : Int) := by omega
  by_cases hlt : i < G.length
  · have hli : ((i : Nat) : Int) < (((G.length) : Nat) : Int) := by omega
    have w1 : IntKind.i64.wrap ((i : Int) + 1) = ((i + 1 : Nat) : Int) := by rw [i64_wrap (by omega) (by omega)]; omega
    have fi : iF ids i = [I64 (ids.getD i 0)] := rfl
    rw [hidg i hlt] at fi
    obtain ⟨z, hz1, hz2, cf⟩ := hfd i hlt
    have hvs := valK_succ (l := dl) hlt
    have hmr := hGm _ (getD_mem r0 hlt)
    have hsz := hSz _ hmr
    have hin := fun y hp => mr_v df dt dl dr tn ta tr z hz1 (G.getD i r0).2 (by rw [hz2]) (by omega) (hKb _ hmr) ids i y hp
    have hse := fun y hp hA => mr_seen (.fp [Str df, IL dl, Str dt, IL dr]) (.fp [Str tn, SL ta, RL tr]) ids i y hp L (valR dl (G.getD i r0).2) dl.length (by omega) hLs hsz hA
    generalize hv : valR dl (G.getD i r0).2 = v at *
    generalize (G.getD i r0).1 = id at *
    clear hz2 hmr hv
    repeat' first | (refine SW.seq_k fun K hK => ?_) | ((first | refine SW.region ?_ | refine SW.cond ?_ | refine SW.skip ?_); try simp only [go_sem, hD, hli, hii, true_implies]) | (apply hK; clear hK K)
    refine SW.block ?_
    repeat' first | (refine SW.seq_k fun K hK => ?_) | ((first | refine SW.region ?_ | refine SW.regionZ (id := 9) (Checked.mixed Tryz.checked) ((.one 0 [0, 5, 6, 7, 8, 9, 10] (.one 1 [1, 3, 4, 5, 6, 7, 8, 9, 10] (.one 2 [2, 3, 4, 5, 6, 7, 8, 9, 10] (.one 3 [3, 4, 5, 6, 7, 8, 9, 10] (.one 4 [4, 5, 6, 7, 8, 9, 10] (.one 5 [5, 6, 7, 8, 9, 10] (.one 6 [6, 7, 8, 9, 10] (.one 7 [7, 9, 10] (.one 8 [8, 10] (.one 9 [9, 10] (.one 10 [10] .done))))))))))) : OZ) (by kernel_rfl) ?_ | refine ⟨_, cf, ?_⟩); try simp only [go_sem, hD, hli, hii, ie, i0, w1, fi, true_implies]) | (apply hK; clear hK K)
    refine Ab.SW.cut _ (Ab.SW.le (St.le_sub (by repeat' (first | exact rfl | exact trivial | constructor))) (hin y hp)) ?_
    intro S' hle
    try simp only [go_sem, hD]
    (first | apply hK | (clear hK K; apply hK) | (clear hK K; clear hK K; apply hK)); clear hK K
    refine Ab.SW.le hle ?_
    clear hle hin
    repeat' first | (refine SW.seq_k fun K hK => ?_) | (refine SW.region ?_; try simp only [go_sem, hD, hli, ie, i0, w1, true_implies]) | (apply hK; clear hK K)
    refine Ab.SW.cut _ (Ab.SW.le (St.le_sub (by repeat' (first | exact rfl | exact trivial | constructor))) (hse y hp hA)) ?_
    rintro S' ⟨hp2, hA2, hle⟩
    try simp only [go_sem, hD]
    (first | apply hK | (clear hK K; apply hK) | (clear hK K; clear hK K; apply hK)); clear hK K
    refine Ab.SW.le hle ?_
    clear hle hse hA
    by_cases hsn : (L.any fun x => decide (lexV x v = 0)) = true
    · have hmem := any_zero.1 hsn
      rw [hsn]
      repeat' first | (refine SW.seq_k fun K hK => ?_) | ((first | refine SW.region ?_ | refine SW.cond ?_ | refine SW.exit ?_); try simp only [go_sem, hD, hli, ie, i0, w1, true_implies]) | (apply hK; clear hK K) | (clear hK K; apply hK; clear hK K)
      refine Rnd.sub (G.length - (i + 1)) (by omega) ((hI _ _).2 ⟨i + 1, y, hp2, L, rfl, by omega, by rw [hvs]; exact ord_dup hO hmem, by omega, hLs, hA2, rfl⟩) (by repeat' (first | exact rfl | exact trivial | constructor))
    · have hnm : ¬ v ∈ L := fun h => hsn (any_zero.2 h)
      rw [Bool.eq_false_iff.2 hsn]
      have hm1 : (L.length + 1) * 24 ≤ 140737488355328 := by omega
      have hm2 : L.length + 1 ≤ 140737488355328 := by omega
      have hsn2 := lvC_snoc L v
      clear hsn
      repeat' first | ((with_reducible refine appK_acc hA2 ?_ ?_ ?_ ?_ ?_ ?_ hm1 hm2 ?_); (simp [hD]); (rfl); (rfl); (rfl); (exact Nat.succ_pos _); (rfl); (intro x3 b3 blk3 f1 f2 f3 f4 f5 f6 h3 hh3); (obtain ⟨h4, hA4, hle4⟩ := Acc.after f1 f4 f5 f6 hh3); (clear f1 f2 f3 f4 f5 f6 hh3); (refine stop_i ?_)) | (refine SW.seq_k fun K hK => ?_) | ((first | refine SW.region ?_ | refine SW.cond ?_ | refine SW.skip ?_ | (refine allF_i fun b hb => ?_; replace hD := And.intro hb hD; clear hb; try simp only [fresh_cons, fresh_nil, and_true, ne_eq, neF] at hD)); try simp only [go_sem, hD, hli, ie, i0, w1, true_implies]) | (apply hK; clear hK K)
      refine ⟨?_⟩
      try simp only [go_sem, hD]
      (first | apply hK | (clear hK K; apply hK) | (clear hK K; clear hK K; apply hK)); clear hK K
      refine Ab.SW.le (hle4 _) ?_
      clear hle4 hD
      have hD : (0 : Nat) = 0 := rfl
      obtain ⟨L0, hL0⟩ : ∃ L0, L0 = L ++ [v] := ⟨_, rfl⟩
      have hl0 : L0.length = L.length + 1 := by rw [hL0, List.length_append]; rfl
      have hA5 : Acc 1 x3 h4 [] L0.length (lvC L0) := by rw [hl0, hL0, ← hsn2]; exact hA4
      clear hA4 hA2
      rcases Acc.cases hA5 with ⟨hn0, _⟩ | ⟨ob, hlen, rfl, hle2⟩
      · omega
      refine Ab.SW.le (hle2 _) ?_
      clear hle2 hA5
      have hL0s : ∀ x ∈ L0, OkSz dl.length x := fun x hx => by
        rw [hL0] at hx
        rcases List.mem_append.1 hx with h | h
        · exact hLs x h
        · rw [List.mem_singleton] at h
          subst h
          exact hsz
      have hpu := mr_ins (.fp [Str df, IL dl, Str dt, IL dr]) (.fp [Str tn, SL ta, RL tr]) ids i dl.length L0 ob L.length (by omega) (by omega) (by rw [hL0]; exact ord_nd hO hnm) hL0s (by rw [hL0]; exact ord_lt hO)
      have wl : IntKind.i64.wrap (((L0.length : Nat) : Int) - 1) = ((L.length : Nat) : Int) := by rw [i64_wrap (by omega) (by omega)]; omega
      repeat' first | (refine SW.seq_k fun K hK => ?_) | (refine SW.region ?_; try simp only [go_sem, hD, hli, ie, i0, w1, wl, true_implies]) | (apply hK; clear hK K)
      refine Ab.SW.cut _ (Ab.SW.le (St.le_sub (by repeat' (first | exact rfl | exact trivial | constructor))) hpu) ?_
      rintro S' ⟨L2, hpe, hlt2, hle⟩
      try simp only [go_sem, hD]
      (first | apply hK | (clear hK K; apply hK) | (clear hK K; clear hK K; apply hK)); clear hK K
      refine Ab.SW.le hle ?_
      clear hle hpu
      have hl2 := hpe.length_eq
      have hA6 : Acc 1 (.os ob 0 L0.length 1) [(ob, .svs (lvC L2))] [] L2.length (lvC L2) := .inr ⟨ob, _, by simp [fresh_nil], rfl, by rw [lvC_len, Nat.mul_one], by rw [hl2], rfl, rfl⟩
      have hO2 := ord_put hO (by rw [hL0] at hpe; exact hpe) hlt2
      have hL2s : ∀ x ∈ L2, OkSz dl.length x := fun x hx => hL0s x (hpe.mem_iff.1 hx)
      repeat' (refine SW.region ?_; try simp only [go_sem, hD, hli, ie, i0, w1, true_implies])
      refine Rnd.sub (G.length - (i + 1)) (by omega) ((hI _ _).2 ⟨i + 1, .os ob 0 L0.length 1, [(ob, .svs (lvC L2))], L2, rfl, by omega, by rw [hvs]; exact hO2, by omega, hL2s, hA6, rfl⟩) (by repeat' (first | exact rfl | exact trivial | constructor))
  · have hli : ¬ ((i : Nat) : Int) < (((G.length) : Nat) : Int) := by omega
    obtain rfl : i = G.length := by omega
    rw [List.take_length] at hO
    repeat' first | (refine SW.seq_k fun K hK => ?_) | ((first | refine SW.region ?_ | refine SW.cond ?_ | refine SW.exit ?_ | refine SW.ret ?_); try simp only [go_sem, hD, hli, hii, true_implies]) | (apply hK; clear hK K) | (clear hK K; apply hK; clear hK K)
    refine retQ_le (St.le_acc_fl (i := 4) rfl hA (vlF L) (fun j hj => lvC_at hj)) ?_
    simp only [resL_tmp, resL_nil, tupOf, go_sem, hD]
    rw [← hO.eq]
    all_goals first | exact ⟨rfl, rfl⟩ | rfl
end Go.Proofs.YtpidncgibgiidaaGreat
namespace Go.Ab.A15
open Go Go.Ab Go.Ab.A34 Go.Ab.A01
theorem miss_sz {db : List Tb} {d : Dp} (h : vE db d = 0) : (missS db d).length ≤ 1000 ∧ ∀ x ∈ missS db d, SzV x := by
  obtain ⟨V, F⟩ := vE_ok h
  have kf := rows_k V F.f
  have b16 := in16_len F.nl (F.in16l V)
  have hGl : (noP (rowsAt db d.f) (rowsAt db d.t) d.l d.r).length ≤ 1000 := Nat.le_trans (List.length_filter_le _ _) kf.n
  unfold missS
  refine ⟨?_, fun x hx => ?_⟩
  · unfold ordV
    refine Nat.le_trans (cptI_len _ _) ?_
    rw [List.length_mergeSort]
    unfold valK
    rw [List.length_map]
    exact hGl
  · have hx2 := ((ordV_ord _).2 x).1 hx
    unfold valK at hx2
    obtain ⟨r, hr, rfl⟩ := List.mem_map.1 hx2
    have hr2 := (List.mem_filter.1 hr).1
    refine ⟨by rw [valR_len]; omega, fun v hv => ?_⟩
    obtain ⟨a, ha, rfl⟩ := List.mem_map.1 hv
    have hb := F.l a ha
    have hl := kf.l r hr2
    have := okV_size (kf.v r hr2 _ (getD_mem v0 (show a.toNat < r.2.length by omega)))
    omega
end Go.Ab.A15
namespace Go.Proofs.YtpidncgibgiidaaGreat
open Go Go.Ab Go.Ab.A34 Go.Ab.A15 Go.Ab.A01
variable [Gl] [Tabs]
theorem same_c (x y : LV) (hx : SzV x) (hy : SzV y) : PCall Tryz.prog 43 [VL x, VL y] (SB (decide (x = y))) := by
  have c := same_v x y hx hy
  generalize decide (x = y) = z at *
  refine Call.enter' (N := 8) (rs := [.tmp 4]) Tryz.func43 rfl rfl rfl (by decide) rfl ?_; simp only [argT]; have hD : (0 : Nat) = 0 := rfl
  repeat' first | (refine SW.seq_k fun K hK => ?_) | ((first | refine SW.region ?_ | refine SW.ret ?_ | refine Call.of_pure (c) ?_); try simp only [go_sem, hD, true_implies]) | (apply hK; clear hK K)
  refine ret_pure ?_; simp only [resL_tmp, resL_nil, tupOf, go_sem, hD]
  try rfl
theorem equalF_v (L : List LV) (hl : L.length ≤ 1000000) (hs : ∀ x ∈ L, SzV x) : PCall Tryz.prog 42 [VVL L, VVL L, .fn (.func 43) [] []] (SB true) := by
  have hz : ¬ ¬ ((L.length : Nat) : Int) = ((L.length : Nat) : Int) := fun h => h rfl
  refine Call.enter' (N := 32) (rs := [.tmp 6]) Tryz.func42 rfl rfl rfl (by decide) rfl ?_; simp only [argT]; have hD : (0 : Nat) = 0 := rfl
  repeat' first | (refine SW.seq_k fun K hK => ?_) | ((first | refine SW.region ?_ | refine SW.cond ?_ | refine SW.skip ?_); try simp only [go_sem, hD, true_implies]) | (apply hK; clear hK K)
  refine SW.block ?_
  obtain ⟨I, hI⟩ : ∃ I : Nat → St → Prop, ∀ k S, I k S ↔ (∃ (i : Nat) , k = L.length - i ∧ i ≤ L.length ∧ 0 = 0 ∧ S = ⟨[(0, VVL L), (1, VVL L), (2, .fn (.func 43) [] []), (15, VVL L), (16, I64 L.length), (17, I64 i)], []⟩) := ⟨fun k S => _, fun _ _ => Iff.rfl⟩
  refine SW.loop' I (L.length) ((hI _ _).2 ⟨0, rfl, Nat.zero_le _, rfl, rfl⟩) (by repeat' (first | exact rfl | exact trivial | constructor)) ?_
  intro k S hIn
  obtain ⟨i, rfl, hi, hC, rfl⟩ := (hI _ _).1 hIn
  clear hIn
  have ie : ((i : Nat) : Int).toNat = i := Int.toNat_natCast _
  have i0 : (0 : Int) ≤ ((i : Nat) : Int) := by omega
  by_cases hlt : i < L.length
  · have hli : ((i : Nat) : Int) < (((L.length) : Nat) : Int) := by omega
    have w1 : IntKind.i64.wrap ((i : Int) + 1) = ((i + 1 : Nat) : Int) := by rw [i64_wrap (by omega) (by omega)]; omega
    have fi : vlF L i = [VL (L.getD i [])] := rfl
    have hx := hs _ (getD_mem' [] hlt)
    have cc := same_c (L.getD i []) (L.getD i []) hx hx
    rw [decide_eq_true rfl] at cc
    generalize L.getD i [] = v at *
    repeat' first | (refine SW.seq_k fun K hK => ?_) | (refine SW.block ?_) | ((first | refine SW.region ?_ | refine SW.cond ?_ | refine SW.skip ?_ | refine Call.of_pure (cc) ?_); try simp only [go_sem, hD, hli, ie, i0, w1, fi, true_implies]) | (apply hK; clear hK K)
    refine Rnd.sub (L.length - (i + 1)) (by omega) ((hI _ _).2 ⟨i + 1, rfl, by omega, rfl, rfl⟩) (by repeat' (first | exact rfl | exact trivial | constructor))
  · have hli : ¬ ((i : Nat) : Int) < (((L.length) : Nat) : Int) := by omega
    repeat' first | (refine SW.seq_k fun K hK => ?_) | ((first | refine SW.region ?_ | refine SW.cond ?_ | refine SW.exit ?_ | refine SW.ret ?_); try simp only [go_sem, hD, hli, true_implies]) | (apply hK; clear hK K) | (clear hK K; apply hK; clear hK K)
    refine ret_pure ?_; simp only [resL_tmp, resL_nil, tupOf, go_sem, hD]
theorem equalF_n : PCall Tryz.prog 42 [SN, SN, .fn (.func 43) [] []] (SB true) := by
  have c := equalF_v [] (by simp) (fun x hx => by cases hx)
  exact PCall.nilA (args := [SN, SN, .fn (.func 43) [] []]) (sz := 1) (g := vlF []) 0 (by simp) rfl (PCall.nilA (args := [VVL [], SN, .fn (.func 43) [] []]) (sz := 1) (g := vlF []) 1 (by simp) rfl c)
theorem law_cov (d : List Rc) (g : Dp) (hd : OkRcs d) (hdl : d.length ≤ 9223372036854775807) : PCall Tryz.prog 9 [RcL d, DV g] (SB true) := by
  have of := of_r d hd hdl
  have aw := awake_c
  by_cases h1 : goodD d
  · rw [ofV_good h1] at of
    have S := sm_dra h1
    generalize ofT d = db at *
    generalize decide (d.length ≤ 3) = D3 at *
    cases D3 with
    | false =>
      obtain ⟨gf, gl, gt, gr⟩ := g
      refine Call.enter' (N := 91) (rs := [.tmp 4]) Tryz.func9 rfl rfl rfl (by decide) rfl ?_; simp only [argT]; have hD : (0 : Nat) = 0 := rfl
      repeat' first | (refine SW.seq_k fun K hK => ?_) | ((first | refine SW.region ?_ | refine SW.cond ?_ | refine SW.ret ?_ | refine Call.of_pure (of) ?_ | refine Call.of_pure (aw) ?_ | (refine allF_i fun b hb => ?_; replace hD := And.intro hb hD; clear hb; try simp only [fresh_cons, fresh_nil, and_true, ne_eq, neF] at hD)); try simp only [go_sem, hD, true_implies]) | (apply hK; clear hK K)
      all_goals
        refine ret_pure ?_; simp only [resL_tmp, resL_nil, tupOf, go_sem, hD]
    | true =>
      by_cases h3 : 8 < g.l.length
      · obtain ⟨gf, gl, gt, gr⟩ := g
        have e3 : (8 : Int) < ((gl.length : Nat) : Int) := by simp only at h3; omega
        refine Call.enter' (N := 91) (rs := [.tmp 4]) Tryz.func9 rfl rfl rfl (by decide) rfl ?_; simp only [argT]; have hD : (0 : Nat) = 0 := rfl
        repeat' first | (refine SW.seq_k fun K hK => ?_) | ((first | refine SW.region ?_ | refine SW.cond ?_ | refine SW.ret ?_ | refine Call.of_pure (of) ?_ | refine Call.of_pure (aw) ?_ | (refine allF_i fun b hb => ?_; replace hD := And.intro hb hD; clear hb; try simp only [fresh_cons, fresh_nil, and_true, ne_eq, neF] at hD)); try simp only [go_sem, hD, e3, true_implies]) | (apply hK; clear hK K)
        all_goals
          refine ret_pure ?_; simp only [resL_tmp, resL_nil, tupOf, go_sem, hD]
      · by_cases h4 : 8 < g.r.length
        · obtain ⟨gf, gl, gt, gr⟩ := g
          have e3 : ¬ (8 : Int) < ((gl.length : Nat) : Int) := by simp only at h3; omega
          have e4 : (8 : Int) < ((gr.length : Nat) : Int) := by simp only at h4; omega
          refine Call.enter' (N := 91) (rs := [.tmp 4]) Tryz.func9 rfl rfl rfl (by decide) rfl ?_; simp only [argT]; have hD : (0 : Nat) = 0 := rfl
          repeat' first | (refine SW.seq_k fun K hK => ?_) | ((first | refine SW.region ?_ | refine SW.cond ?_ | refine SW.ret ?_ | refine Call.of_pure (of) ?_ | refine Call.of_pure (aw) ?_ | (refine allF_i fun b hb => ?_; replace hD := And.intro hb hD; clear hb; try simp only [fresh_cons, fresh_nil, and_true, ne_eq, neF] at hD)); try simp only [go_sem, hD, e3, e4, true_implies]) | (apply hK; clear hK K)
          all_goals
            refine ret_pure ?_; simp only [resL_tmp, resL_nil, tupOf, go_sem, hD]
        · have e3 : ¬ (8 : Int) < ((g.l.length : Nat) : Int) := by omega
          have e4 : ¬ (8 : Int) < ((g.r.length : Nat) : Int) := by omega
          have hl := S.n3
          have hok : OkD g := ⟨by omega, by omega⟩
          by_cases hv : vE db g = 0
          · have c1 := coverage_p db g (by omega) hok S.okn hv
            have c2 := coverage_r db g (by omega) S.okdb hok hv
            have c3 := missing_p db g (by omega) hok S.okn hv
            have c4 := missing_r db g (by omega) S.okdb hok hv
            obtain ⟨m1, m2⟩ := miss_sz hv
            have c5 := equalF_v (missS db g) (by omega) m2
            clear m1 m2 S hok hv
            generalize missS db g = M at *
            generalize covS db g = C at *
            obtain ⟨x1, x2, x3⟩ := C
            obtain ⟨gf, gl, gt, gr⟩ := g
            simp only at e3 e4
            refine Call.enter' (N := 91) (rs := [.tmp 4]) Tryz.func9 rfl rfl rfl (by decide) rfl ?_; simp only [argT]; have hD : (0 : Nat) = 0 := rfl
            repeat' first | (refine SW.seq_k fun K hK => ?_) | ((first | refine SW.region ?_ | refine SW.cond ?_ | refine SW.skip ?_ | refine SW.ret ?_ | refine Call.of_pure (of) ?_ | refine Call.of_pure (aw) ?_ | refine Call.of_pure (c1) ?_ | refine Call.of_pure (c2) ?_ | refine Call.of_pure (c3) ?_ | refine Call.of_pure (c4) ?_ | refine Call.of_pure (c5) ?_ | (refine allF_i fun b hb => ?_; replace hD := And.intro hb hD; clear hb; try simp only [fresh_cons, fresh_nil, and_true, ne_eq, neF] at hD)); try simp only [go_sem, hD, e3, e4, true_implies]) | (refine ifI (fun hc => ?_) (fun hc => ?_) <;> first | (exfalso; omega) | skip) | (apply hK; clear hK K)
            all_goals
              refine ret_pure ?_; simp only [resL_tmp, resL_nil, tupOf, go_sem, hD]
          · have c1 := coverage_pbad db g (by omega) hok hv
            have c2 := coverage_rbad db g (by omega) S.okdb hok hv
            have c3 := missing_pbad db g (by omega) hok hv
            have c4 := missing_rbad db g (by omega) S.okdb hok hv
            have c5 := equalF_n
            clear S hok hv
            generalize vE db g = v at *
            obtain ⟨gf, gl, gt, gr⟩ := g
            simp only at e3 e4
            refine Call.enter' (N := 91) (rs := [.tmp 4]) Tryz.func9 rfl rfl rfl (by decide) rfl ?_; simp only [argT]; have hD : (0 : Nat) = 0 := rfl
            repeat' first | (refine SW.seq_k fun K hK => ?_) | ((first | refine SW.region ?_ | refine SW.cond ?_ | refine SW.skip ?_ | refine SW.ret ?_ | refine Call.of_pure (of) ?_ | refine Call.of_pure (aw) ?_ | refine Call.of_pure (c1) ?_ | refine Call.of_pure (c2) ?_ | refine Call.of_pure (c3) ?_ | refine Call.of_pure (c4) ?_ | refine Call.of_pure (c5) ?_ | (refine allF_i fun b hb => ?_; replace hD := And.intro hb hD; clear hb; try simp only [fresh_cons, fresh_nil, and_true, ne_eq, neF] at hD)); try simp only [go_sem, hD, e3, e4, true_implies]) | (refine ifI (fun hc => ?_) (fun hc => ?_) <;> first | (exfalso; omega) | skip) | (apply hK; clear hK K)
            all_goals
              refine ret_pure ?_; simp only [resL_tmp, resL_nil, tupOf, go_sem, hD]
  · rw [ofV_bad h1] at of
    obtain ⟨gf, gl, gt, gr⟩ := g
    refine Call.enter' (N := 91) (rs := [.tmp 4]) Tryz.func9 rfl rfl rfl (by decide) rfl ?_; simp only [argT]; have hD : (0 : Nat) = 0 := rfl
    repeat' first | (refine SW.seq_k fun K hK => ?_) | ((first | refine SW.region ?_ | refine SW.cond ?_ | refine SW.ret ?_ | refine Call.of_pure (of) ?_ | refine Call.of_pure (aw) ?_ | (refine allF_i fun b hb => ?_; replace hD := And.intro hb hD; clear hb; try simp only [fresh_cons, fresh_nil, and_true, ne_eq, neF] at hD)); try simp only [go_sem, hD, true_implies]) | (apply hK; clear hK K)
    all_goals
      refine ret_pure ?_; simp only [resL_tmp, resL_nil, tupOf, go_sem, hD]
end Go.Proofs.YtpidncgibgiidaaGreat
