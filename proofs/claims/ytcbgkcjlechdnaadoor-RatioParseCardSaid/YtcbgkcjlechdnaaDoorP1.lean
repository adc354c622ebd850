/- Plain law of fractions: sums, products, order. -/
import Derived.Test.YtcbgkcjlechdnaaDoorA1
set_option linter.unusedSimpArgs false
set_option linter.unusedVariables false
set_option linter.unusedSectionVars false
namespace Go.Ab
open Go

theorem bld_red {s : Bool} {k N D N' D' : Nat} (hk : 0 < k) (hN : N = k * N') (hD : D = k * D') (hc : Nat.gcd N' D' = 1) : bldR s N D = ofR s N' D' := by
  unfold bldR
  rw [hN, hD, Nat.gcd_mul_left, hc, Nat.mul_one, Nat.mul_div_cancel_left _ hk, Nat.mul_div_cancel_left _ hk]

theorem ofR_zero (s : Bool) : ofR s 0 1 = (0, 1, 0) := by cases s <;> rfl

theorem bld_zero (s : Bool) {D : Nat} (hD : 0 < D) : bldR s 0 D = (0, 1, 0) := by
  rw [bld_red (k := D) (N' := 0) (D' := 1) hD (by omega) (by omega) (by decide), ofR_zero]

theorem bld_scale (s : Bool) {k N D : Nat} (hk : 0 < k) : bldR s (k * N) (k * D) = bldR s N D := by
  unfold bldR
  rw [Nat.gcd_mul_left, Nat.mul_div_mul_left _ _ hk, Nat.mul_div_mul_left _ _ hk]

theorem okR_cop {a b : Int} (h : okR a b = true) : Nat.gcd a.natAbs b.natAbs = 1 := by
  simp only [okR, Bool.and_eq_true, decide_eq_true_eq] at h
  exact h.2.2

theorem cop_div_left {a b g : Nat} (h : Nat.Coprime a b) (hg : g ∣ a) : Nat.Coprime (a / g) b := Nat.Coprime.coprime_dvd_left (Nat.div_dvd_of_dvd hg) h
theorem cop_div_right {a b g : Nat} (h : Nat.Coprime a b) (hg : g ∣ b) : Nat.Coprime a (b / g) := Nat.Coprime.coprime_dvd_right (Nat.div_dvd_of_dvd hg) h

/-- **Mul is what the reference says.** -/
theorem mul_law (a b c d : Int) : mulP a b c d = mulR a b c d := by
  unfold mulP mulR
  by_cases hv : okR a b = true ∧ okR c d = true
  · rw [if_pos hv, if_pos hv]
    have hb := okR_den hv.1
    have hd := okR_den hv.2
    have c1 : Nat.Coprime a.natAbs b.natAbs := okR_cop hv.1
    have c2 : Nat.Coprime c.natAbs d.natAbs := okR_cop hv.2
    have hbd : 0 < b.natAbs * d.natAbs := Nat.mul_pos (by omega) (by omega)
    by_cases h0 : a = 0 ∨ c = 0
    · rw [if_pos h0]
      have : a.natAbs * c.natAbs = 0 := by rcases h0 with h | h <;> simp [h]
      rw [this, bld_zero _ hbd]
    · rw [if_neg h0]
      simp only
      have hbp : 0 < b.natAbs := by omega
      have hdp : 0 < d.natAbs := by omega
      generalize a.natAbs = A at *
      generalize b.natAbs = B at *
      generalize c.natAbs = C at *
      generalize d.natAbs = D at *
      have gp : 0 < Nat.gcd A D := Nat.gcd_pos_of_pos_right _ hdp
      have hp : 0 < Nat.gcd C B := Nat.gcd_pos_of_pos_right _ hbp
      have g1 : Nat.gcd A D ∣ A := Nat.gcd_dvd_left _ _
      have g2 : Nat.gcd A D ∣ D := Nat.gcd_dvd_right _ _
      have h1 : Nat.gcd C B ∣ C := Nat.gcd_dvd_left _ _
      have h2 : Nat.gcd C B ∣ B := Nat.gcd_dvd_right _ _
      have k1 : Nat.Coprime (A / Nat.gcd A D) (D / Nat.gcd A D) := Nat.coprime_div_gcd_div_gcd gp
      have k2 : Nat.Coprime (C / Nat.gcd C B) (B / Nat.gcd C B) := Nat.coprime_div_gcd_div_gcd hp
      have k3 : Nat.Coprime (A / Nat.gcd A D) (B / Nat.gcd C B) := cop_div_left (cop_div_right c1 h2) g1
      have k4 : Nat.Coprime (C / Nat.gcd C B) (D / Nat.gcd A D) := cop_div_left (cop_div_right c2 g2) h1
      have kk : Nat.gcd (A / Nat.gcd A D * (C / Nat.gcd C B)) (B / Nat.gcd C B * (D / Nat.gcd A D)) = 1 :=
        Nat.Coprime.mul_left (Nat.Coprime.mul_right k3 k1) (Nat.Coprime.mul_right k2 k4)
      have eN : A * C = Nat.gcd A D * Nat.gcd C B * (A / Nat.gcd A D * (C / Nat.gcd C B)) := by
        rw [Nat.mul_mul_mul_comm, Nat.mul_div_cancel' g1, Nat.mul_div_cancel' h1]
      have eD : B * D = Nat.gcd A D * Nat.gcd C B * (B / Nat.gcd C B * (D / Nat.gcd A D)) := by
        rw [Nat.mul_comm (Nat.gcd A D), Nat.mul_mul_mul_comm, Nat.mul_div_cancel' h2, Nat.mul_div_cancel' g2]
      rw [bld_red (Nat.mul_pos gp hp) eN eD kk]
      generalize A / Nat.gcd A D * (C / Nat.gcd C B) = X at *
      generalize B / Nat.gcd C B * (D / Nat.gcd A D) = Y at *
      split
      · unfold ofR
        rw [if_neg (by omega)]
      · rfl
  · rw [if_neg hv, if_neg hv]

theorem addT_scale (s t : Bool) (k X Y : Nat) (hk : 0 < k) : addT s t (k * X) (k * Y) = ((addT s t X Y).1, k * (addT s t X Y).2) := by
  unfold addT
  by_cases h : (s == t) = true
  · rw [if_pos h, if_pos h, Nat.mul_add]
  · rw [if_neg h, if_neg h]
    by_cases hl : Y ≤ X
    · rw [if_pos hl, if_pos (Nat.mul_le_mul_left k hl), Nat.mul_sub]
    · rw [if_neg hl, if_neg (fun x => hl (Nat.le_of_mul_le_mul_left x hk)), Nat.mul_sub]

/-- Add of the reference, by what is added. -/
theorem addR_T (a b c d : Int) (hv : okR a b = true ∧ okR c d = true) :
    addR a b c d = bldR (addT (decide (a < 0)) (decide (c < 0)) (a.natAbs * d.natAbs) (c.natAbs * b.natAbs)).1 (addT (decide (a < 0)) (decide (c < 0)) (a.natAbs * d.natAbs) (c.natAbs * b.natAbs)).2 (b.natAbs * d.natAbs) := by
  unfold addR addT
  rw [if_pos hv]
  by_cases h : (decide (a < 0) == decide (c < 0)) = true
  · rw [if_pos h, if_pos h]
  · rw [if_neg h, if_neg h]
    have hcs : decide (c < 0) = !decide (a < 0) := by
      cases h1 : decide (a < 0) <;> cases h2 : decide (c < 0) <;> simp_all
    by_cases hl : a.natAbs * d.natAbs < c.natAbs * b.natAbs
    · rw [if_pos hl, if_neg (by omega), hcs]
    · rw [if_neg hl, if_pos (by omega)]

theorem cop_T {s t : Bool} {A B C g p : Nat} (hB : g * p = B) (c1 : Nat.Coprime A B) (D' : Nat) (cp : Nat.Coprime p D') :
    Nat.Coprime (addT s t (A * D') (C * p)).2 p := by
  have ca : Nat.Coprime (A * D') p := Nat.Coprime.mul_left (Nat.Coprime.coprime_dvd_right ⟨g, by rw [← hB, Nat.mul_comm]⟩ c1) cp.symm
  unfold addT
  split
  · rw [Nat.Coprime, Nat.gcd_comm, Nat.gcd_add_mul_right_right, Nat.gcd_comm]
    exact ca
  · split
    · rename_i hl
      rw [Nat.Coprime, Nat.gcd_comm]
      have h := Nat.gcd_sub_mul_right_right (k := C) (m := p) (n := A * D') hl
      rw [h, Nat.gcd_comm]
      exact ca
    · rename_i hl
      have e : A * D' = C * p - (C * p - A * D') := by omega
      have d1 : Nat.gcd (C * p - A * D') p ∣ A * D' := by
        rw [e]
        have d2 : Nat.gcd (C * p - (C * p - (C * p - A * D'))) p ∣ C * p := Nat.dvd_trans (Nat.gcd_dvd_right _ _) (Nat.dvd_mul_left p C)
        have e2 : C * p - (C * p - (C * p - A * D')) = C * p - A * D' := by omega
        rw [e2] at d2 ⊢
        exact Nat.dvd_sub d2 (Nat.gcd_dvd_left _ _)
      have d3 := Nat.dvd_gcd d1 (Nat.gcd_dvd_right (C * p - A * D') p)
      have ca2 : Nat.gcd (A * D') p = 1 := ca
      rw [ca2] at d3
      exact Nat.eq_one_of_dvd_one d3

theorem addT_swap (s t : Bool) (X Y : Nat) : (addT s t X Y).2 = (addT t s Y X).2 := by
  have h : (t == s) = (s == t) := by cases s <;> cases t <;> rfl
  unfold addT
  rw [h]
  by_cases h : (s == t) = true
  · rw [if_pos h, if_pos h]
    exact Nat.add_comm X Y
  · rw [if_neg h, if_neg h]
    by_cases h1 : Y ≤ X
    · rw [if_pos h1]
      by_cases h2 : X ≤ Y
      · rw [if_pos h2]
        simp only
        omega
      · rw [if_neg h2]
    · rw [if_neg h1, if_pos (by omega)]

theorem addT_sign (s t : Bool) (X Y : Nat) (h0 : (addT s t X Y).2 ≠ 0) : (addT s t X Y).1 = (addT t s Y X).1 := by
  have h : (t == s) = (s == t) := by cases s <;> cases t <;> rfl
  unfold addT at *
  rw [h]
  by_cases h : (s == t) = true
  · rw [if_pos h] at *
    rw [if_pos h]
    exact eq_of_beq h
  · rw [if_neg h] at *
    rw [if_neg h]
    have hts : t = !s := by cases s <;> cases t <;> simp_all
    by_cases h1 : Y ≤ X
    · rw [if_pos h1] at *
      simp only [ne_eq] at h0
      rw [if_neg (by omega), hts]
      simp
    · rw [if_neg h1] at *
      rw [if_pos (by omega), hts]

theorem bld_T_comm (s t : Bool) (X Y D : Nat) (hD : 0 < D) : bldR (addT s t X Y).1 (addT s t X Y).2 D = bldR (addT t s Y X).1 (addT t s Y X).2 D := by
  rw [← addT_swap s t X Y]
  by_cases h0 : (addT s t X Y).2 = 0
  · rw [h0, bld_zero _ hD, bld_zero _ hD]
  · rw [addT_sign s t X Y h0]

theorem addR_comm (a b c d : Int) : addR a b c d = addR c d a b := by
  by_cases hv : okR a b = true ∧ okR c d = true
  · have hb := okR_den hv.1
    have hd := okR_den hv.2
    rw [addR_T a b c d hv, addR_T c d a b ⟨hv.2, hv.1⟩, bld_T_comm _ _ _ _ _ (Nat.mul_pos (by omega) (by omega)), Nat.mul_comm b.natAbs]
  · unfold addR
    rw [if_neg hv, if_neg (fun x => hv ⟨x.2, x.1⟩)]

/-- **Add is what the reference says.** -/
theorem add_law (a b c d : Int) : addP a b c d = addR a b c d := by
  by_cases hv : okR a b = true ∧ okR c d = true
  · rw [addR_T a b c d hv]
    unfold addP
    rw [if_pos hv]
    have hb := okR_den hv.1
    have hd := okR_den hv.2
    have c1 : Nat.Coprime a.natAbs b.natAbs := okR_cop hv.1
    have c2 : Nat.Coprime c.natAbs d.natAbs := okR_cop hv.2
    have hbp : 0 < b.natAbs := by omega
    have hdp : 0 < d.natAbs := by omega
    generalize decide (a < 0) = s
    generalize decide (c < 0) = t
    generalize a.natAbs = A at *
    generalize b.natAbs = B at *
    generalize c.natAbs = C at *
    generalize d.natAbs = D at *
    have gp : 0 < Nat.gcd B D := Nat.gcd_pos_of_pos_right _ hdp
    have g1 : Nat.gcd B D ∣ B := Nat.gcd_dvd_left _ _
    have g2 : Nat.gcd B D ∣ D := Nat.gcd_dvd_right _ _
    have k0 : Nat.Coprime (B / Nat.gcd B D) (D / Nat.gcd B D) := Nat.coprime_div_gcd_div_gcd gp
    have eB : Nat.gcd B D * (B / Nat.gcd B D) = B := Nat.mul_div_cancel' g1
    have eD : Nat.gcd B D * (D / Nat.gcd B D) = D := Nat.mul_div_cancel' g2
    generalize Nat.gcd B D = g at *
    generalize B / g = p at *
    generalize hq : D / g = q at *
    have eX : A * D = g * (A * q) := by rw [← eD, Nat.mul_left_comm]
    have eY : C * B = g * (C * p) := by rw [← eB, Nat.mul_left_comm]
    have eBD : B * D = g * (p * D) := by rw [← eB, Nat.mul_assoc]
    rw [eX, eY, addT_scale _ _ _ _ _ gp, eBD, bld_scale _ gp]
    have t1 : Nat.Coprime (addT s t (A * q) (C * p)).2 p := cop_T eB c1 q k0
    have t2 : Nat.Coprime (addT s t (A * q) (C * p)).2 q := by
      rw [addT_swap]
      exact cop_T eD c2 p k0.symm
    generalize (addT s t (A * q) (C * p)).1 = ng
    generalize (addT s t (A * q) (C * p)).2 = T at *
    unfold addG
    by_cases h0 : T = 0
    · rw [if_pos h0, h0, bld_zero _ (Nat.mul_pos (by
        rcases Nat.eq_zero_or_pos p with h | h
        · rw [h, Nat.mul_zero] at eB; omega
        · exact h) hdp)]
    · rw [if_neg h0]
      have hgT : Nat.gcd g (T % g) = Nat.gcd g T := by
        rw [Nat.gcd_comm g (T % g), ← Nat.gcd_rec]
      rw [hgT]
      have hp : 0 < Nat.gcd g T := Nat.gcd_pos_of_pos_left _ gp
      have h1 : Nat.gcd g T ∣ g := Nat.gcd_dvd_left _ _
      have h2 : Nat.gcd g T ∣ T := Nat.gcd_dvd_right _ _
      have k1 : Nat.Coprime (g / Nat.gcd g T) (T / Nat.gcd g T) := Nat.coprime_div_gcd_div_gcd hp
      have eBp : B / g = p := by rw [← eB, Nat.mul_div_cancel_left _ gp]
      rw [eBp]
      generalize Nat.gcd g T = h at *
      have eDh : D / h = g / h * q := by rw [← eD, Nat.mul_comm, Nat.mul_div_assoc _ h1, Nat.mul_comm]
      have eT : T = h * (T / h) := (Nat.mul_div_cancel' h2).symm
      have eP : p * D = h * (p * (D / h)) := by
        rw [Nat.mul_left_comm, Nat.mul_div_cancel' (Nat.dvd_trans h1 ⟨q, eD.symm⟩)]
      have cc : Nat.gcd (T / h) (p * (D / h)) = 1 := by
        rw [eDh]
        exact Nat.Coprime.mul_right (cop_div_left t1 h2) (Nat.Coprime.mul_right k1.symm (cop_div_left t2 h2))
      rw [bld_red (N := T) (D := p * D) hp eT eP cc]
      generalize T / h = X
      generalize p * (D / h) = Y
      split
      · unfold ofR
        rw [if_neg (by omega)]
      · rfl
  · unfold addP addR
    rw [if_neg hv, if_neg hv]

/-- What Make returns is valid. -/
theorem mk_valid (num den : Int) (h1 : num ≤ 9223372036854775807) (h0 : -9223372036854775808 ≤ num) :
    In64 (mkR num den).1 ∧ In64 (mkR num den).2.1 ∧ ((mkR num den).2.2 = 0 → okR (mkR num den).1 (mkR num den).2.1 = true) := by
  unfold mkR
  by_cases hz : den = 0
  · rw [if_pos hz]
    unfold In64
    simp
  · rw [if_neg hz]
    unfold bldR
    generalize (!(decide (num < 0) == decide (den < 0))) = s
    have gp : 0 < Nat.gcd num.natAbs den.natAbs := Nat.gcd_pos_of_pos_right _ (by omega)
    have k1 : Nat.Coprime (num.natAbs / Nat.gcd num.natAbs den.natAbs) (den.natAbs / Nat.gcd num.natAbs den.natAbs) := Nat.coprime_div_gcd_div_gcd gp
    have hd0 : 0 < den.natAbs / Nat.gcd num.natAbs den.natAbs := Nat.div_pos (Nat.gcd_le_right _ (by omega)) gp
    generalize num.natAbs / Nat.gcd num.natAbs den.natAbs = N at *
    generalize den.natAbs / Nat.gcd num.natAbs den.natAbs = D at *
    unfold ofR
    by_cases hf : N ≤ 9223372036854775807 ∧ D ≤ 9223372036854775807
    · rw [if_pos hf]
      simp only
      have hs : (if s = true then -(N : Int) else N).natAbs = N := by split <;> omega
      refine ⟨?_, ?_, fun _ => ?_⟩
      · unfold In64; split <;> omega
      · unfold In64; omega
      · unfold okR
        rw [hs, Int.natAbs_natCast]
        simp only [Bool.and_eq_true, decide_eq_true_eq]
        exact ⟨by omega, by split <;> omega, k1⟩
    · rw [if_neg hf]
      unfold In64
      simp

theorem cmp_neg (a b c d : Int) : cmpR c d a b = -cmpR a b c d := by
  unfold cmpR
  split <;> split <;> (try split) <;> omega

theorem cmp_zero {a b c d : Int} (h1 : okR a b = true) (h2 : okR c d = true) : (cmpR a b c d = 0) ↔ (a = c ∧ b = d) := by
  have hb := okR_den h1
  have hd := okR_den h2
  have c1 : Nat.Coprime a.natAbs b.natAbs := okR_cop h1
  have c2 : Nat.Coprime c.natAbs d.natAbs := okR_cop h2
  constructor
  · intro h
    have he : a * d = c * b := by
      unfold cmpR at h
      split at h
      · omega
      · split at h <;> omega
    have hn : a.natAbs * d.natAbs = c.natAbs * b.natAbs := by rw [← Int.natAbs_mul, ← Int.natAbs_mul, he]
    have e1 : b.natAbs ∣ d.natAbs := by
      refine c1.symm.dvd_of_dvd_mul_left (m := a.natAbs) ?_
      rw [hn]
      exact Nat.dvd_mul_left _ _
    have e2 : d.natAbs ∣ b.natAbs := by
      refine c2.symm.dvd_of_dvd_mul_left (m := c.natAbs) ?_
      rw [← hn]
      exact Nat.dvd_mul_left _ _
    have e3 : b = d := by have := Nat.dvd_antisymm e1 e2; omega
    refine ⟨?_, e3⟩
    rw [← e3] at he
    exact Int.eq_of_mul_eq_mul_right (by omega) he
  · rintro ⟨rfl, rfl⟩
    unfold cmpR
    rw [if_neg (by omega), if_neg (by omega)]

theorem cmp_le {a b c d : Int} : cmpR a b c d ≤ 0 ↔ a * d ≤ c * b := by
  unfold cmpR
  split
  · omega
  · split <;> omega
theorem cmp_lt {a b c d : Int} : cmpR a b c d < 0 ↔ a * d < c * b := by
  unfold cmpR
  split
  · omega
  · split <;> omega

theorem le_trans3 {a b c d e f : Int} (hb : 0 < b) (hd : 0 < d) (hf : 0 < f) (h1 : a * d ≤ c * b) (h2 : c * f ≤ e * d) : a * f ≤ e * b ∧ ((a * d < c * b ∨ c * f < e * d) → a * f < e * b) := by
  have m1 : a * d * f ≤ c * b * f := Int.mul_le_mul_of_nonneg_right h1 (by omega)
  have m2 : c * f * b ≤ e * d * b := Int.mul_le_mul_of_nonneg_right h2 (by omega)
  have e1 : a * d * f = a * f * d := Int.mul_right_comm _ _ _
  have e2 : c * b * f = c * f * b := Int.mul_right_comm _ _ _
  have e3 : e * d * b = e * b * d := Int.mul_right_comm _ _ _
  refine ⟨?_, fun h => ?_⟩
  · have : a * f * d ≤ e * b * d := by omega
    exact Int.le_of_mul_le_mul_right this hd
  · have : a * f * d < e * b * d := by
      rcases h with h | h
      · have m3 : a * d * f < c * b * f := Int.mul_lt_mul_of_pos_right h hf
        omega
      · have m3 : c * f * b < e * d * b := Int.mul_lt_mul_of_pos_right h hb
        omega
    exact Int.lt_of_mul_lt_mul_right this (by omega)

/-- Cmp is a total order. -/
theorem cmp_trans {a b c d e f : Int} (hb : 0 < b) (hd : 0 < d) (hf : 0 < f) (h1 : cmpR a b c d ≤ 0) (h2 : cmpR c d e f ≤ 0) :
    cmpR a b e f ≤ 0 ∧ ((cmpR a b c d < 0 ∨ cmpR c d e f < 0) → cmpR a b e f < 0) := by
  rw [cmp_le] at h1 h2 ⊢
  simp only [cmp_lt]
  exact le_trans3 hb hd hf h1 h2
end Go.Ab
