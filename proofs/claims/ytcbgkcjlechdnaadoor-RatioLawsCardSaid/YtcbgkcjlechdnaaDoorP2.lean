/- Plain law of fractions of small numbers: sums and products are associative and distributive. -/
import Derived.Test.YtcbgkcjlechdnaaDoorP1
set_option linter.unusedSimpArgs false
set_option linter.unusedVariables false
set_option linter.unusedSectionVars false
namespace Go.Ab
open Go

theorem bld_val (s : Bool) {T D : Nat} (hD : 0 < D) (hT : T ≤ 9223372036854775807) (hD2 : D ≤ 9223372036854775807) :
    ∃ n m : Int, bldR s T D = (n, m, 0) ∧ okR n m = true ∧ n * (D : Int) = (if s = true then -(T : Int) else T) * m ∧ n.natAbs ≤ T ∧ m.natAbs ≤ D := by
  unfold bldR
  have gp : 0 < Nat.gcd T D := Nat.gcd_pos_of_pos_right _ hD
  have k1 : Nat.Coprime (T / Nat.gcd T D) (D / Nat.gcd T D) := Nat.coprime_div_gcd_div_gcd gp
  have e1 : Nat.gcd T D * (T / Nat.gcd T D) = T := Nat.mul_div_cancel' (Nat.gcd_dvd_left _ _)
  have e2 : Nat.gcd T D * (D / Nat.gcd T D) = D := Nat.mul_div_cancel' (Nat.gcd_dvd_right _ _)
  have hd0 : 0 < D / Nat.gcd T D := Nat.div_pos (Nat.gcd_le_right _ hD) gp
  have l1 := Nat.div_le_self T (Nat.gcd T D)
  have l2 := Nat.div_le_self D (Nat.gcd T D)
  generalize T / Nat.gcd T D = N at *
  generalize D / Nat.gcd T D = M at *
  generalize Nat.gcd T D = g at *
  unfold ofR
  rw [if_pos ⟨by omega, by omega⟩]
  have hs : (if s = true then -(N : Int) else N).natAbs = N := by split <;> omega
  refine ⟨_, _, rfl, ?_, ?_, by rw [hs]; exact l1, by omega⟩
  · unfold okR
    rw [hs, Int.natAbs_natCast]
    simp only [Bool.and_eq_true, decide_eq_true_eq]
    exact ⟨by omega, by split <;> omega, k1⟩
  · rw [← e2, ← e1, Int.natCast_mul, Int.natCast_mul]
    split
    · rw [Int.neg_mul, Int.neg_mul, Int.mul_left_comm, Int.mul_assoc]
    · rw [Int.mul_left_comm, Int.mul_assoc]

theorem addT_int {a b c d : Int} (hb : 0 < b) (hd : 0 < d) :
    (if (addT (decide (a < 0)) (decide (c < 0)) (a.natAbs * d.natAbs) (c.natAbs * b.natAbs)).1 = true then -((addT (decide (a < 0)) (decide (c < 0)) (a.natAbs * d.natAbs) (c.natAbs * b.natAbs)).2 : Int)
      else ((addT (decide (a < 0)) (decide (c < 0)) (a.natAbs * d.natAbs) (c.natAbs * b.natAbs)).2 : Int)) = a * d + c * b := by
  have e1 : (a < 0 ∧ a * d = -((a.natAbs * d.natAbs : Nat) : Int)) ∨ (¬ a < 0 ∧ a * d = ((a.natAbs * d.natAbs : Nat) : Int)) := by
    rcases Int.lt_or_le a 0 with h | h
    · refine .inl ⟨h, ?_⟩
      rw [Int.natCast_mul, ← Int.neg_mul]; congr 1 <;> omega
    · refine .inr ⟨by omega, ?_⟩
      rw [Int.natCast_mul]; congr 1 <;> omega
  have e2 : (c < 0 ∧ c * b = -((c.natAbs * b.natAbs : Nat) : Int)) ∨ (¬ c < 0 ∧ c * b = ((c.natAbs * b.natAbs : Nat) : Int)) := by
    rcases Int.lt_or_le c 0 with h | h
    · refine .inl ⟨h, ?_⟩
      rw [Int.natCast_mul, ← Int.neg_mul]; congr 1 <;> omega
    · refine .inr ⟨by omega, ?_⟩
      rw [Int.natCast_mul]; congr 1 <;> omega
  generalize a * d = x at *
  generalize c * b = y at *
  generalize a.natAbs * d.natAbs = X at *
  generalize c.natAbs * b.natAbs = Y at *
  rcases e1 with ⟨h1, rfl⟩ | ⟨h1, rfl⟩ <;> rcases e2 with ⟨h2, rfl⟩ | ⟨h2, rfl⟩ <;> simp only [addT, h1, h2, decide_true, decide_false, beq_self_eq_true, if_true, Bool.true_beq, Bool.false_beq, Bool.not_true, Bool.not_false, Bool.false_eq_true, if_false]
  · omega
  · split <;> simp only [if_true, Bool.false_eq_true, if_false] <;> omega
  · split <;> simp only [if_true, Bool.false_eq_true, if_false] <;> omega
  · omega

theorem addT_le {s t : Bool} {X Y : Nat} : (addT s t X Y).2 ≤ X + Y := by
  unfold addT
  split
  · exact Nat.le_refl _
  · split
    · simp only; omega
    · simp only; omega

theorem add_val {a b c d : Int} (h1 : okR a b = true) (h2 : okR c d = true) (hs : a.natAbs * d.natAbs + c.natAbs * b.natAbs ≤ 9223372036854775807) (hD : b.natAbs * d.natAbs ≤ 9223372036854775807) :
    ∃ n m : Int, addR a b c d = (n, m, 0) ∧ okR n m = true ∧ n * (b * d) = (a * d + c * b) * m ∧ n.natAbs ≤ a.natAbs * d.natAbs + c.natAbs * b.natAbs ∧ m.natAbs ≤ b.natAbs * d.natAbs := by
  have hb := okR_den h1
  have hd := okR_den h2
  rw [addR_T a b c d ⟨h1, h2⟩]
  have hl := addT_le (s := decide (a < 0)) (t := decide (c < 0)) (X := a.natAbs * d.natAbs) (Y := c.natAbs * b.natAbs)
  have hi := addT_int (a := a) (c := c) hb hd
  obtain ⟨n, m, e, ok, ev, l1, l2⟩ := bld_val (addT (decide (a < 0)) (decide (c < 0)) (a.natAbs * d.natAbs) (c.natAbs * b.natAbs)).1
    (T := (addT (decide (a < 0)) (decide (c < 0)) (a.natAbs * d.natAbs) (c.natAbs * b.natAbs)).2) (D := b.natAbs * d.natAbs) (Nat.mul_pos (by omega) (by omega)) (Nat.le_trans hl hs) hD
  refine ⟨n, m, e, ok, ?_, Nat.le_trans l1 hl, l2⟩
  rw [hi] at ev
  rw [← ev, Int.natCast_mul]
  congr 2 <;> omega

theorem mul_val {a b c d : Int} (h1 : okR a b = true) (h2 : okR c d = true) (hs : a.natAbs * c.natAbs ≤ 9223372036854775807) (hD : b.natAbs * d.natAbs ≤ 9223372036854775807) :
    ∃ n m : Int, mulR a b c d = (n, m, 0) ∧ okR n m = true ∧ n * (b * d) = a * c * m ∧ n.natAbs ≤ a.natAbs * c.natAbs ∧ m.natAbs ≤ b.natAbs * d.natAbs := by
  have hb := okR_den h1
  have hd := okR_den h2
  unfold mulR
  rw [if_pos ⟨h1, h2⟩]
  obtain ⟨n, m, e, ok, ev, l1, l2⟩ := bld_val (!(decide (a < 0) == decide (c < 0))) (T := a.natAbs * c.natAbs) (D := b.natAbs * d.natAbs) (Nat.mul_pos (by omega) (by omega)) hs hD
  refine ⟨n, m, e, ok, ?_, l1, l2⟩
  have hi : (if (!(decide (a < 0) == decide (c < 0))) = true then -((a.natAbs * c.natAbs : Nat) : Int) else ((a.natAbs * c.natAbs : Nat) : Int)) = a * c := by
    rcases Int.lt_or_le a 0 with h | h <;> rcases Int.lt_or_le c 0 with h' | h'
    · rw [if_neg (by simp [h, h']), Int.natCast_mul, show (a.natAbs : Int) = -a by omega, show (c.natAbs : Int) = -c by omega, Int.neg_mul_neg]
    · rw [if_pos (by simp [h, show ¬ c < 0 by omega]), Int.natCast_mul, show (a.natAbs : Int) = -a by omega, show (c.natAbs : Int) = c by omega, Int.neg_mul, Int.neg_neg]
    · rw [if_pos (by simp [h', show ¬ a < 0 by omega]), Int.natCast_mul, show (a.natAbs : Int) = a by omega, show (c.natAbs : Int) = -c by omega, Int.mul_neg, Int.neg_neg]
    · rw [if_neg (by simp [show ¬ a < 0 by omega, show ¬ c < 0 by omega]), Int.natCast_mul, show (a.natAbs : Int) = a by omega, show (c.natAbs : Int) = c by omega]
  rw [hi] at ev
  rw [← ev, Int.natCast_mul]
  congr 2 <;> omega

/-- n/m = N/D. -/
def Val (n m N D : Int) : Prop := n * D = N * m

theorem Val.add {n m a b c d N1 D1 N2 D2 : Int} (hb : b ≠ 0) (hd : d ≠ 0) (h1 : Val a b N1 D1) (h2 : Val c d N2 D2) (h : n * (b * d) = (a * d + c * b) * m) : Val n m (N1 * D2 + N2 * D1) (D1 * D2) := by
  unfold Val at *
  have hbd : b * d ≠ 0 := Int.mul_ne_zero hb hd
  refine Int.eq_of_mul_eq_mul_right hbd ?_
  have e1 : n * (D1 * D2) * (b * d) = n * (b * d) * (D1 * D2) := Int.mul_right_comm _ _ _
  rw [e1, h]
  have e2 : (a * d + c * b) * m * (D1 * D2) = (a * D1) * (d * m * D2) + (c * D2) * (b * m * D1) := by
    simp only [Int.add_mul, Int.mul_add, Int.mul_assoc, Int.mul_comm, Int.mul_left_comm]
  rw [e2, h1, h2]
  simp only [Int.add_mul, Int.mul_add, Int.mul_assoc, Int.mul_comm, Int.mul_left_comm]

theorem Val.mul {n m a b c d N1 D1 N2 D2 : Int} (hb : b ≠ 0) (hd : d ≠ 0) (h1 : Val a b N1 D1) (h2 : Val c d N2 D2) (h : n * (b * d) = a * c * m) : Val n m (N1 * N2) (D1 * D2) := by
  unfold Val at *
  have hbd : b * d ≠ 0 := Int.mul_ne_zero hb hd
  refine Int.eq_of_mul_eq_mul_right hbd ?_
  have e1 : n * (D1 * D2) * (b * d) = n * (b * d) * (D1 * D2) := Int.mul_right_comm _ _ _
  rw [e1, h]
  have e2 : a * c * m * (D1 * D2) = (a * D1) * ((c * D2) * m) := by
    simp only [Int.mul_assoc, Int.mul_comm, Int.mul_left_comm]
  rw [e2, h1, h2]
  simp only [Int.mul_assoc, Int.mul_comm, Int.mul_left_comm]

theorem Val.same {n m n' m' N D N' D' : Int} (hD : D ≠ 0) (hD' : D' ≠ 0) (h : Val n m N D) (h' : Val n' m' N' D') (e : N * D' = N' * D) : n * m' = n' * m := by
  unfold Val at *
  refine Int.eq_of_mul_eq_mul_right (Int.mul_ne_zero hD hD') ?_
  have e1 : n * m' * (D * D') = n * D * (m' * D') := by simp only [Int.mul_assoc, Int.mul_comm, Int.mul_left_comm]
  have e2 : n' * m * (D * D') = n' * D' * (m * D) := by simp only [Int.mul_assoc, Int.mul_comm, Int.mul_left_comm]
  rw [e1, e2, h, h']
  have e3 : N * m * (m' * D') = N * D' * (m * m') := by simp only [Int.mul_assoc, Int.mul_comm, Int.mul_left_comm]
  have e4 : N' * m' * (m * D) = N' * D * (m * m') := by simp only [Int.mul_assoc, Int.mul_comm, Int.mul_left_comm]
  rw [e3, e4, e]

theorem okR_same {a b c d : Int} (h1 : okR a b = true) (h2 : okR c d = true) (h : a * d = c * b) : a = c ∧ b = d := by
  refine (cmp_zero h1 h2).1 ?_
  unfold cmpR
  rw [if_neg (by omega), if_neg (by omega)]

theorem mul_le {x y X Y : Nat} (hx : x ≤ X) (hy : y ≤ Y) : x * y ≤ X * Y := Nat.mul_le_mul hx hy

/-- **Sums are associative, products distributive.** -/
theorem laws_val {a1 a2 b1 b2 c1 c2 : Int} (va : okR a1 a2 = true) (vb : okR b1 b2 = true) (vc : okR c1 c2 = true)
    (la1 : a1.natAbs ≤ 32768) (la2 : a2.natAbs ≤ 32768) (lb1 : b1.natAbs ≤ 32768) (lb2 : b2.natAbs ≤ 32768) (lc1 : c1.natAbs ≤ 32768) (lc2 : c2.natAbs ≤ 32768) :
    ∃ d1 d2 e1 e2 x1 x2 p1 p2 q1 q2 r1 r2 : Int, addR a1 a2 b1 b2 = (d1, d2, 0) ∧ addR b1 b2 c1 c2 = (e1, e2, 0) ∧ addR d1 d2 c1 c2 = (x1, x2, 0) ∧ addR a1 a2 e1 e2 = (x1, x2, 0) ∧
      mulR a1 a2 e1 e2 = (p1, p2, 0) ∧ mulR a1 a2 b1 b2 = (q1, q2, 0) ∧ mulR a1 a2 c1 c2 = (r1, r2, 0) ∧ addR q1 q2 r1 r2 = (p1, p2, 0) ∧
      (d1.natAbs ≤ 2147483648 ∧ d2.natAbs ≤ 2147483648 ∧ e1.natAbs ≤ 2147483648 ∧ e2.natAbs ≤ 2147483648 ∧ q1.natAbs ≤ 2147483648 ∧ q2.natAbs ≤ 2147483648 ∧ r1.natAbs ≤ 2147483648 ∧ r2.natAbs ≤ 2147483648) := by
  have a0 := okR_den va
  have b0 := okR_den vb
  have c0 := okR_den vc
  have m1 := mul_le la1 lb2
  have m2 := mul_le lb1 la2
  have m3 := mul_le la2 lb2
  have m4 := mul_le lb1 lc2
  have m5 := mul_le lc1 lb2
  have m6 := mul_le lb2 lc2
  obtain ⟨d1, d2, ed, vd, hd, ld1, ld2⟩ := add_val va vb (by omega) (by omega)
  obtain ⟨e1, e2, ee, ve, he, le1, le2⟩ := add_val vb vc (by omega) (by omega)
  have d0 := okR_den vd
  have e0 := okR_den ve
  have ld1' : d1.natAbs ≤ 2147483648 := by omega
  have ld2' : d2.natAbs ≤ 1073741824 := by omega
  have le1' : e1.natAbs ≤ 2147483648 := by omega
  have le2' : e2.natAbs ≤ 1073741824 := by omega
  have m7 := mul_le ld1' lc2
  have m8 := mul_le lc1 ld2'
  have m9 := mul_le ld2' lc2
  have m10 := mul_le la1 le2'
  have m11 := mul_le le1' la2
  have m12 := mul_le la2 le2'
  have m13 := mul_le la1 le1'
  obtain ⟨x1, x2, ex, vx, hx, _, _⟩ := add_val vd vc (by omega) (by omega)
  obtain ⟨y1, y2, ey, vy, hy, _, _⟩ := add_val va ve (by omega) (by omega)
  obtain ⟨p1, p2, ep, vp, hp, _, _⟩ := mul_val va ve (by omega) (by omega)
  have m14 := mul_le la1 lb1
  have m15 := mul_le la1 lc1
  have m16 := mul_le la2 lc2
  obtain ⟨q1, q2, eq, vq, hq, lq1, lq2⟩ := mul_val va vb (by omega) (by omega)
  obtain ⟨r1, r2, er, vr, hr, lr1, lr2⟩ := mul_val va vc (by omega) (by omega)
  have q0 := okR_den vq
  have r0 := okR_den vr
  have lq1' : q1.natAbs ≤ 1073741824 := by omega
  have lq2' : q2.natAbs ≤ 1073741824 := by omega
  have lr1' : r1.natAbs ≤ 1073741824 := by omega
  have lr2' : r2.natAbs ≤ 1073741824 := by omega
  have m17 := mul_le lq1' lr2'
  have m18 := mul_le lr1' lq2'
  have m19 := mul_le lq2' lr2'
  obtain ⟨s1, s2, es, vs, hs, _, _⟩ := add_val vq vr (by omega) (by omega)
  have Va : Val a1 a2 a1 a2 := rfl
  have Vb : Val b1 b2 b1 b2 := rfl
  have Vc : Val c1 c2 c1 c2 := rfl
  have Vd := Val.add (by omega) (by omega) Va Vb hd
  have Ve := Val.add (by omega) (by omega) Vb Vc he
  have Vx := Val.add (by omega) (by omega) Vd Vc hx
  have Vy := Val.add (by omega) (by omega) Va Ve hy
  have Vp := Val.mul (by omega) (by omega) Va Ve hp
  have Vq := Val.mul (by omega) (by omega) Va Vb hq
  have Vr := Val.mul (by omega) (by omega) Va Vc hr
  have Vs := Val.add (by omega) (by omega) Vq Vr hs
  have za : a2 ≠ 0 := by omega
  have zb : b2 ≠ 0 := by omega
  have zc : c2 ≠ 0 := by omega
  have hxy := Val.same (Int.mul_ne_zero (Int.mul_ne_zero za zb) zc) (Int.mul_ne_zero za (Int.mul_ne_zero zb zc)) Vx Vy (by
    simp only [Int.add_mul, Int.mul_add, Int.mul_assoc, Int.mul_comm, Int.mul_left_comm, Int.add_assoc, Int.add_comm, Int.add_left_comm])
  have hps := Val.same (Int.mul_ne_zero za (Int.mul_ne_zero zb zc)) (Int.mul_ne_zero (Int.mul_ne_zero za zb) (Int.mul_ne_zero za zc)) Vp Vs (by
    simp only [Int.add_mul, Int.mul_add, Int.mul_assoc, Int.mul_comm, Int.mul_left_comm, Int.add_assoc, Int.add_comm, Int.add_left_comm])
  obtain ⟨g1, g2⟩ := okR_same vx vy hxy
  obtain ⟨g3, g4⟩ := okR_same vp vs hps
  subst g1 g2 g3 g4
  exact ⟨d1, d2, e1, e2, x1, x2, p1, p2, q1, q2, r1, r2, ed, ee, ex, ey, ep, eq, er, es, by omega, by omega, by omega, by omega, by omega, by omega, by omega, by omega⟩

/-- A fraction of small numbers. -/
theorem of_small {n d : Int} (hn : n.natAbs ≤ 32768) (hd : d.natAbs ≤ 32768) : okR (ofQ n d).1 (ofQ n d).2 = true ∧ (ofQ n d).1.natAbs ≤ 32768 ∧ (ofQ n d).2.natAbs ≤ 32768 := by
  unfold ofQ mkR
  by_cases hz : d = 0
  · rw [if_pos hz]
    decide
  · rw [if_neg hz]
    obtain ⟨x, y, e, ok, _, l1, l2⟩ := bld_val (!(decide (n < 0) == decide (d < 0))) (T := n.natAbs) (D := d.natAbs) (by omega) (by omega) (by omega)
    rw [e]
    simp only [if_true]
    exact ⟨ok, by omega, by omega⟩
end Go.Ab
