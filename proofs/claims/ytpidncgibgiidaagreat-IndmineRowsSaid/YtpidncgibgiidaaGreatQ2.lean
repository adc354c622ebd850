/- Several texts in one: C2, C3, C4, P3, M1, C5, C6, C7, C8, C9, P6, CA, CB, CC, CD, J1, J2, DA, DB, DC, DD, DE, DF, DG, DO. -/
import Derived.Test.YtpidncgibgiidaaGreatQ1
import Derived.Test.YtpidncgibgiidaaGreatZ7
import Derived.Test.YtpidncgibgiidaaGreatZ10
import Derived.Test.YtpidncgibgiidaaGreatZ17
import Derived.Test.YtpidncgibgiidaaGreatZ18
set_option linter.unusedSimpArgs false
set_option linter.unusedVariables false
set_option linter.unusedSectionVars false
set_option maxHeartbeats 4000000
set_option maxRecDepth 20000
namespace Go.Ab.A15
open Go Go.Ab Go.Ab.A34
def chkF (db : List Tb) : Nat → Nat → Int
  | 0, _ => 0
  | g + 1, i => if ¬ validS (db.getD i t0) = 0 then validS (db.getD i t0) else if 0 ≤ tabI (db.getD i t0).name 0 (db.take i) then 5 else chkF db g (i + 1)
def chkS (db : List Tb) : Int := if 50 < db.length then 3 else chkF db db.length 0
def dpF (l : List Dp) (i : Nat) : List SV := dC (l.getD i d0)
abbrev DpL (l : List Dp) : SV := .fl l.length 4 (dpF l)
structure OkD (d : Dp) : Prop where
  l : d.l.length ≤ 9223372036854775807
  r : d.r.length ≤ 9223372036854775807
end Go.Ab.A15
def Go.Ab.zC2_1 : Go.Ab.OZ := (.one 0 [0, 1, 4, 9, 10, 11] (.one 1 [1, 4, 9, 10, 11] (.one 2 [2, 3, 4, 9, 10, 11] (.one 3 [3, 4, 9, 10, 11] (.one 4 [4, 9, 10, 11] (.one 5 [5, 6, 9, 10, 11] (.one 6 [6, 9, 10, 11] (.one 7 [7, 8, 9, 10, 11] (.one 8 [8, 9, 10, 11] (.one 9 [9, 10, 11] (.one 10 [10, 11] (.one 11 [11] .done))))))))))))
def Go.Ab.zC2_2 : Go.Ab.OZ := (.one 0 [0, 1, 2, 6, 7, 8, 9, 10, 11, 12, 13, 14, 15, 16, 17, 18, 19, 20, 21, 22, 23, 24, 25, 26, 27, 28, 29, 30, 31, 32] (.one 1 [1, 2, 6, 7, 8, 9, 10, 11, 12, 13, 14, 15, 16, 17, 18, 19, 20, 21, 22, 23, 24, 25, 26, 27, 28, 29, 30, 31, 32] (.one 2 [2, 6, 7, 8, 9, 10, 11, 12, 13, 14, 15, 16, 17, 18, 19, 20, 21, 22, 23, 24, 25, 26, 27, 28, 29, 30, 31, 32] (.one 3 [3, 4, 5, 6, 7, 8, 9, 10, 11, 12, 13, 14, 15, 16, 17, 18, 19, 20, 21, 22, 23, 24, 25, 26, 27, 28, 29, 30, 31, 32] (.one 4 [4, 5, 6, 7, 8, 9, 10, 11, 12, 13, 14, 15, 16, 17, 18, 19, 20, 21, 22, 23, 24, 25, 26, 27, 28, 29, 30, 31, 32] (.one 5 [5, 6, 7, 8, 9, 10, 11, 12, 13, 14, 15, 16, 17, 18, 19, 20, 21, 22, 23, 24, 25, 26, 27, 28, 29, 30, 31, 32] (.one 6 [6, 7, 8, 9, 10, 11, 12, 13, 14, 15, 16, 17, 18, 19, 20, 21, 22, 23, 24, 25, 26, 27, 28, 29, 30, 31, 32] (.one 7 [7, 8, 9, 10, 11, 12, 13, 14, 15, 16, 17, 18, 19, 20, 21, 22, 23, 24, 25, 26, 27, 28, 29, 30, 31, 32] (.one 8 [8, 9, 17, 18, 19, 20, 21, 22, 23, 24, 25, 26, 27, 28, 29, 30, 31, 32] (.one 9 [9, 17, 18, 19, 20, 21, 22, 23, 24, 25, 26, 27, 28, 29, 30, 31, 32] (.one 10 [10, 11, 13, 14, 15, 16, 17, 18, 19, 20, 21, 22, 23, 24, 25, 26, 27, 28, 29, 30, 31, 32] (.one 11 [11, 13, 14, 15, 16, 17, 18, 19, 20, 21, 22, 23, 24, 25, 26, 27, 28, 29, 30, 31, 32] (.one 12 [12, 13, 14, 15, 16, 17, 18, 19, 20, 21, 22, 23, 24, 25, 26, 27, 28, 29, 30, 31, 32] (.one 13 [13, 14, 15, 16, 17, 18, 19, 20, 21, 22, 23, 24, 25, 26, 27, 28, 29, 30, 31, 32] (.one 14 [14, 15, 16, 17, 18, 19, 20, 21, 22, 23, 24, 25, 26, 27, 28, 29, 30, 31, 32] (.one 15 [15, 16, 17, 18, 19, 20, 21, 22, 23, 24, 25, 26, 27, 28, 29, 30, 31, 32] (.one 16 [16, 17, 18, 19, 20, 21, 22, 23, 24, 25, 26, 27, 28, 29, 30, 31, 32] (.one 17 [17, 18, 19, 20, 21, 22, 23, 24, 25, 26, 27, 28, 29, 30, 31, 32] (.one 18 [18, 19, 20, 21, 22, 23, 24, 25, 26, 27, 28, 29, 30, 31, 32] (.one 19 [19, 20, 21, 22, 23, 24, 25, 26, 27, 28, 29, 30, 31, 32] (.one 20 [20, 21, 22, 23, 24, 25, 26, 27, 28, 29, 30, 31, 32] (.one 21 [21, 22, 30, 31, 32] (.one 22 [22, 30, 31, 32] (.one 23 [23, 24, 26, 27, 28, 29, 30, 31, 32] (.one 24 [24, 26, 27, 28, 29, 30, 31, 32] (.one 25 [25, 26, 27, 28, 29, 30, 31, 32] (.one 26 [26, 27, 28, 29, 30, 31, 32] (.one 27 [27, 28, 29, 30, 31, 32] (.one 28 [28, 29, 30, 31, 32] (.one 29 [29, 30, 31, 32] (.one 30 [30, 31, 32] (.one 31 [31, 32] (.one 32 [32] .done)))))))))))))))))))))))))))))))))
namespace Go.Proofs.YtpidncgibgiidaaGreat
open Go Go.Ab Go.Ab.A34 Go.Ab.A15
variable [Gl] [Tabs]
theorem fits_p (db : List Tb) (d : Dp) (hdb : db.length ≤ 9223372036854775807) (hd : OkD d) : PCall Tryz.prog 136 [DB db, DV d] (I64 (fitsS db d)) := by
  obtain ⟨df, dl, dt, dr⟩ := d
  obtain ⟨h1, h2⟩ := hd
  simp only at h1 h2
  obtain ⟨R, hR⟩ : ∃ R, R = fitsS db ⟨df, dl, dt, dr⟩ := ⟨_, rfl⟩
  rw [← hR]
  unfold fitsS at hR
  simp only at hR ⊢
  have cf := find_p df db db.length hdb rfl (tF db) (fun i hi => rfl)
  have ct := find_p dt db db.length hdb rfl (tF db) (fun i hi => rfl)
  rcases tabI_is (x := df) (l := db) (i := 0) with ⟨e1, _⟩ | ⟨jf, e1, f1, _⟩
  · rw [e1] at hR cf
    rw [if_pos (.inl (by omega))] at hR
    subst hR
    generalize tabI dt 0 db = q at *
    refine Call.enter' (N := 64) (rs := [.tmp 4]) Tryz.func136 rfl rfl rfl (by decide) rfl ?_; simp only [argT]; have hD : (0 : Nat) = 0 := rfl
    repeat' first | (refine SW.seq_k fun K hK => ?_) | ((first | refine SW.region ?_ | refine SW.regionZ (id := 1) (Checked.mixed Tryz.checked) Go.Ab.zC2_1 (by kernel_rfl) ?_ | refine SW.cond ?_ | refine SW.ret ?_ | refine ⟨_, cf, ?_⟩ | refine ⟨_, ct, ?_⟩ | (refine allF_i fun b hb => ?_; replace hD := And.intro hb hD; clear hb; try simp only [fresh_cons, fresh_nil, and_true, ne_eq, neF] at hD)); try simp only [Go.Ab.zC2_1, go_sem, hD, true_implies]) | (refine ifI (fun hc => ?_) (fun hc => ?_) <;> first | (exfalso; omega) | skip) | (apply hK; clear hK K)
    refine ret_pure ?_; simp only [resL_tmp, resL_nil, tupOf, go_sem, hD]
  rw [Nat.zero_add] at e1
  rw [e1] at hR cf
  have n1 : ¬ ((jf : Nat) : Int) < 0 := by omega
  have z1 : ((jf : Nat) : Int).toNat = jf := Int.toNat_natCast _
  have p1 : (0 : Int) ≤ ((jf : Nat) : Int) := by omega
  have l1 : ((jf : Nat) : Int) < ((db.length : Nat) : Int) := by omega
  have tf1 : tF db jf = tC (db.getD jf t0) := rfl
  rw [z1] at hR
  rcases tabI_is (x := dt) (l := db) (i := 0) with ⟨e2, _⟩ | ⟨jt, e2, f2, _⟩
  · rw [e2] at hR ct
    rw [if_pos (.inr (by omega))] at hR
    subst hR
    refine Call.enter' (N := 64) (rs := [.tmp 4]) Tryz.func136 rfl rfl rfl (by decide) rfl ?_; simp only [argT]; have hD : (0 : Nat) = 0 := rfl
    repeat' first | (refine SW.seq_k fun K hK => ?_) | ((first | refine SW.region ?_ | refine SW.regionZ (id := 1) (Checked.mixed Tryz.checked) Go.Ab.zC2_1 (by kernel_rfl) ?_ | refine SW.cond ?_ | refine SW.ret ?_ | refine ⟨_, cf, ?_⟩ | refine ⟨_, ct, ?_⟩ | (refine allF_i fun b hb => ?_; replace hD := And.intro hb hD; clear hb; try simp only [fresh_cons, fresh_nil, and_true, ne_eq, neF] at hD)); try simp only [Go.Ab.zC2_1, go_sem, hD, n1]) | (apply hK; clear hK K)
    refine ret_pure ?_; simp only [resL_tmp, resL_nil, tupOf, go_sem, hD]
  rw [Nat.zero_add] at e2
  rw [e2] at hR ct
  have n2 : ¬ ((jt : Nat) : Int) < 0 := by omega
  have z2 : ((jt : Nat) : Int).toNat = jt := Int.toNat_natCast _
  have p2 : (0 : Int) ≤ ((jt : Nat) : Int) := by omega
  have l2 : ((jt : Nat) : Int) < ((db.length : Nat) : Int) := by omega
  have tf2 : tF db jt = tC (db.getD jt t0) := rfl
  rw [z2, if_neg (by omega)] at hR
  generalize db.getD jf t0 = T1 at *
  generalize db.getD jt t0 = T2 at *
  obtain ⟨a1, b1, c1⟩ := T1
  obtain ⟨a2, b2, c2⟩ := T2
  simp only at hR tf1 tf2
  have wl := within_p dl b1.length h1
  have wr := within_p dr b2.length h2
  have rl := repeated_p dl h1
  have rr := repeated_p dr h2
  by_cases hlen : dl.length = dr.length
  · have hli : ((dl.length : Nat) : Int) = ((dr.length : Nat) : Int) := by omega
    cases w1 : winB dl b1.length with
    | false =>
      rw [w1] at wl hR
      rw [if_pos (.inr (.inl rfl))] at hR
      subst hR
      refine Call.enter' (N := 64) (rs := [.tmp 4]) Tryz.func136 rfl rfl rfl (by decide) rfl ?_; simp only [argT]; have hD : (0 : Nat) = 0 := rfl
      repeat' first | (refine SW.seq_k fun K hK => ?_) | ((first | refine SW.region ?_ | refine SW.regionZ (id := 1) (Checked.mixed Tryz.checked) Go.Ab.zC2_1 (by kernel_rfl) ?_ | refine SW.regionZ (id := 4) (Checked.mixed Tryz.checked) Go.Ab.zC2_2 (by kernel_rfl) ?_ | refine SW.cond ?_ | refine SW.skip ?_ | refine SW.ret ?_ | refine ⟨_, cf, ?_⟩ | refine ⟨_, ct, ?_⟩ | refine ⟨_, wl, ?_⟩ | (refine allF_i fun b hb => ?_; replace hD := And.intro hb hD; clear hb; try simp only [fresh_cons, fresh_nil, and_true, ne_eq, neF] at hD)); try simp only [Go.Ab.zC2_1, Go.Ab.zC2_2, go_sem, hD, n1, n2, z1, p1, l1, z2, p2, l2, tf1, tf2, hli]) | (apply hK; clear hK K)
      refine ret_pure ?_; simp only [resL_tmp, resL_nil, tupOf, go_sem, hD]
    | true =>
      rw [w1] at wl hR
      cases w2 : winB dr b2.length with
      | false =>
        rw [w2] at wr hR
        rw [if_pos (.inr (.inr rfl))] at hR
        subst hR
        refine Call.enter' (N := 64) (rs := [.tmp 4]) Tryz.func136 rfl rfl rfl (by decide) rfl ?_; simp only [argT]; have hD : (0 : Nat) = 0 := rfl
        repeat' first | (refine SW.seq_k fun K hK => ?_) | ((first | refine SW.region ?_ | refine SW.regionZ (id := 1) (Checked.mixed Tryz.checked) Go.Ab.zC2_1 (by kernel_rfl) ?_ | refine SW.regionZ (id := 4) (Checked.mixed Tryz.checked) Go.Ab.zC2_2 (by kernel_rfl) ?_ | refine SW.cond ?_ | refine SW.skip ?_ | refine SW.ret ?_ | refine ⟨_, cf, ?_⟩ | refine ⟨_, ct, ?_⟩ | refine ⟨_, wl, ?_⟩ | refine ⟨_, wr, ?_⟩ | (refine allF_i fun b hb => ?_; replace hD := And.intro hb hD; clear hb; try simp only [fresh_cons, fresh_nil, and_true, ne_eq, neF] at hD)); try simp only [Go.Ab.zC2_1, Go.Ab.zC2_2, go_sem, hD, n1, n2, z1, p1, l1, z2, p2, l2, tf1, tf2, hli]) | (apply hK; clear hK K)
        refine ret_pure ?_; simp only [resL_tmp, resL_nil, tupOf, go_sem, hD]
      | true =>
        rw [w2] at wr hR
        rw [if_neg (by simp [hlen])] at hR
        by_cases q1 : dl.Nodup
        · rw [decide_eq_true q1] at rl
          by_cases q2 : dr.Nodup
          · rw [decide_eq_true q2] at rr
            rw [if_pos ⟨q1, q2⟩] at hR
            subst hR
            refine Call.enter' (N := 64) (rs := [.tmp 4]) Tryz.func136 rfl rfl rfl (by decide) rfl ?_; simp only [argT]; have hD : (0 : Nat) = 0 := rfl
            repeat' first | (refine SW.seq_k fun K hK => ?_) | ((first | refine SW.region ?_ | refine SW.regionZ (id := 1) (Checked.mixed Tryz.checked) Go.Ab.zC2_1 (by kernel_rfl) ?_ | refine SW.regionZ (id := 4) (Checked.mixed Tryz.checked) Go.Ab.zC2_2 (by kernel_rfl) ?_ | refine SW.cond ?_ | refine SW.skip ?_ | refine SW.ret ?_ | refine ⟨_, cf, ?_⟩ | refine ⟨_, ct, ?_⟩ | refine ⟨_, wl, ?_⟩ | refine ⟨_, wr, ?_⟩ | refine Call.of_pure (rl) ?_ | refine Call.of_pure (rr) ?_ | (refine allF_i fun b hb => ?_; replace hD := And.intro hb hD; clear hb; try simp only [fresh_cons, fresh_nil, and_true, ne_eq, neF] at hD)); try simp only [Go.Ab.zC2_1, Go.Ab.zC2_2, go_sem, hD, n1, n2, z1, p1, l1, z2, p2, l2, tf1, tf2, hli]) | (apply hK; clear hK K)
            refine ret_pure ?_; simp only [resL_tmp, resL_nil, tupOf, go_sem, hD]
          · rw [decide_eq_false q2] at rr
            rw [if_neg (fun x => q2 x.2)] at hR
            subst hR
            refine Call.enter' (N := 64) (rs := [.tmp 4]) Tryz.func136 rfl rfl rfl (by decide) rfl ?_; simp only [argT]; have hD : (0 : Nat) = 0 := rfl
            repeat' first | (refine SW.seq_k fun K hK => ?_) | ((first | refine SW.region ?_ | refine SW.regionZ (id := 1) (Checked.mixed Tryz.checked) Go.Ab.zC2_1 (by kernel_rfl) ?_ | refine SW.regionZ (id := 4) (Checked.mixed Tryz.checked) Go.Ab.zC2_2 (by kernel_rfl) ?_ | refine SW.cond ?_ | refine SW.skip ?_ | refine SW.ret ?_ | refine ⟨_, cf, ?_⟩ | refine ⟨_, ct, ?_⟩ | refine ⟨_, wl, ?_⟩ | refine ⟨_, wr, ?_⟩ | refine Call.of_pure (rl) ?_ | refine Call.of_pure (rr) ?_ | (refine allF_i fun b hb => ?_; replace hD := And.intro hb hD; clear hb; try simp only [fresh_cons, fresh_nil, and_true, ne_eq, neF] at hD)); try simp only [Go.Ab.zC2_1, Go.Ab.zC2_2, go_sem, hD, n1, n2, z1, p1, l1, z2, p2, l2, tf1, tf2, hli]) | (apply hK; clear hK K)
            refine ret_pure ?_; simp only [resL_tmp, resL_nil, tupOf, go_sem, hD]
        · rw [decide_eq_false q1] at rl
          rw [if_neg (fun x => q1 x.1)] at hR
          generalize (!decide dr.Nodup) = qq at *
          subst hR
          refine Call.enter' (N := 64) (rs := [.tmp 4]) Tryz.func136 rfl rfl rfl (by decide) rfl ?_; simp only [argT]; have hD : (0 : Nat) = 0 := rfl
          repeat' first | (refine SW.seq_k fun K hK => ?_) | ((first | refine SW.region ?_ | refine SW.regionZ (id := 1) (Checked.mixed Tryz.checked) Go.Ab.zC2_1 (by kernel_rfl) ?_ | refine SW.regionZ (id := 4) (Checked.mixed Tryz.checked) Go.Ab.zC2_2 (by kernel_rfl) ?_ | refine SW.cond ?_ | refine SW.skip ?_ | refine SW.ret ?_ | refine ⟨_, cf, ?_⟩ | refine ⟨_, ct, ?_⟩ | refine ⟨_, wl, ?_⟩ | refine ⟨_, wr, ?_⟩ | refine Call.of_pure (rl) ?_ | (refine allF_i fun b hb => ?_; replace hD := And.intro hb hD; clear hb; try simp only [fresh_cons, fresh_nil, and_true, ne_eq, neF] at hD)); try simp only [Go.Ab.zC2_1, Go.Ab.zC2_2, go_sem, hD, n1, n2, z1, p1, l1, z2, p2, l2, tf1, tf2, hli]) | (apply hK; clear hK K)
          refine ret_pure ?_; simp only [resL_tmp, resL_nil, tupOf, go_sem, hD]
  · have hli : ¬ ((dl.length : Nat) : Int) = ((dr.length : Nat) : Int) := by omega
    rw [if_pos (.inl hlen)] at hR
    generalize winB dl b1.length = w1 at *
    generalize winB dr b2.length = w2 at *
    subst hR
    refine Call.enter' (N := 64) (rs := [.tmp 4]) Tryz.func136 rfl rfl rfl (by decide) rfl ?_; simp only [argT]; have hD : (0 : Nat) = 0 := rfl
    repeat' first | (refine SW.seq_k fun K hK => ?_) | ((first | refine SW.region ?_ | refine SW.regionZ (id := 1) (Checked.mixed Tryz.checked) Go.Ab.zC2_1 (by kernel_rfl) ?_ | refine SW.regionZ (id := 4) (Checked.mixed Tryz.checked) Go.Ab.zC2_2 (by kernel_rfl) ?_ | refine SW.cond ?_ | refine SW.skip ?_ | refine SW.ret ?_ | refine ⟨_, cf, ?_⟩ | refine ⟨_, ct, ?_⟩ | (refine allF_i fun b hb => ?_; replace hD := And.intro hb hD; clear hb; try simp only [fresh_cons, fresh_nil, and_true, ne_eq, neF] at hD)); try simp only [Go.Ab.zC2_1, Go.Ab.zC2_2, go_sem, hD, n1, n2, z1, p1, l1, z2, p2, l2, tf1, tf2, hli]) | (apply hK; clear hK K)
    refine ret_pure ?_; simp only [resL_tmp, resL_nil, tupOf, go_sem, hD]
end Go.Proofs.YtpidncgibgiidaaGreat
namespace Go.Ab.A15
open Go Go.Ab Go.Ab.A34
def OkDb (db : List Tb) : Prop := ∀ t ∈ db, ∀ r ∈ t.rows, r.2.length ≤ 9223372036854775807
end Go.Ab.A15
def Go.Ab.zC3_1 : Go.Ab.OZ := (.one 0 [0, 1, 3, 6, 7] (.one 1 [1, 3, 6, 7] (.one 2 [2, 3, 6, 7] (.one 3 [3, 6, 7] (.one 4 [4, 5, 6, 7] (.one 5 [5, 6, 7] (.one 6 [6, 7] (.one 7 [7] .done))))))))
namespace Go.Proofs.YtpidncgibgiidaaGreat
open Go Go.Ab Go.Ab.A34 Go.Ab.A15
variable [Gl] [Tabs]
theorem check_p (db : List Tb) (hdb : db.length ≤ 9223372036854775807) : PCall Tryz.prog 135 [DB db] (I64 (chkS db)) := by
  obtain ⟨R, hR⟩ : ∃ R, R = chkS db := ⟨_, rfl⟩
  rw [← hR]
  unfold chkS at hR
  by_cases h50 : 50 < db.length
  · rw [if_pos h50] at hR
    subst hR
    have h50i : (50 : Int) < ((db.length : Nat) : Int) := by omega
    refine Call.enter' (N := 32) (rs := [.tmp 2]) Tryz.func135 rfl rfl rfl (by decide) rfl ?_; simp only [argT]; have hD : (0 : Nat) = 0 := rfl
    repeat' first | (refine SW.seq_k fun K hK => ?_) | ((first | refine SW.region ?_ | refine SW.cond ?_ | refine SW.ret ?_ | (refine allF_i fun b hb => ?_; replace hD := And.intro hb hD; clear hb; try simp only [fresh_cons, fresh_nil, and_true, ne_eq, neF] at hD)); try simp only [go_sem, hD, h50i]) | (apply hK; clear hK K)
    refine ret_pure ?_; simp only [resL_tmp, resL_nil, tupOf, go_sem, hD]
  · rw [if_neg h50] at hR
    have h50i : ¬ (50 : Int) < ((db.length : Nat) : Int) := by omega
    refine Call.enter' (N := 32) (rs := [.tmp 2]) Tryz.func135 rfl rfl rfl (by decide) rfl ?_; simp only [argT]; have hD : (0 : Nat) = 0 := rfl
    repeat' first | (refine SW.seq_k fun K hK => ?_) | (refine SW.block ?_) | ((first | refine SW.region ?_ | refine SW.cond ?_ | refine SW.skip ?_ | (refine allF_i fun b hb => ?_; replace hD := And.intro hb hD; clear hb; try simp only [fresh_cons, fresh_nil, and_true, ne_eq, neF] at hD)); try simp only [go_sem, hD, h50i]) | (apply hK; clear hK K)
    obtain ⟨xb, rfl⟩ : ∃ x, x = b := ⟨_, rfl⟩
    obtain ⟨I, hI⟩ : ∃ I : Nat → St → Prop, ∀ k S, I k S ↔ (∃ (i : Nat) , k = db.length - i ∧ i ≤ db.length ∧ R = chkF db (db.length - i) i ∧ S = ⟨[(1, .op xb 0), (11, TL db), (12, I64 db.length), (13, I64 i)], [(xb, .svs [TL db])]⟩) := ⟨fun k S => _, fun _ _ => Iff.rfl⟩
    refine SW.loop' I (db.length) ((hI _ _).2 ⟨0, rfl, Nat.zero_le _, hR, rfl⟩) (by repeat' (first | exact rfl | exact trivial | constructor)) ?_
    intro k S hIn
    obtain ⟨i, rfl, hi, hC, rfl⟩ := (hI _ _).1 hIn
    clear hIn
    have ie : ((i : Nat) : Int).toNat = i := Int.toNat_natCast _
    have i0 : (0 : Int) ≤ ((i : Nat) : Int) := by omega
    clear hR
    by_cases hlt : i < db.length
    · have hli : ((i : Nat) : Int) < (((db.length) : Nat) : Int) := by omega
      have w1 : IntKind.i64.wrap ((i : Int) + 1) = ((i + 1 : Nat) : Int) := by rw [i64_wrap (by omega) (by omega)]; omega
      rw [show db.length - i = (db.length - (i + 1)) + 1 by omega, chkF] at hC
      have fi : tF db i = tC (db.getD i t0) := rfl
      have iz : (((i : Nat) : Int) - 0).toNat = i := by omega
      have il : ((i : Nat) : Int) ≤ ((db.length : Nat) : Int) := by omega
      have c1 := valid_tp (db.getD i t0)
      have c2 := find_p (db.getD i t0).name (db.take i) i (by omega) (by rw [List.length_take]; omega) (tF db) (fun j hj => tF_take hj)
      generalize db.getD i t0 = t at *
      generalize tabI t.name 0 (db.take i) = q at *
      generalize validS t = v at *
      obtain ⟨tn, ta, tr⟩ := t
      simp only at c2
      by_cases hv : v = 0
      · rw [if_neg (fun x => x hv)] at hC
        by_cases hq : 0 ≤ q
        · rw [if_pos hq] at hC
          subst hC
          repeat' first | (refine SW.seq_k fun K hK => ?_) | (refine SW.block ?_) | ((first | refine SW.region ?_ | refine SW.regionZ (id := 9) (Checked.mixed Tryz.checked) Go.Ab.zC3_1 (by kernel_rfl) ?_ | refine SW.cond ?_ | refine SW.skip ?_ | refine SW.ret ?_ | refine Call.of_pure (c1) ?_ | refine ⟨_, c2, ?_⟩ | (refine allF_i fun b hb => ?_; replace hD := And.intro hb hD; clear hb; try simp only [fresh_cons, fresh_nil, and_true, ne_eq, neF] at hD)); try simp only [Go.Ab.zC3_1, go_sem, hD, hli, ie, i0, w1, fi, iz, il, hv, hq, true_implies]) | (apply hK; clear hK K)
          refine ret_pure ?_; simp only [resL_tmp, resL_nil, tupOf, go_sem, hD]
        · rw [if_neg hq] at hC
          repeat' first | (refine SW.seq_k fun K hK => ?_) | (refine SW.block ?_) | ((first | refine SW.region ?_ | refine SW.regionZ (id := 9) (Checked.mixed Tryz.checked) Go.Ab.zC3_1 (by kernel_rfl) ?_ | refine SW.cond ?_ | refine SW.skip ?_ | refine Call.of_pure (c1) ?_ | refine ⟨_, c2, ?_⟩ | (refine allF_i fun b hb => ?_; replace hD := And.intro hb hD; clear hb; try simp only [fresh_cons, fresh_nil, and_true, ne_eq, neF] at hD)); try simp only [Go.Ab.zC3_1, go_sem, hD, hli, ie, i0, w1, fi, iz, il, hv, hq, true_implies]) | (apply hK; clear hK K)
          refine Rnd.le (St.le_only ?_) (Rnd.sub (db.length - (i + 1)) (by omega) ((hI _ _).2 ⟨i + 1, rfl, by omega, hC, rfl⟩) (by repeat' (first | exact rfl | exact trivial | constructor)))
          repeat (first | exact List.mem_cons_self | apply List.mem_cons_of_mem)
      · rw [if_pos hv] at hC
        subst hC
        repeat' first | (refine SW.seq_k fun K hK => ?_) | (refine SW.block ?_) | ((first | refine SW.region ?_ | refine SW.cond ?_ | refine SW.skip ?_ | refine SW.ret ?_ | refine Call.of_pure (c1) ?_ | (refine allF_i fun b hb => ?_; replace hD := And.intro hb hD; clear hb; try simp only [fresh_cons, fresh_nil, and_true, ne_eq, neF] at hD)); try simp only [go_sem, hD, hli, ie, i0, w1, fi, iz, il, hv, true_implies]) | (apply hK; clear hK K)
        refine ret_pure ?_; simp only [resL_tmp, resL_nil, tupOf, go_sem, hD]
    · have hli : ¬ ((i : Nat) : Int) < (((db.length) : Nat) : Int) := by omega
      rw [show db.length - i = 0 by omega] at hC
      have hC2 : R = 0 := hC
      subst hC2
      repeat' first | (refine SW.seq_k fun K hK => ?_) | ((first | refine SW.region ?_ | refine SW.cond ?_ | refine SW.exit ?_ | refine SW.ret ?_); try simp only [go_sem, hD, hli]) | (apply hK; clear hK K) | (clear hK K; apply hK; clear hK K)
      refine ret_pure ?_; simp only [resL_tmp, resL_nil, tupOf, go_sem, hD]
theorem valid_ip (db : List Tb) (d : Dp) (hdb : db.length ≤ 9223372036854775807) (hd : OkD d) : PCall Tryz.prog 105 [DB db, DV d] (I64 (if ¬ chkS db = 0 then chkS db else fitsS db d)) := by
  have c1 := check_p db hdb
  have c2 := fits_p db d hdb hd
  generalize chkS db = v at *
  generalize fitsS db d = u at *
  by_cases hv : v = 0
  · rw [if_neg (fun x => x hv)]
    refine Call.enter' (N := 14) (rs := [.tmp 4]) Tryz.func105 rfl rfl rfl (by decide) rfl ?_; simp only [argT]; have hD : (0 : Nat) = 0 := rfl
    repeat' first | (refine SW.seq_k fun K hK => ?_) | ((first | refine SW.region ?_ | refine SW.cond ?_ | refine SW.skip ?_ | refine SW.ret ?_ | refine Call.of_pure (c1) ?_ | refine Call.of_pure (c2) ?_ | (refine allF_i fun b hb => ?_; replace hD := And.intro hb hD; clear hb; try simp only [fresh_cons, fresh_nil, and_true, ne_eq, neF] at hD)); try simp only [go_sem, hD, hv]) | (apply hK; clear hK K)
    refine ret_pure ?_; simp only [resL_tmp, resL_nil, tupOf, go_sem, hD]
  · rw [if_pos hv]
    refine Call.enter' (N := 14) (rs := [.tmp 4]) Tryz.func105 rfl rfl rfl (by decide) rfl ?_; simp only [argT]; have hD : (0 : Nat) = 0 := rfl
    repeat' first | (refine SW.seq_k fun K hK => ?_) | ((first | refine SW.region ?_ | refine SW.cond ?_ | refine SW.ret ?_ | refine Call.of_pure (c1) ?_ | (refine allF_i fun b hb => ?_; replace hD := And.intro hb hD; clear hb; try simp only [fresh_cons, fresh_nil, and_true, ne_eq, neF] at hD)); try simp only [go_sem, hD, hv]) | (apply hK; clear hK K)
    refine ret_pure ?_; simp only [resL_tmp, resL_nil, tupOf, go_sem, hD]
end Go.Proofs.YtpidncgibgiidaaGreat
namespace Go.Ab.A15
open Go Go.Ab Go.Ab.A34
abbrev SN : SV := .sc (.slice none 0 0)
end Go.Ab.A15
namespace Go.Proofs.YtpidncgibgiidaaGreat
open Go Go.Ab Go.Ab.A34 Go.Ab.A15
variable [Gl] [Tabs]
end Go.Proofs.YtpidncgibgiidaaGreat
namespace Go.Ab.A15
end Go.Ab.A15
namespace Go.Ab.A15
open Go Go.Ab Go.Ab.A34
theorem same_s (a b : ByteArray) : sameC .s (.string a) (.string b) = some (decide (a = b)) := by
  show some (a.data == b.data) = some (decide (a = b))
  congr 1
  rw [Bool.eq_iff_iff, beq_iff_eq, decide_eq_true_iff]
  exact ⟨fun h => ba_ext (by rw [h]), fun h => by rw [h]⟩
end Go.Ab.A15
namespace Go.Proofs.YtpidncgibgiidaaGreat
open Go Go.Ab Go.Ab.A34 Go.Ab.A15
variable [Gl] [Tabs]
end Go.Proofs.YtpidncgibgiidaaGreat
namespace Go.Ab
open Go
end Go.Ab
namespace Go.Ab.A15
open Go Go.Ab Go.Ab.A34
theorem list_eq {a c : List Int} (hl : a.length = c.length) (h : ∀ j, j < a.length → a.getD j 0 = c.getD j 0) : a = c := by
  refine List.ext_getElem hl fun i h1 h2 => ?_
  have := h i h1
  simpa [List.getD_eq_getElem?_getD, h1, h2] using this
theorem fC_lt {α : Type} {enc : α → List SV} {k : Nat} (hk : ∀ x, (enc x).length = k) {l : List α} {i j : Nat} (hi : i < l.length) (hj : j < k) : i * k + j < (fC enc l).length := by
  rw [← fC_len hk]
  have : (i + 1) * k ≤ l.length * k := Nat.mul_le_mul_right k hi
  rw [Nat.add_mul, Nat.one_mul] at this
  omega
end Go.Ab.A15
def Go.Ab.zC6_1 : Go.Ab.OZ := (.one 0 [0, 2, 3, 8] (.one 1 [1, 2, 3, 8] (.one 2 [2, 3, 8] (.one 3 [3, 8] (.one 4 [4, 6, 7, 8] (.one 5 [5, 6, 7, 8] (.one 6 [6, 7, 8] (.one 7 [7, 8] (.one 8 [8] .done)))))))))
namespace Go.Proofs.YtpidncgibgiidaaGreat
open Go Go.Ab Go.Ab.A34 Go.Ab.A15
variable [Gl] [Tabs]
theorem equal_i (a c : List Int) (ha : a.length ≤ 1000000000) (hc : c.length ≤ 1000000000) (n : Nat) (hn : c.length = n) (f : Nat → List SV) (hf : ∀ i, i < n → f i = [I64 (c.getD i 0)]) : PCall Tryz.prog 97 [IL a, .fl n 1 f] (SB (decide (a = c))) := by
  subst hn
  obtain ⟨X, hX⟩ : ∃ X, X = decide (a = c) := ⟨_, rfl⟩
  rw [← hX]
  have h0 : ¬ a.length = c.length → X = false := fun h => by rw [hX, decide_eq_false fun e => h (by rw [e])]
  have h1 : a.length = c.length → (∀ j, j < a.length → a.getD j 0 = c.getD j 0) → X = true := fun hl h => by rw [hX, decide_eq_true (list_eq hl h)]
  have h2 : ∀ j, ¬ a.getD j 0 = c.getD j 0 → X = false := fun j h => by rw [hX, decide_eq_false fun e => h (by rw [e])]
  clear hX
  by_cases hl : a.length = c.length
  · have hlq : ((a.length : Nat) : Int) = ((c.length : Nat) : Int) := by omega
    refine Call.enter' (N := 26) (rs := [.tmp 4]) Tryz.func97 rfl rfl rfl (by decide) rfl ?_; simp only [argT]; have hD : (0 : Nat) = 0 := rfl
    repeat' first | (refine SW.seq_k fun K hK => ?_) | (refine SW.block ?_) | ((first | refine SW.region ?_ | refine SW.cond ?_ | refine SW.skip ?_); try simp only [go_sem, hD, hlq]) | (apply hK; clear hK K)
    obtain ⟨I, hI⟩ : ∃ I : Nat → St → Prop, ∀ k S, I k S ↔ (∃ (i : Nat) , k = a.length - i ∧ i ≤ a.length ∧ (∀ j, j < i → a.getD j 0 = c.getD j 0) ∧ S = ⟨[(0, IL a), (1, .fl c.length 1 f), (11, IL a), (12, I64 a.length), (13, I64 i)], []⟩) := ⟨fun k S => _, fun _ _ => Iff.rfl⟩
    refine SW.loop' I (a.length) ((hI _ _).2 ⟨0, rfl, Nat.zero_le _, (fun j hj => absurd hj (by omega)), rfl⟩) (by repeat' (first | exact rfl | exact trivial | exact int_eq (by omega) | constructor)) ?_
    intro k S hIn
    obtain ⟨i, rfl, hi, hL, rfl⟩ := (hI _ _).1 hIn
    clear hIn
    have ie : ((i : Nat) : Int).toNat = i := Int.toNat_natCast _
    have i0 : (0 : Int) ≤ ((i : Nat) : Int) := by omega
    by_cases hlt : i < a.length
    · have hli : ((i : Nat) : Int) < (((a.length) : Nat) : Int) := by omega
      have w1 : IntKind.i64.wrap ((i : Int) + 1) = ((i + 1 : Nat) : Int) := by rw [i64_wrap (by omega) (by omega)]; omega
      have hlc : ((i : Nat) : Int) < ((c.length : Nat) : Int) := by omega
      have fi : iF a i = [I64 (a.getD i 0)] := rfl
      have gi := hf i (by omega)
      have h2i := h2 i
      have hn1 : a.getD i 0 = c.getD i 0 → ∀ j, j < i + 1 → a.getD j 0 = c.getD j 0 := fun h j hj => by
        rcases Nat.lt_or_ge j i with h3 | h3
        · exact hL j h3
        · obtain rfl : j = i := by omega
          exact h
      generalize a.getD i 0 = u at *
      generalize c.getD i 0 = v at *
      by_cases huv : u = v
      · have hn2 := hn1 huv
        repeat' first | (refine SW.seq_k fun K hK => ?_) | (refine SW.block ?_) | ((first | refine SW.region ?_ | refine SW.regionZ (id := 6) (Checked.mixed Tryz.checked) Go.Ab.zC6_1 (by kernel_rfl) ?_ | refine SW.cond ?_ | refine SW.skip ?_); try simp only [Go.Ab.zC6_1, go_sem, hD, hli, hlc, ie, i0, w1, fi, gi, huv]) | (apply hK; clear hK K)
        refine Rnd.sub (a.length - (i + 1)) (by omega) ((hI _ _).2 ⟨i + 1, rfl, by omega, hn2, rfl⟩) (by repeat' (first | exact rfl | exact trivial | constructor))
      · have hx := h2i huv
        subst hx
        repeat' first | (refine SW.seq_k fun K hK => ?_) | (refine SW.block ?_) | ((first | refine SW.region ?_ | refine SW.regionZ (id := 6) (Checked.mixed Tryz.checked) Go.Ab.zC6_1 (by kernel_rfl) ?_ | refine SW.cond ?_ | refine SW.skip ?_ | refine SW.ret ?_); try simp only [Go.Ab.zC6_1, go_sem, hD, hli, hlc, ie, i0, w1, fi, gi, huv]) | (apply hK; clear hK K)
        refine ret_pure ?_; simp only [resL_tmp, resL_nil, tupOf, go_sem, hD]
    · have hli : ¬ ((i : Nat) : Int) < (((a.length) : Nat) : Int) := by omega
      have hx := h1 hl fun j hj => hL j (by omega)
      subst hx
      have nl : ¬ ((c.length : Nat) : Int) < ((c.length : Nat) : Int) := by omega
      repeat' first | (refine SW.seq_k fun K hK => ?_) | ((first | refine SW.region ?_ | refine SW.cond ?_ | refine SW.exit ?_ | refine SW.ret ?_); try simp only [go_sem, hD, hli, nl]) | (apply hK; clear hK K) | (clear hK K; apply hK; clear hK K)
      refine ret_pure ?_; simp only [resL_tmp, resL_nil, tupOf, go_sem, hD]
  · have hlq : ¬ ((a.length : Nat) : Int) = ((c.length : Nat) : Int) := by omega
    have hx := h0 hl
    subst hx
    refine Call.enter' (N := 26) (rs := [.tmp 4]) Tryz.func97 rfl rfl rfl (by decide) rfl ?_; simp only [argT]; have hD : (0 : Nat) = 0 := rfl
    repeat' first | (refine SW.seq_k fun K hK => ?_) | ((first | refine SW.region ?_ | refine SW.cond ?_ | refine SW.ret ?_); try simp only [go_sem, hD, hlq]) | (apply hK; clear hK K)
    refine ret_pure ?_; simp only [resL_tmp, resL_nil, tupOf, go_sem, hD]
end Go.Proofs.YtpidncgibgiidaaGreat
namespace Go.Ab.A15
open Go Go.Ab Go.Ab.A34
theorem Ivs.st {l : List Dp} {g : Dp} {out : List Sn} (h : Ivs l g out) : ∀ j, j < out.length → (out.getD j s0).st ≤ j := by
  intro j
  induction j using Nat.strongRecOn with
  | ind j ih =>
    intro hj
    rcases Nat.eq_zero_or_pos j with rfl | h0
    · rw [h.rt]; exact Nat.le_refl 0
    · obtain ⟨b, k, hb, _, _, _, hn⟩ := h.nx j h0 hj
      obtain ⟨_, _, _, _, e5, _⟩ := nextS_bf hn
      have := ih b hb (by omega)
      omega
end Go.Ab.A15
namespace Go.Proofs.YtpidncgibgiidaaGreat
open Go Go.Ab Go.Ab.A34 Go.Ab.A15
variable [Gl] [Tabs]
end Go.Proofs.YtpidncgibgiidaaGreat
namespace Go.Ab.A15
open Go Go.Ab Go.Ab.A34
end Go.Ab.A15
namespace Go.Proofs.YtpidncgibgiidaaGreat
open Go Go.Ab Go.Ab.A34 Go.Ab.A15
variable [Gl] [Tabs]
end Go.Proofs.YtpidncgibgiidaaGreat
namespace Go.Ab.A15
open Go Go.Ab Go.Ab.A34
end Go.Ab.A15
namespace Go.Proofs.YtpidncgibgiidaaGreat
open Go Go.Ab Go.Ab.A34 Go.Ab.A15
variable [Gl] [Tabs]
end Go.Proofs.YtpidncgibgiidaaGreat
namespace Go.Ab.A15
open Go Go.Ab Go.Ab.A34
def nmsOf (db : List Tb) : List ByteArray := db.map (·.name)
def nsOf (db : List Tb) : List Nat := db.map fun t => t.attrs.length
theorem tabI_idx {x : ByteArray} : ∀ {l : List Tb} {i : Nat}, x ∈ nmsOf l → tabI x i l = ((i + idxN x (nmsOf l) : Nat) : Int)
  | y :: l, i, h => by
    unfold tabI nmsOf
    rw [List.map_cons, idxN]
    by_cases h1 : y.name = x
    · rw [if_pos h1, if_pos h1]; rfl
    · rw [if_neg h1, if_neg h1, tabI_idx (i := i + 1) ((List.mem_cons.1 h).resolve_left (fun e => h1 e.symm))]
      unfold nmsOf
      congr 1
      omega
theorem tabI_mem {x : ByteArray} : ∀ {l : List Tb} {i : Nat}, 0 ≤ tabI x i l → x ∈ nmsOf l
  | [], i, h => by simp [tabI] at h
  | y :: l, i, h => by
    unfold tabI at h
    unfold nmsOf
    rw [List.map_cons]
    by_cases h1 : y.name = x
    · rw [h1]; exact List.mem_cons_self
    · rw [if_neg h1] at h
      exact List.mem_cons_of_mem _ (tabI_mem h)
theorem chkF_ok {db : List Tb} : ∀ {g i : Nat}, chkF db g i = 0 → i + g = db.length → ∀ j, i ≤ j → j < db.length → validS (db.getD j t0) = 0 ∧ tabI (db.getD j t0).name 0 (db.take j) < 0
  | 0, i, _, h, j, h1, h2 => by omega
  | g + 1, i, hc, h, j, h1, h2 => by
    unfold chkF at hc
    by_cases hv : validS (db.getD i t0) = 0
    · rw [if_neg (fun x => x hv)] at hc
      by_cases hq : 0 ≤ tabI (db.getD i t0).name 0 (db.take i)
      · rw [if_pos hq] at hc; cases hc
      · rw [if_neg hq] at hc
        rcases Nat.lt_or_ge i j with h3 | h3
        · exact chkF_ok hc (by omega) j h3 h2
        · obtain rfl : j = i := by omega
          exact ⟨hv, by omega⟩
    · rw [if_pos hv] at hc; exact absurd hc hv
structure Vdb (db : List Tb) : Prop where
  v : ∀ t ∈ db, validS t = 0
  n : (nmsOf db).Nodup
theorem chkS_ok {db : List Tb} (h : chkS db = 0) : Vdb db := by
  unfold chkS at h
  by_cases h50 : 50 < db.length
  · rw [if_pos h50] at h; cases h
  · rw [if_neg h50] at h
    have key := chkF_ok h (by omega)
    refine ⟨fun t ht => ?_, ?_⟩
    · obtain ⟨j, hj, rfl⟩ := List.getElem_of_mem ht
      have := (key j (Nat.zero_le _) hj).1
      rwa [show db.getD j t0 = db[j] by simp [List.getD_eq_getElem?_getD, hj]] at this
    · refine List.pairwise_iff_getElem.2 fun i j hi hj hij e => ?_
      unfold nmsOf at hi hj
      rw [List.length_map] at hi hj
      unfold nmsOf at e
      rw [List.getElem_map, List.getElem_map] at e
      have := (key j (Nat.zero_le _) hj).2
      rw [show db.getD j t0 = db[j] by simp [List.getD_eq_getElem?_getD, hj]] at this
      have hm : db[j].name ∈ nmsOf (db.take j) := by
        unfold nmsOf
        rw [← e]
        refine List.mem_map.2 ⟨db[i], ?_, rfl⟩
        have hl : i < (db.take j).length := by rw [List.length_take]; omega
        have : (db.take j)[i] = db[i] := List.getElem_take
        rw [← this]
        exact List.getElem_mem hl
      rw [tabI_idx hm] at this
      omega
theorem fits_ok {db : List Tb} {d : Dp} (h : fitsS db d = 0) : Fit (nmsOf db) (nsOf db) d := by
  unfold fitsS at h
  by_cases h1 : tabI d.f 0 db < 0 ∨ tabI d.t 0 db < 0
  · rw [if_pos h1] at h; cases h
  · rw [if_neg h1] at h
    have mf : d.f ∈ nmsOf db := tabI_mem (i := 0) (by omega)
    have mt : d.t ∈ nmsOf db := tabI_mem (i := 0) (by omega)
    have ef := tabI_idx (i := 0) mf
    have et := tabI_idx (i := 0) mt
    rw [ef, et] at h
    simp only [Nat.zero_add, Int.toNat_natCast] at h
    have gn : ∀ i, (nsOf db).getD i 0 = (db.getD i t0).attrs.length := fun i => by
      unfold nsOf
      simp only [List.getD_eq_getElem?_getD, List.getElem?_map]
      cases db[i]? <;> rfl
    split at h
    · cases h
    · rename_i h2
      split at h
      · rename_i h3
        have w1 : winB d.l (db.getD (idxN d.f (nmsOf db)) t0).attrs.length = true := by
          cases hw : winB d.l (db.getD (idxN d.f (nmsOf db)) t0).attrs.length with
          | true => rfl
          | false => exact absurd (.inr (.inl hw)) h2
        have w2 : winB d.r (db.getD (idxN d.t (nmsOf db)) t0).attrs.length = true := by
          cases hw : winB d.r (db.getD (idxN d.t (nmsOf db)) t0).attrs.length with
          | true => rfl
          | false => exact absurd (.inr (.inr hw)) h2
        refine ⟨mf, mt, Classical.byContradiction fun x => h2 (.inl x), ?_, ?_, h3.1, h3.2⟩
        · rw [gn]; exact winB_iff.1 w1
        · rw [gn]; exact winB_iff.1 w2
      · cases h
structure Vall (db : List Tb) (l : List Dp) (g : Dp) : Prop where
  vd : Vdb db
  l : ∀ d ∈ l, Fit (nmsOf db) (nsOf db) d
  g : Fit (nmsOf db) (nsOf db) g
theorem Vdb.name {db : List Tb} (h : Vdb db) : ∀ x ∈ nmsOf db, nameB x.data.toList = true := fun x hx => by
  obtain ⟨t, ht, rfl⟩ := List.mem_map.1 hx
  have := h.v t ht
  unfold validS at this
  split at this
  · assumption
  · cases this
theorem Vdb.ns {db : List Tb} (h : Vdb db) (i : Nat) : (nsOf db).getD i 0 ≤ 16 := by
  unfold nsOf
  simp only [List.getD_eq_getElem?_getD, List.getElem?_map]
  cases hi : db[i]? with
  | none => exact Nat.zero_le _
  | some t => exact (valid_rows (h.v t (List.mem_of_getElem? hi))).2.1
theorem Fit.in16l {db : List Tb} {d : Dp} (h : Vdb db) (hf : Fit (nmsOf db) (nsOf db) d) : In16 d.l := fun x hx => by
  have := hf.l x hx
  have h2 := h.ns (idxN d.f (nmsOf db))
  omega
theorem Fit.in16r {db : List Tb} {d : Dp} (h : Vdb db) (hf : Fit (nmsOf db) (nsOf db) d) : In16 d.r := fun x hx => by
  have := hf.r x hx
  have h2 := h.ns (idxN d.t (nmsOf db))
  omega
theorem in16_len {a : List Int} (hn : a.Nodup) (h : In16 a) : a.length ≤ 16 := by
  have key := nodup_bound 16 (a.map Int.toNat) ?_ ?_
  · rwa [List.length_map] at key
  · have hp := List.pairwise_iff_getElem.1 hn
    refine List.pairwise_iff_getElem.2 fun i j hi hj hij e => ?_
    rw [List.length_map] at hi hj
    rw [List.getElem_map, List.getElem_map] at e
    have h1 := h _ (List.getElem_mem hi)
    have h2 := h _ (List.getElem_mem hj)
    exact hp i j hi hj hij (by omega)
  · intro x hx
    obtain ⟨y, hy, rfl⟩ := List.mem_map.1 hx
    have := h y hy
    omega
theorem Vall.small {db : List Tb} {l : List Dp} {g : Dp} (h : Vall db l g) (h4 : db.length ≤ 4) (h3 : g.l.length ≤ 3) : Small l g (nmsOf db) where
  n4 := by unfold nmsOf; rw [List.length_map]; exact h4
  g3 := h3
  gl := h.g.in16l h.vd
  gf := h.g.f
  lr d hd := (h.l d hd).lr
  r16 d hd := (h.l d hd).in16r h.vd
  lt d hd := (h.l d hd).t
end Go.Ab.A15
namespace Go.Ab.A15
open Go Go.Ab Go.Ab.A34
structure Few (db : List Tb) (l : List Dp) (g : Dp) : Prop where
  d4 : db.length ≤ 4
  ll : l.length ≤ 1000000
  okl : ∀ d ∈ l, OkD d
  okg : OkD g
  g3 : g.l.length ≤ 3
  r3 : g.r.length ≤ 3
end Go.Ab.A15
namespace Go.Proofs.YtpidncgibgiidaaGreat
open Go Go.Ab Go.Ab.A34 Go.Ab.A15
variable [Gl] [Tabs]
end Go.Proofs.YtpidncgibgiidaaGreat
namespace Go.Ab.A15
open Go Go.Ab Go.Ab.A34
theorem map_get {a : List Int} {j : Nat} (h : j < a.length) : (a.map fun x => I64 x).getD j .any = I64 (a.getD j 0) := by simp [List.getD_eq_getElem?_getD, h]
theorem fl_map (l : List Int) : flCells (iF l) l.length = l.map fun x => I64 x := by
  have e : l = (List.range l.length).map fun i => l.getD i 0 := by
    refine List.ext_getElem (by simp) fun i h1 h2 => ?_
    simp [List.getD_eq_getElem?_getD, h1]
  unfold flCells
  conv => rhs; rw [e]
  rw [List.map_map]
  unfold iF
  induction (List.range l.length) with
  | nil => rfl
  | cons x r ih => rw [List.flatMap_cons, List.map_cons, ih]; rfl
end Go.Ab.A15
namespace Go.Proofs.YtpidncgibgiidaaGreat
open Go Go.Ab Go.Ab.A34 Go.Ab.A15
variable [Gl] [Tabs]
theorem clone_i (l : List Int) (hl : l.length ≤ 1000000) : Ab.Call Tryz.prog 130 [IL l] [] (fun r h' => (l = [] ∧ r = SN ∧ h' = []) ∨ ∃ b, r = .os b 0 l.length 1 ∧ h' = [(b, .svs (l.map fun x => I64 x))]) := by
  have hfm := fl_map l
  refine Call.enter' (N := 8) (rs := [.tmp 2]) Tryz.func130 rfl rfl rfl (by decide) rfl ?_; simp only [argT]; have hD : (0 : Nat) = 0 := rfl
  refine SW.seq_k fun K0 hK0 => ?_
  refine SW.region ?_
  simp only [go_sem, hD]
  refine hK0 _ ?_
  clear hK0 K0
  refine SW.seq_k fun K hK => ?_
  refine SW.seq_k fun K2 hK2 => ?_
  refine SW.region_nil (i := 0) (j := 3) (k := 4) rfl rfl rfl rfl rfl rfl Tryz.underlying38 rfl (by decide) (by decide) (fun hn => ?_) ?_
  · refine hK2 _ ?_
    clear hK2 K2
    have hl0 : l = [] := List.eq_nil_of_length_eq_zero hn
    subst hl0
    repeat' first | (refine SW.seq_k fun K hK => ?_) | ((first | refine SW.region ?_ | refine SW.cond ?_ | refine SW.ret ?_); try simp only [go_sem, hD]) | (apply hK; clear hK K)
    refine retQ_le (fun M w0 D N a w r => r) ?_
    simp only [resL_tmp, resL_nil, tupOf, go_sem, hD]
    try exact .inl ⟨rfl, rfl, rfl⟩
  · refine hK2 _ ?_
    clear hK2 K2
    repeat' first | (refine SW.seq_k fun K hK => ?_) | ((first | refine SW.region ?_ | refine SW.cond ?_ | refine SW.skip ?_ | (refine allF_i fun b hb => ?_; replace hD := And.intro hb hD; clear hb; try simp only [fresh_cons, fresh_nil, and_true, ne_eq, neF] at hD) | simp only [appK, appOsK]); try simp only [go_sem, hD]) | (apply hK; clear hK K)
    rw [hfm]
    refine ⟨?_, by omega, by omega, allF_i fun b' hb' => ?_⟩
    · rw [List.all_eq_true]
      intro x hx
      obtain ⟨r, _, rfl⟩ := List.mem_map.1 hx
      rfl
    · apply hK
      clear hK K
      repeat' (refine SW.ret ?_; try simp only [go_sem, hD])
      refine retQ_le (fun M w0 D N a w r => r) ?_
      simp only [resL_tmp, resL_nil, tupOf, go_sem, hD]
      exact .inr ⟨_, rfl, rfl⟩
end Go.Proofs.YtpidncgibgiidaaGreat
namespace Go.Proofs.YtpidncgibgiidaaGreat
open Go Go.Ab Go.Ab.A34 Go.Ab.A15
variable [Gl] [Tabs]
end Go.Proofs.YtpidncgibgiidaaGreat
namespace Go.Proofs.YtpidncgibgiidaaGreat
open Go Go.Ab Go.Ab.A34 Go.Ab.A15
variable [Gl] [Tabs]
end Go.Proofs.YtpidncgibgiidaaGreat
namespace Go.Ab.A34
open Go Go.Ab Go.Proofs
abbrev U8 (n : Int) : SV := .sc (.int .u8 n)
def codeV (c : Int) : V3 :=
  if c % 12 = 0 then (1, 0, ⟨#[]⟩) else if c % 12 = 1 then (1, 1, ⟨#[]⟩) else if c % 12 = 2 then (1, 2, ⟨#[]⟩) else if c % 12 = 3 then (0, 0, ⟨#[]⟩)
  else if c % 12 = 4 then (2, 0, ⟨#[97]⟩) else if c % 12 = 5 then (2, 0, ⟨#[98]⟩) else if c % 12 = 6 then (2, 0, ⟨#[]⟩) else if c % 12 = 7 then (3, 1, ⟨#[]⟩)
  else if c % 12 = 8 then (1, -1, ⟨#[]⟩) else if c % 12 = 9 then (2, 0, ⟨#[97, 98]⟩) else if c % 12 = 10 then (3, 2, ⟨#[]⟩) else (1, 7, ⟨#[]⟩)
def nm8 : List ByteArray := [⟨#[97]⟩, ⟨#[98]⟩, ⟨#[99]⟩, ⟨#[100]⟩, ⟨#[101]⟩, ⟨#[102]⟩, ⟨#[103]⟩, ⟨#[104]⟩]
abbrev UL (l : List Int) : SV := .fl l.length 1 (fun j => [U8 (l.getD j 0)])
abbrev UU (l : List (List Int)) : SV := .fl l.length 1 (fun i => [UL (l.getD i [])])
structure Rc where
  attrs : Int
  gap : Int
  rows : List (List Int)
abbrev RCC (x : Rc) : List SV := [U8 x.attrs, U8 x.gap, UU x.rows]
abbrev RC (x : Rc) : SV := .agg (RCC x)
def okRc (x : Rc) : Prop := (0 ≤ x.attrs ∧ x.attrs < 256) ∧ (0 ≤ x.gap ∧ x.gap < 256) ∧ ∀ r ∈ x.rows, ∀ c ∈ r, 0 ≤ c ∧ c < 256
def rowS (gap : Int) (n i : Nat) (r : List Int) : R3 := (1 + (i : Int) * (1 + gap % 3), (List.range n).map fun k => codeV (r.getD k 0))
def wideS (x : Rc) (n : Nat) : Tb := ⟨⟨#[114]⟩, nm8.take n, (List.range x.rows.length).map fun i => rowS x.gap n i (x.rows.getD i [])⟩
end Go.Ab.A34
namespace Go.Proofs.YtpidncgibgiidaaGreat
open Go Go.Ab Go.Ab.A34
variable [Gl] [Tabs]
theorem code_r (c : Int) (h1 : 0 ≤ c) (h2 : c < 256) : PCall Tryz.prog 126 [U8 c] (VV (codeV c)) := by
  have hm : c.tmod 12 = c % 12 := Int.tmod_eq_emod_of_nonneg h1
  have hk : c % 12 = 0 ∨ c % 12 = 1 ∨ c % 12 = 2 ∨ c % 12 = 3 ∨ c % 12 = 4 ∨ c % 12 = 5 ∨ c % 12 = 6 ∨ c % 12 = 7 ∨ c % 12 = 8 ∨ c % 12 = 9 ∨ c % 12 = 10 ∨ c % 12 = 11 := by omega
  obtain ⟨X, hX⟩ : ∃ X, X = codeV c := ⟨_, rfl⟩
  rw [← hX]
  unfold codeV at hX
  rcases hk with h | h | h | h | h | h | h | h | h | h | h | h
  all_goals
    rw [h] at hm hX
    simp only [Int.reduceEq, if_true, if_false] at hX
    subst hX
    refine Call.enter' (N := 39) (rs := [.cell 2 114]) Tryz.func126 rfl rfl rfl (by decide) rfl ?_; simp only [argT]; have hD : (0 : Nat) = 0 := rfl
    repeat' first | (refine SW.seq_k fun K hK => ?_) | (refine SW.block ?_) | ((first | refine SW.region ?_ | refine SW.cond ?_ | refine SW.skip ?_ | refine SW.ret ?_ | (refine allF_i fun b hb => ?_; replace hD := And.intro hb hD; clear hb; try simp only [fresh_cons, fresh_nil, and_true, ne_eq, neF] at hD)); try simp only [go_sem, hD, hm]) | (apply hK; clear hK K)
    apply ret_cell (i := 2) (n := 3); exact rfl; (simp only [go_sem, hD]; try rfl); (first | exact Nat.le_refl _ | decide); simp only [resL_tmp, resL_cellE, resC_ok, resL_nil, tupOf, getN, go_sem, hD]
end Go.Proofs.YtpidncgibgiidaaGreat
def Go.Ab.zJ2_1 : Go.Ab.OZ := (.one 0 [0, 1, 5, 6, 7] (.one 1 [1, 5, 6, 7] (.one 2 [2, 3, 4, 5, 6, 7] (.one 3 [3, 4, 5, 6, 7] (.alt 4 (.alt 5 (.one 6 [6, 7] (.alt 7 .done .nil)) .nil) .nil)))))
namespace Go.Proofs.YtpidncgibgiidaaGreat
open Go Go.Ab Go.Ab.A34
variable [Gl] [Tabs]
theorem wide_r (x : Rc) (hx : okRc x) (n : Nat) (hn : n ≤ 5) (hr : x.rows.length ≤ 1000) : PCall Tryz.prog 87 [RC x, I64 n] (TB (wideS x n)) := by
  obtain ⟨at', gap, rows⟩ := x
  obtain ⟨hx1, hx2, hx3⟩ := hx
  unfold wideS
  simp only at hx1 hx2 hx3 hr ⊢
  refine Call.enter' (N := 67) (rs := [.cell 4 72]) Tryz.func87 rfl rfl rfl (by decide) rfl ?_; simp only [argT]; have hD : (0 : Nat) = 0 := rfl
  refine SW.seq_k fun K hK => ?_
  (refine SW.region ?_; try simp only [go_sem, hD])
  ((refine allF_i fun b hb => ?_; replace hD := And.intro hb hD; clear hb; try simp only [fresh_cons, fresh_nil, and_true, ne_eq, neF] at hD); try simp only [go_sem, hD])
  ((refine allF_i fun b hb => ?_; replace hD := And.intro hb hD; clear hb; try simp only [fresh_cons, fresh_nil, and_true, ne_eq, neF] at hD); try simp only [go_sem, hD])
  (apply hK; clear hK K)
  obtain ⟨rb, rfl⟩ : ∃ x, x = b := ⟨_, rfl⟩
  obtain ⟨xb, rfl⟩ : ∃ x, x = b := ⟨_, rfl⟩
  have hrx : ¬ rb = xb := by simp [hD]
  have hxr : ¬ xb = rb := by simp [hD]
  clear hD
  have hD := And.intro (eq_false hrx) (eq_false hxr)
  refine SW.seq_k fun K hK => ?_
  have key : ∃ C Q', (∀ S, Ab.SW Tryz.prog 67 C Q' S → K S) ∧ ∀ tb, ¬ tb = rb → ¬ tb = xb → ¬ rb = tb → ¬ xb = tb → Ab.SW Tryz.prog 67 C Q' ⟨[(1, I64 n), (2, .op xb 0), (4, .op rb 0), (5, .op tb 0)], [(xb, .svs (RCC ⟨at', gap, rows⟩)), (tb, .svs [Str ⟨#[114]⟩, .fl n 1 (sF (nm8.take n)), .sc (.slice none 0 0)]), (rb, .svs [Str ⟨#[]⟩, .sc (.slice none 0 0), .sc (.slice none 0 0)])]⟩ := by
    refine ⟨_, _, hK, fun tb d1 d2 d3 d4 => ?_⟩
    clear hK K
    clear hD
    have hD := And.intro (eq_false d1) (And.intro (eq_false d2) (And.intro (eq_false d3) (And.intro (eq_false d4) (And.intro (eq_false hrx) (eq_false hxr)))))
    repeat' first | (refine SW.seq_k fun K hK => ?_) | (refine SW.block ?_) | (refine SW.region ?_; try simp only [go_sem, hD]) | (apply hK; clear hK K)
    obtain ⟨I, hI⟩ : ∃ I : Nat → St → Prop, ∀ k S, I k S ↔ (∃ (i : Nat) (h : Heap), k = rows.length - i ∧ i ≤ rows.length ∧ ((i = 0 ∧ h = [(xb, .svs (RCC ⟨at', gap, rows⟩)), (tb, .svs [Str ⟨#[114]⟩, .fl n 1 (sF (nm8.take n)), .sc (.slice none 0 0)]), (rb, .svs [Str ⟨#[]⟩, .sc (.slice none 0 0), .sc (.slice none 0 0)])]) ∨ (0 < i ∧ ∃ g, ¬ g = xb ∧ ¬ xb = g ∧ ¬ g = tb ∧ ¬ tb = g ∧ ¬ g = rb ∧ ¬ rb = g ∧ h = [(xb, .svs (RCC ⟨at', gap, rows⟩)), (g, .svs (fC rC ((List.range i).map fun j => rowS gap n j (rows.getD j [])))), (tb, .svs [Str ⟨#[114]⟩, .fl n 1 (sF (nm8.take n)), .os g 0 i 2]), (rb, .svs [Str ⟨#[]⟩, .sc (.slice none 0 0), .sc (.slice none 0 0)])])) ∧ S = ⟨[(1, I64 n), (2, .op xb 0), (4, .op rb 0), (5, .op tb 0), (6, I64 i)], h⟩) := ⟨fun k S => _, fun _ _ => Iff.rfl⟩
    refine SW.loop' I (rows.length) ((hI _ _).2 ⟨0, _, rfl, Nat.zero_le _, .inl ⟨rfl, rfl⟩, rfl⟩) (by repeat' (first | exact rfl | exact trivial | constructor)) ?_
    intro k S hIn
    obtain ⟨i, h, rfl, hi, hB, rfl⟩ := (hI _ _).1 hIn
    clear hIn
    have ie : ((i : Nat) : Int).toNat = i := Int.toNat_natCast _
    have i0 : (0 : Int) ≤ ((i : Nat) : Int) := by omega
    by_cases hlt : i < rows.length
    · have hli : ((i : Nat) : Int) < (((rows.length) : Nat) : Int) := by omega
      have w1 : IntKind.i64.wrap ((i : Int) + 1) = ((i + 1 : Nat) : Int) := by rw [i64_wrap (by omega) (by omega)]; omega
      have hg3 : gap.tmod 3 = gap % 3 := Int.tmod_eq_emod_of_nonneg hx2.1
      have q1 : IntKind.i64.wrap (gap % 3) = gap % 3 := by rw [i64_wrap (by omega) (by omega)]
      have q2 : IntKind.i64.wrap (1 + gap % 3) = 1 + gap % 3 := by rw [i64_wrap (by omega) (by omega)]
      have q5 : 0 ≤ (i : Int) * (1 + gap % 3) ∧ (i : Int) * (1 + gap % 3) ≤ 3000 := by
        have : gap % 3 = 0 ∨ gap % 3 = 1 ∨ gap % 3 = 2 := by omega
        rcases this with h | h | h <;> rw [h] <;> omega
      have q3 : IntKind.i64.wrap ((i : Int) * (1 + gap % 3)) = (i : Int) * (1 + gap % 3) := by rw [i64_wrap (by omega) (by omega)]
      obtain ⟨id, hid⟩ : ∃ z, 1 + (i : Int) * (1 + gap % 3) = z := ⟨_, rfl⟩
      have q4 : IntKind.i64.wrap (1 + (i : Int) * (1 + gap % 3)) = id := by rw [i64_wrap (by omega) (by omega), hid]
      obtain ⟨row, hrow⟩ : ∃ r, rows.getD i [] = r := ⟨_, rfl⟩
      have hr3 := hx3 _ (getD_mem [] hlt)
      rw [hrow] at hr3
      have hmp : ((List.range (i + 1)).map fun j => rowS gap n j (rows.getD j [])) = ((List.range i).map fun j => rowS gap n j (rows.getD j [])) ++ [rowS gap n i row] := by rw [List.range_succ, List.map_append, ← hrow]; rfl
      have hsl : ((List.range i).map fun j => rowS gap n j (rows.getD j [])).length = i := by simp
      have hrw : rowS gap n i row = (id, (List.range n).map fun k => codeV (row.getD k 0)) := by unfold rowS; rw [hid]
      generalize ((List.range i).map fun j => rowS gap n j (rows.getD j [])) = Li at *
      have ba : (i + 1) * 32 ≤ 140737488355328 := by omega
      rcases hB with ⟨hi0, rfl⟩ | ⟨hi0, g, u1, u2, u3, u4, u5, u6, rfl⟩
      · repeat' first | (refine SW.seq_k fun K hK => ?_) | (refine SW.block ?_) | ((first | refine SW.region ?_ | refine SW.cond ?_ | refine SW.skip ?_ | (refine allF_i fun b hb => ?_; replace hD := And.intro hb hD; clear hb; try simp only [fresh_cons, fresh_nil, and_true, ne_eq, neF] at hD)); try simp only [go_sem, hD, hli, ie, i0, w1, hg3, q1, q2, q3, q4]) | (apply hK; clear hK K)
        obtain ⟨vb, rfl⟩ : ∃ x, x = b := ⟨_, rfl⟩
        obtain ⟨R, hR⟩ : ∃ R : Heap, R = [(tb, .svs [Str ⟨#[114]⟩, .fl n 1 (sF (nm8.take n)), .sc (.slice none 0 0)]), (rb, .svs [Str ⟨#[]⟩, .sc (.slice none 0 0), .sc (.slice none 0 0)])] := ⟨_, rfl⟩
        rw [← hR]
        have v1 : ¬ vb = xb := by simp [hD]
        have v2 : ¬ xb = vb := by simp [hD]
        have v3 : fresh R vb := by rw [hR]; simp [fresh_cons, fresh_nil, hD]
        have v4 : fresh R xb := by rw [hR]; simp [fresh_cons, fresh_nil, d2, d4, hrx, hxr]
        clear hD
        have hD := And.intro (eq_false v1) (eq_false v2)
        obtain ⟨J, hJ⟩ : ∃ J : Nat → St → Prop, ∀ m S, J m S ↔ (∃ (k : Nat) (h : Heap), m = n - k ∧ k ≤ n ∧ ((k = 0 ∧ h = (vb, .svs [I64 id, .sc (.slice none 0 0)]) :: (xb, .svs (RCC ⟨at', gap, rows⟩)) :: R) ∨ (0 < k ∧ ∃ g2, ¬ g2 = vb ∧ ¬ vb = g2 ∧ ¬ g2 = xb ∧ ¬ xb = g2 ∧ fresh R g2 ∧ h = (g2, .svs (vCs ((List.range k).map fun k => codeV (row.getD k 0)))) :: (vb, .svs [I64 id, .os g2 0 k 3]) :: (xb, .svs (RCC ⟨at', gap, rows⟩)) :: R)) ∧ S = ⟨[(1, I64 n), (2, .op xb 0), (4, .op rb 0), (5, .op tb 0), (6, I64 i), (7, .op vb 0), (8, I64 k)], h⟩) := ⟨fun m S => _, fun _ _ => Iff.rfl⟩
        refine SW.loop' J n ((hJ _ _).2 ⟨0, _, rfl, Nat.zero_le _, .inl ⟨rfl, rfl⟩, rfl⟩) (by repeat' (first | exact rfl | exact trivial | constructor)) ?_
        intro m S hIn
        obtain ⟨k, h, rfl, hk, hV, rfl⟩ := (hJ _ _).1 hIn
        clear hIn
        have ke : ((k : Nat) : Int).toNat = k := Int.toNat_natCast _
        have k0 : (0 : Int) ≤ ((k : Nat) : Int) := by omega
        by_cases hkn : k < n
        · have hkni : ((k : Nat) : Int) < ((n : Nat) : Int) := by omega
          have wk : IntKind.i64.wrap ((k : Int) + 1) = ((k + 1 : Nat) : Int) := by rw [i64_wrap (by omega) (by omega)]; omega
          have hvp : ((List.range (k + 1)).map fun k => codeV (row.getD k 0)) = ((List.range k).map fun k => codeV (row.getD k 0)) ++ [codeV (row.getD k 0)] := by rw [List.range_succ, List.map_append]; rfl
          have hvl : ((List.range k).map fun k => codeV (row.getD k 0)).length = k := by simp
          have bk : (k + 1) * 32 ≤ 140737488355328 := by omega
          by_cases hkr : k < row.length
          · have hkri : ((k : Nat) : Int) < ((row.length : Nat) : Int) := by omega
            have hc3 := hr3 _ (getD_mem 0 hkr)
            have cr := code_r (row.getD k 0) hc3.1 hc3.2
            generalize codeV (row.getD k 0) = cv at *
            obtain ⟨ck, cn, ct⟩ := cv
            rcases hV with ⟨hk0, rfl⟩ | ⟨hk0, g2, f1, f2, f3, f4, f5, rfl⟩
            · subst hk0
              repeat' first | (with_reducible refine And.intro (by omega) ?_) | (refine SW.seq_k fun K hK => ?_) | (refine SW.block ?_) | ((first | refine SW.region ?_ | refine SW.regionZ (id := 12) (Checked.mixed Tryz.checked) Go.Ab.zJ2_1 (by kernel_rfl) ?_ | refine SW.cond ?_ | refine SW.skip ?_ | refine ⟨_, cr, ?_⟩ | (refine allF_i fun b hb => ?_; replace hD := And.intro hb hD; clear hb; try simp only [fresh_cons, fresh_nil, and_true, ne_eq, neF] at hD) | simp only [appK, appOsK]); try simp only [Go.Ab.zJ2_1, go_sem, hD, hli, ie, i0, hkni, ke, k0, wk, hrow, hkri, bk, true_implies]) | (refine And.intro (by omega) ?_) | (refine ifI (fun hc => ?_) (fun hc => ?_) <;> first | (exfalso; omega) | skip) | (apply hK; clear hK K)
              obtain ⟨nb, rfl⟩ : ∃ x, x = b := ⟨_, rfl⟩
              refine Rnd.le (St.le_del (b := b)) ?_
              simp only [go_sem, hD]
              refine Rnd.sub (n - (0 + 1)) (by omega) ((hJ _ _).2 ⟨0 + 1, _, rfl, by omega, .inr ⟨by omega, nb, by simp [hD], by simp [hD], by simp [hD], by simp [hD], by simp [hD], by rw [hvp]; rfl⟩, rfl⟩) (by repeat' (first | exact rfl | exact trivial | constructor))
            · have hD := And.intro (And.intro (eq_false f1) (eq_false f2)) (And.intro (And.intro (eq_false f3) (eq_false f4)) hD)
              have hvc : (vCs ((List.range k).map fun k => codeV (row.getD k 0))).length = k * 3 := by rw [← vCs_len, hvl]
              repeat' first | (with_reducible refine And.intro (by omega) ?_) | (refine SW.seq_k fun K hK => ?_) | (refine SW.block ?_) | ((first | refine SW.region ?_ | refine SW.regionZ (id := 12) (Checked.mixed Tryz.checked) Go.Ab.zJ2_1 (by kernel_rfl) ?_ | refine SW.cond ?_ | refine SW.skip ?_ | refine ⟨_, cr, ?_⟩ | (refine allF_i fun b hb => ?_; replace hD := And.intro hb hD; clear hb; try simp only [fresh_cons, fresh_nil, and_true, ne_eq, neF] at hD) | simp only [appK, appOsK]); try simp only [Go.Ab.zJ2_1, go_sem, hD, hli, ie, i0, hkni, ke, k0, wk, hrow, hkri, bk, hvc, true_implies]) | (apply hK; clear hK K)
              obtain ⟨nb, rfl⟩ : ∃ x, x = b := ⟨_, rfl⟩
              refine Rnd.le (St.le_del (b := b)) ?_
              simp only [go_sem, hD]
              refine Rnd.sub (n - (k + 1)) (by omega) ((hJ _ _).2 ⟨k + 1, _, rfl, by omega, .inr ⟨by omega, nb, by simp [hD], by simp [hD], by simp [hD], by simp [hD], by simp [hD], by rw [hvp, ← vCs_snoc]⟩, rfl⟩) (by repeat' (first | exact rfl | exact trivial | constructor))
          · have hkri : ¬ ((k : Nat) : Int) < ((row.length : Nat) : Int) := by omega
            have hz : row.getD k 0 = 0 := by rw [List.getD_eq_getElem?_getD, List.getElem?_eq_none (by omega)]; rfl
            have cr := code_r 0 (by omega) (by omega)
            rw [hz] at hvp
            generalize codeV 0 = cv at *
            obtain ⟨ck, cn, ct⟩ := cv
            rcases hV with ⟨hk0, rfl⟩ | ⟨hk0, g2, f1, f2, f3, f4, f5, rfl⟩
            · subst hk0
              repeat' first | (with_reducible refine And.intro (by omega) ?_) | (refine SW.seq_k fun K hK => ?_) | (refine SW.block ?_) | ((first | refine SW.region ?_ | refine SW.regionZ (id := 12) (Checked.mixed Tryz.checked) Go.Ab.zJ2_1 (by kernel_rfl) ?_ | refine SW.cond ?_ | refine SW.skip ?_ | refine ⟨_, cr, ?_⟩ | (refine allF_i fun b hb => ?_; replace hD := And.intro hb hD; clear hb; try simp only [fresh_cons, fresh_nil, and_true, ne_eq, neF] at hD) | simp only [appK, appOsK]); try simp only [Go.Ab.zJ2_1, go_sem, hD, hli, ie, i0, hkni, ke, k0, wk, hrow, hkri, bk, true_implies]) | (refine And.intro (by omega) ?_) | (refine ifI (fun hc => ?_) (fun hc => ?_) <;> first | (exfalso; omega) | skip) | (apply hK; clear hK K)
              obtain ⟨nb, rfl⟩ : ∃ x, x = b := ⟨_, rfl⟩
              refine Rnd.le (St.le_del (b := b)) ?_
              simp only [go_sem, hD]
              refine Rnd.sub (n - (0 + 1)) (by omega) ((hJ _ _).2 ⟨0 + 1, _, rfl, by omega, .inr ⟨by omega, nb, by simp [hD], by simp [hD], by simp [hD], by simp [hD], by simp [hD], by rw [hvp]; rfl⟩, rfl⟩) (by repeat' (first | exact rfl | exact trivial | constructor))
            · have hD := And.intro (And.intro (eq_false f1) (eq_false f2)) (And.intro (And.intro (eq_false f3) (eq_false f4)) hD)
              have hvc : (vCs ((List.range k).map fun k => codeV (row.getD k 0))).length = k * 3 := by rw [← vCs_len, hvl]
              repeat' first | (with_reducible refine And.intro (by omega) ?_) | (refine SW.seq_k fun K hK => ?_) | (refine SW.block ?_) | ((first | refine SW.region ?_ | refine SW.regionZ (id := 12) (Checked.mixed Tryz.checked) Go.Ab.zJ2_1 (by kernel_rfl) ?_ | refine SW.cond ?_ | refine SW.skip ?_ | refine ⟨_, cr, ?_⟩ | (refine allF_i fun b hb => ?_; replace hD := And.intro hb hD; clear hb; try simp only [fresh_cons, fresh_nil, and_true, ne_eq, neF] at hD) | simp only [appK, appOsK]); try simp only [Go.Ab.zJ2_1, go_sem, hD, hli, ie, i0, hkni, ke, k0, wk, hrow, hkri, bk, hvc, true_implies]) | (apply hK; clear hK K)
              obtain ⟨nb, rfl⟩ : ∃ x, x = b := ⟨_, rfl⟩
              refine Rnd.le (St.le_del (b := b)) ?_
              simp only [go_sem, hD]
              refine Rnd.sub (n - (k + 1)) (by omega) ((hJ _ _).2 ⟨k + 1, _, rfl, by omega, .inr ⟨by omega, nb, by simp [hD], by simp [hD], by simp [hD], by simp [hD], by simp [hD], by rw [hvp, ← vCs_snoc]⟩, rfl⟩) (by repeat' (first | exact rfl | exact trivial | constructor))
        have hkni : ¬ ((k : Nat) : Int) < ((n : Nat) : Int) := by omega
        obtain rfl : k = n := by omega
        have hVl : ((List.range k).map fun k => codeV (row.getD k 0)).length = k := by simp
        have hwl := hrw
        generalize ((List.range k).map fun k => codeV (row.getD k 0)) = V at *
        apply Ab.SW.le (S' := ⟨[(1, I64 k), (2, .op xb 0), (4, .op rb 0), (5, .op tb 0), (6, I64 i), (7, .op vb 0), (8, I64 k)], (vb, .svs [I64 id, VL V]) :: (xb, .svs (RCC ⟨at', gap, rows⟩)) :: R⟩)
        · rcases hV with ⟨hk0, rfl⟩ | ⟨hk0, g2, f1, f2, f3, f4, f5, rfl⟩
          · subst hk0
            have hVn : V = [] := List.eq_nil_of_length_eq_zero hVl
            subst hVn
            have := St.le_nilC (t := [(1, I64 (0 : Nat)), (2, .op xb 0), (4, .op rb 0), (5, .op tb 0), (6, I64 i), (7, .op vb 0), (8, I64 (0 : Nat))]) (h := (vb, .svs [I64 id, .sc (.slice none 0 0)]) :: (xb, .svs (RCC ⟨at', gap, rows⟩)) :: R) (c := vb) (j := 1) (sz := 3) (f := vF []) (by rw [find_cons, if_pos rfl]) (by show 1 < 2; omega) rfl
            rw [upd_cons, if_pos rfl] at this
            exact this
          · have := St.le_accC (t := [(1, I64 k), (2, .op xb 0), (4, .op rb 0), (5, .op tb 0), (6, I64 i), (7, .op vb 0), (8, I64 k)]) (sz := 3) (n := k) (c := vb) (j := 1) (Acc.osH (b := g2) (cs := vCs V) (h0 := (vb, .svs [I64 id, .os g2 0 k 3]) :: (xb, .svs (RCC ⟨at', gap, rows⟩)) :: R) (by simp only [fresh_cons, ne_eq]; exact ⟨⟨f2, f1⟩, ⟨f4, f3⟩, f5⟩) (by rw [← vCs_len, hVl])) (by rw [find_cons, if_pos rfl]) (by show 1 < 2; omega) rfl (vF V) (fun j hj => vCs_at V j (by omega))
            rw [upd_cons, if_pos rfl] at this
            unfold VL
            rw [hVl]
            exact this
        subst hR
        simp only [fresh_cons, fresh_nil, and_true, ne_eq, neF] at v3 v4
        have hD := And.intro v3 (And.intro v4 (And.intro (And.intro (eq_false v1) (eq_false v2)) (And.intro (And.intro (eq_false d1) (eq_false d3)) (And.intro (eq_false hrx) (eq_false hxr)))))
        subst hi0
        have hLn : Li = [] := List.eq_nil_of_length_eq_zero hsl
        subst hLn
        repeat' first | (with_reducible refine And.intro (by omega) ?_) | (refine SW.seq_k fun K hK => ?_) | ((first | refine SW.region ?_ | refine SW.cond ?_ | refine SW.exit ?_ | (refine allF_i fun b hb => ?_; replace hD := And.intro hb hD; clear hb; try simp only [fresh_cons, fresh_nil, and_true, ne_eq, neF] at hD) | simp only [appK, appOsK]); try simp only [go_sem, hD, hkni, w1, ba, true_implies]) | (refine And.intro (by omega) ?_) | (apply hK; clear hK K) | (clear hK K; apply hK; clear hK K)
        refine Rnd.le (St.le_pick _ ?_ ?_) (Rnd.sub (rows.length - (0 + 1)) (by omega) ((hI _ _).2 ⟨0 + 1, [(xb, .svs (RCC ⟨at', gap, rows⟩)), (b, .svs (rC (id, V))), (tb, .svs [Str ⟨#[114]⟩, .fl k 1 (sF (nm8.take k)), .os b 0 1 2]), (rb, .svs [Str ⟨#[]⟩, .sc (.slice none 0 0), .sc (.slice none 0 0)])], rfl, by omega, .inr ⟨by omega, b, by simp [hD], by simp [hD], by simp [hD], by simp [hD], by simp [hD], by simp [hD], by rw [hmp, hrw]; rfl⟩, rfl⟩) (by repeat' (first | exact rfl | exact trivial | constructor)))
        · repeat' (first | exact (fun x hx => (List.not_mem_nil hx).elim) | refine List.forall_mem_cons.2 ⟨?_, ?_⟩ | exact List.mem_cons_self | apply List.mem_cons_of_mem)
        · simp [fresh_cons, fresh_nil, hD]
      · have hD := And.intro (And.intro (eq_false u1) (eq_false u2)) (And.intro (And.intro (eq_false u3) (eq_false u4)) (And.intro (And.intro (eq_false u5) (eq_false u6)) hD))
        repeat' first | (refine SW.seq_k fun K hK => ?_) | (refine SW.block ?_) | ((first | refine SW.region ?_ | refine SW.cond ?_ | refine SW.skip ?_ | (refine allF_i fun b hb => ?_; replace hD := And.intro hb hD; clear hb; try simp only [fresh_cons, fresh_nil, and_true, ne_eq, neF] at hD)); try simp only [go_sem, hD, hli, ie, i0, w1, hg3, q1, q2, q3, q4]) | (apply hK; clear hK K)
        obtain ⟨vb, rfl⟩ : ∃ x, x = b := ⟨_, rfl⟩
        obtain ⟨R, hR⟩ : ∃ R : Heap, R = [(g, .svs (fC rC Li)), (tb, .svs [Str ⟨#[114]⟩, .fl n 1 (sF (nm8.take n)), .os g 0 i 2]), (rb, .svs [Str ⟨#[]⟩, .sc (.slice none 0 0), .sc (.slice none 0 0)])] := ⟨_, rfl⟩
        rw [← hR]
        have v1 : ¬ vb = xb := by simp [hD]
        have v2 : ¬ xb = vb := by simp [hD]
        have v3 : fresh R vb := by rw [hR]; simp [fresh_cons, fresh_nil, hD]
        have v4 : fresh R xb := by rw [hR]; simp [fresh_cons, fresh_nil, d2, d4, hrx, hxr, u1, u2]
        clear hD
        have hD := And.intro (eq_false v1) (eq_false v2)
        obtain ⟨J, hJ⟩ : ∃ J : Nat → St → Prop, ∀ m S, J m S ↔ (∃ (k : Nat) (h : Heap), m = n - k ∧ k ≤ n ∧ ((k = 0 ∧ h = (vb, .svs [I64 id, .sc (.slice none 0 0)]) :: (xb, .svs (RCC ⟨at', gap, rows⟩)) :: R) ∨ (0 < k ∧ ∃ g2, ¬ g2 = vb ∧ ¬ vb = g2 ∧ ¬ g2 = xb ∧ ¬ xb = g2 ∧ fresh R g2 ∧ h = (g2, .svs (vCs ((List.range k).map fun k => codeV (row.getD k 0)))) :: (vb, .svs [I64 id, .os g2 0 k 3]) :: (xb, .svs (RCC ⟨at', gap, rows⟩)) :: R)) ∧ S = ⟨[(1, I64 n), (2, .op xb 0), (4, .op rb 0), (5, .op tb 0), (6, I64 i), (7, .op vb 0), (8, I64 k)], h⟩) := ⟨fun m S => _, fun _ _ => Iff.rfl⟩
        refine SW.loop' J n ((hJ _ _).2 ⟨0, _, rfl, Nat.zero_le _, .inl ⟨rfl, rfl⟩, rfl⟩) (by repeat' (first | exact rfl | exact trivial | constructor)) ?_
        intro m S hIn
        obtain ⟨k, h, rfl, hk, hV, rfl⟩ := (hJ _ _).1 hIn
        clear hIn
        have ke : ((k : Nat) : Int).toNat = k := Int.toNat_natCast _
        have k0 : (0 : Int) ≤ ((k : Nat) : Int) := by omega
        by_cases hkn : k < n
        · have hkni : ((k : Nat) : Int) < ((n : Nat) : Int) := by omega
          have wk : IntKind.i64.wrap ((k : Int) + 1) = ((k + 1 : Nat) : Int) := by rw [i64_wrap (by omega) (by omega)]; omega
          have hvp : ((List.range (k + 1)).map fun k => codeV (row.getD k 0)) = ((List.range k).map fun k => codeV (row.getD k 0)) ++ [codeV (row.getD k 0)] := by rw [List.range_succ, List.map_append]; rfl
          have hvl : ((List.range k).map fun k => codeV (row.getD k 0)).length = k := by simp
          have bk : (k + 1) * 32 ≤ 140737488355328 := by omega
          by_cases hkr : k < row.length
          · have hkri : ((k : Nat) : Int) < ((row.length : Nat) : Int) := by omega
            have hc3 := hr3 _ (getD_mem 0 hkr)
            have cr := code_r (row.getD k 0) hc3.1 hc3.2
            generalize codeV (row.getD k 0) = cv at *
            obtain ⟨ck, cn, ct⟩ := cv
            rcases hV with ⟨hk0, rfl⟩ | ⟨hk0, g2, f1, f2, f3, f4, f5, rfl⟩
            · subst hk0
              repeat' first | (with_reducible refine And.intro (by omega) ?_) | (refine SW.seq_k fun K hK => ?_) | (refine SW.block ?_) | ((first | refine SW.region ?_ | refine SW.regionZ (id := 12) (Checked.mixed Tryz.checked) Go.Ab.zJ2_1 (by kernel_rfl) ?_ | refine SW.cond ?_ | refine SW.skip ?_ | refine ⟨_, cr, ?_⟩ | (refine allF_i fun b hb => ?_; replace hD := And.intro hb hD; clear hb; try simp only [fresh_cons, fresh_nil, and_true, ne_eq, neF] at hD) | simp only [appK, appOsK]); try simp only [Go.Ab.zJ2_1, go_sem, hD, hli, ie, i0, hkni, ke, k0, wk, hrow, hkri, bk, true_implies]) | (refine And.intro (by omega) ?_) | (refine ifI (fun hc => ?_) (fun hc => ?_) <;> first | (exfalso; omega) | skip) | (apply hK; clear hK K)
              obtain ⟨nb, rfl⟩ : ∃ x, x = b := ⟨_, rfl⟩
              refine Rnd.le (St.le_del (b := b)) ?_
              simp only [go_sem, hD]
              refine Rnd.sub (n - (0 + 1)) (by omega) ((hJ _ _).2 ⟨0 + 1, _, rfl, by omega, .inr ⟨by omega, nb, by simp [hD], by simp [hD], by simp [hD], by simp [hD], by simp [hD], by rw [hvp]; rfl⟩, rfl⟩) (by repeat' (first | exact rfl | exact trivial | constructor))
            · have hD := And.intro (And.intro (eq_false f1) (eq_false f2)) (And.intro (And.intro (eq_false f3) (eq_false f4)) hD)
              have hvc : (vCs ((List.range k).map fun k => codeV (row.getD k 0))).length = k * 3 := by rw [← vCs_len, hvl]
              repeat' first | (with_reducible refine And.intro (by omega) ?_) | (refine SW.seq_k fun K hK => ?_) | (refine SW.block ?_) | ((first | refine SW.region ?_ | refine SW.regionZ (id := 12) (Checked.mixed Tryz.checked) Go.Ab.zJ2_1 (by kernel_rfl) ?_ | refine SW.cond ?_ | refine SW.skip ?_ | refine ⟨_, cr, ?_⟩ | (refine allF_i fun b hb => ?_; replace hD := And.intro hb hD; clear hb; try simp only [fresh_cons, fresh_nil, and_true, ne_eq, neF] at hD) | simp only [appK, appOsK]); try simp only [Go.Ab.zJ2_1, go_sem, hD, hli, ie, i0, hkni, ke, k0, wk, hrow, hkri, bk, hvc, true_implies]) | (apply hK; clear hK K)
              obtain ⟨nb, rfl⟩ : ∃ x, x = b := ⟨_, rfl⟩
              refine Rnd.le (St.le_del (b := b)) ?_
              simp only [go_sem, hD]
              refine Rnd.sub (n - (k + 1)) (by omega) ((hJ _ _).2 ⟨k + 1, _, rfl, by omega, .inr ⟨by omega, nb, by simp [hD], by simp [hD], by simp [hD], by simp [hD], by simp [hD], by rw [hvp, ← vCs_snoc]⟩, rfl⟩) (by repeat' (first | exact rfl | exact trivial | constructor))
          · have hkri : ¬ ((k : Nat) : Int) < ((row.length : Nat) : Int) := by omega
            have hz : row.getD k 0 = 0 := by rw [List.getD_eq_getElem?_getD, List.getElem?_eq_none (by omega)]; rfl
            have cr := code_r 0 (by omega) (by omega)
            rw [hz] at hvp
            generalize codeV 0 = cv at *
            obtain ⟨ck, cn, ct⟩ := cv
            rcases hV with ⟨hk0, rfl⟩ | ⟨hk0, g2, f1, f2, f3, f4, f5, rfl⟩
            · subst hk0
              repeat' first | (with_reducible refine And.intro (by omega) ?_) | (refine SW.seq_k fun K hK => ?_) | (refine SW.block ?_) | ((first | refine SW.region ?_ | refine SW.regionZ (id := 12) (Checked.mixed Tryz.checked) Go.Ab.zJ2_1 (by kernel_rfl) ?_ | refine SW.cond ?_ | refine SW.skip ?_ | refine ⟨_, cr, ?_⟩ | (refine allF_i fun b hb => ?_; replace hD := And.intro hb hD; clear hb; try simp only [fresh_cons, fresh_nil, and_true, ne_eq, neF] at hD) | simp only [appK, appOsK]); try simp only [Go.Ab.zJ2_1, go_sem, hD, hli, ie, i0, hkni, ke, k0, wk, hrow, hkri, bk, true_implies]) | (refine And.intro (by omega) ?_) | (refine ifI (fun hc => ?_) (fun hc => ?_) <;> first | (exfalso; omega) | skip) | (apply hK; clear hK K)
              obtain ⟨nb, rfl⟩ : ∃ x, x = b := ⟨_, rfl⟩
              refine Rnd.le (St.le_del (b := b)) ?_
              simp only [go_sem, hD]
              refine Rnd.sub (n - (0 + 1)) (by omega) ((hJ _ _).2 ⟨0 + 1, _, rfl, by omega, .inr ⟨by omega, nb, by simp [hD], by simp [hD], by simp [hD], by simp [hD], by simp [hD], by rw [hvp]; rfl⟩, rfl⟩) (by repeat' (first | exact rfl | exact trivial | constructor))
            · have hD := And.intro (And.intro (eq_false f1) (eq_false f2)) (And.intro (And.intro (eq_false f3) (eq_false f4)) hD)
              have hvc : (vCs ((List.range k).map fun k => codeV (row.getD k 0))).length = k * 3 := by rw [← vCs_len, hvl]
              repeat' first | (with_reducible refine And.intro (by omega) ?_) | (refine SW.seq_k fun K hK => ?_) | (refine SW.block ?_) | ((first | refine SW.region ?_ | refine SW.regionZ (id := 12) (Checked.mixed Tryz.checked) Go.Ab.zJ2_1 (by kernel_rfl) ?_ | refine SW.cond ?_ | refine SW.skip ?_ | refine ⟨_, cr, ?_⟩ | (refine allF_i fun b hb => ?_; replace hD := And.intro hb hD; clear hb; try simp only [fresh_cons, fresh_nil, and_true, ne_eq, neF] at hD) | simp only [appK, appOsK]); try simp only [Go.Ab.zJ2_1, go_sem, hD, hli, ie, i0, hkni, ke, k0, wk, hrow, hkri, bk, hvc, true_implies]) | (apply hK; clear hK K)
              obtain ⟨nb, rfl⟩ : ∃ x, x = b := ⟨_, rfl⟩
              refine Rnd.le (St.le_del (b := b)) ?_
              simp only [go_sem, hD]
              refine Rnd.sub (n - (k + 1)) (by omega) ((hJ _ _).2 ⟨k + 1, _, rfl, by omega, .inr ⟨by omega, nb, by simp [hD], by simp [hD], by simp [hD], by simp [hD], by simp [hD], by rw [hvp, ← vCs_snoc]⟩, rfl⟩) (by repeat' (first | exact rfl | exact trivial | constructor))
        have hkni : ¬ ((k : Nat) : Int) < ((n : Nat) : Int) := by omega
        obtain rfl : k = n := by omega
        have hVl : ((List.range k).map fun k => codeV (row.getD k 0)).length = k := by simp
        have hwl := hrw
        generalize ((List.range k).map fun k => codeV (row.getD k 0)) = V at *
        apply Ab.SW.le (S' := ⟨[(1, I64 k), (2, .op xb 0), (4, .op rb 0), (5, .op tb 0), (6, I64 i), (7, .op vb 0), (8, I64 k)], (vb, .svs [I64 id, VL V]) :: (xb, .svs (RCC ⟨at', gap, rows⟩)) :: R⟩)
        · rcases hV with ⟨hk0, rfl⟩ | ⟨hk0, g2, f1, f2, f3, f4, f5, rfl⟩
          · subst hk0
            have hVn : V = [] := List.eq_nil_of_length_eq_zero hVl
            subst hVn
            have := St.le_nilC (t := [(1, I64 (0 : Nat)), (2, .op xb 0), (4, .op rb 0), (5, .op tb 0), (6, I64 i), (7, .op vb 0), (8, I64 (0 : Nat))]) (h := (vb, .svs [I64 id, .sc (.slice none 0 0)]) :: (xb, .svs (RCC ⟨at', gap, rows⟩)) :: R) (c := vb) (j := 1) (sz := 3) (f := vF []) (by rw [find_cons, if_pos rfl]) (by show 1 < 2; omega) rfl
            rw [upd_cons, if_pos rfl] at this
            exact this
          · have := St.le_accC (t := [(1, I64 k), (2, .op xb 0), (4, .op rb 0), (5, .op tb 0), (6, I64 i), (7, .op vb 0), (8, I64 k)]) (sz := 3) (n := k) (c := vb) (j := 1) (Acc.osH (b := g2) (cs := vCs V) (h0 := (vb, .svs [I64 id, .os g2 0 k 3]) :: (xb, .svs (RCC ⟨at', gap, rows⟩)) :: R) (by simp only [fresh_cons, ne_eq]; exact ⟨⟨f2, f1⟩, ⟨f4, f3⟩, f5⟩) (by rw [← vCs_len, hVl])) (by rw [find_cons, if_pos rfl]) (by show 1 < 2; omega) rfl (vF V) (fun j hj => vCs_at V j (by omega))
            rw [upd_cons, if_pos rfl] at this
            unfold VL
            rw [hVl]
            exact this
        subst hR
        simp only [fresh_cons, fresh_nil, and_true, ne_eq, neF] at v3 v4
        have hD := And.intro v3 (And.intro v4 (And.intro (And.intro (eq_false v1) (eq_false v2)) (And.intro (And.intro (eq_false d1) (eq_false d3)) (And.intro (eq_false hrx) (And.intro (eq_false hxr) (And.intro (And.intro (eq_false u3) (eq_false u4)) (And.intro (eq_false u5) (eq_false u6))))))))
        have hfc : (fC rC Li).length = i * 2 := by rw [← fC_len (k := 2) (fun _ => rfl), hsl]
        repeat' first | (with_reducible refine And.intro (by omega) ?_) | (refine SW.seq_k fun K hK => ?_) | ((first | refine SW.region ?_ | refine SW.cond ?_ | refine SW.exit ?_ | (refine allF_i fun b hb => ?_; replace hD := And.intro hb hD; clear hb; try simp only [fresh_cons, fresh_nil, and_true, ne_eq, neF] at hD) | simp only [appK, appOsK]); try simp only [go_sem, hD, hkni, w1, ba, hfc, true_implies]) | (apply hK; clear hK K) | (clear hK K; apply hK; clear hK K)
        refine Rnd.le (St.le_pick _ ?_ ?_) (Rnd.sub (rows.length - (i + 1)) (by omega) ((hI _ _).2 ⟨i + 1, [(xb, .svs (RCC ⟨at', gap, rows⟩)), (b, .svs (fC rC Li ++ rC (id, V))), (tb, .svs [Str ⟨#[114]⟩, .fl k 1 (sF (nm8.take k)), .os b 0 (i + 1) 2]), (rb, .svs [Str ⟨#[]⟩, .sc (.slice none 0 0), .sc (.slice none 0 0)])], rfl, by omega, .inr ⟨by omega, b, by simp [hD], by simp [hD], by simp [hD], by simp [hD], by simp [hD], by simp [hD], by rw [hmp, hrw, ← fC_snoc]⟩, rfl⟩) (by repeat' (first | exact rfl | exact trivial | constructor)))
        · repeat' (first | exact (fun x hx => (List.not_mem_nil hx).elim) | refine List.forall_mem_cons.2 ⟨?_, ?_⟩ | exact List.mem_cons_self | apply List.mem_cons_of_mem)
        · simp [fresh_cons, fresh_nil, hD]
    · have hli : ¬ ((i : Nat) : Int) < (((rows.length) : Nat) : Int) := by omega
      obtain rfl : i = rows.length := by omega
      have hsl : ((List.range rows.length).map fun j => rowS gap n j (rows.getD j [])).length = rows.length := by simp
      have hnl : (nm8.take n).length = n := by rw [List.length_take]; show min n 8 = n; omega
      generalize ((List.range rows.length).map fun j => rowS gap n j (rows.getD j [])) = Li at *
      apply Ab.SW.le (S' := ⟨[(1, I64 n), (2, .op xb 0), (4, .op rb 0), (5, .op tb 0), (6, I64 rows.length)], [(xb, .svs (RCC ⟨at', gap, rows⟩)), (tb, .svs [Str ⟨#[114]⟩, .fl n 1 (sF (nm8.take n)), RL Li]), (rb, .svs [Str ⟨#[]⟩, .sc (.slice none 0 0), .sc (.slice none 0 0)])]⟩)
      · rcases hB with ⟨hi0, rfl⟩ | ⟨hi0, g, u1, u2, u3, u4, u5, u6, rfl⟩
        · have hLn : Li = [] := List.eq_nil_of_length_eq_zero (by omega)
          subst hLn
          have := St.le_nilC (t := [(1, I64 n), (2, .op xb 0), (4, .op rb 0), (5, .op tb 0), (6, I64 rows.length)]) (h := [(xb, .svs (RCC ⟨at', gap, rows⟩)), (tb, .svs [Str ⟨#[114]⟩, .fl n 1 (sF (nm8.take n)), .sc (.slice none 0 0)]), (rb, .svs [Str ⟨#[]⟩, .sc (.slice none 0 0), .sc (.slice none 0 0)])]) (c := tb) (j := 2) (sz := 2) (f := rF []) (by rw [find_cons, if_neg d4, find_cons, if_pos rfl]) (by show 2 < 3; omega) rfl
          rw [upd_cons, if_neg d4, upd_cons, if_pos rfl] at this
          exact this
        · have h1 := St.le_perm (t := [(1, I64 n), (2, .op xb 0), (4, .op rb 0), (5, .op tb 0), (6, I64 rows.length)]) (List.Perm.swap (xb, .svs (RCC ⟨at', gap, rows⟩)) (g, Blk.svs (fC rC Li)) [(tb, .svs [Str ⟨#[114]⟩, .fl n 1 (sF (nm8.take n)), .os g 0 rows.length 2]), (rb, .svs [Str ⟨#[]⟩, .sc (.slice none 0 0), .sc (.slice none 0 0)])])
          have := St.le_accC (t := [(1, I64 n), (2, .op xb 0), (4, .op rb 0), (5, .op tb 0), (6, I64 rows.length)]) (sz := 2) (n := rows.length) (c := tb) (j := 2) (Acc.osH (b := g) (cs := fC rC Li) (h0 := [(xb, .svs (RCC ⟨at', gap, rows⟩)), (tb, .svs [Str ⟨#[114]⟩, .fl n 1 (sF (nm8.take n)), .os g 0 rows.length 2]), (rb, .svs [Str ⟨#[]⟩, .sc (.slice none 0 0), .sc (.slice none 0 0)])]) (by simp [fresh_cons, fresh_nil, u1, u2, u3, u4, u5, u6]) (by rw [← fC_len (k := 2) (fun _ => rfl), hsl])) (by rw [find_cons, if_neg d4, find_cons, if_pos rfl]) (by show 2 < 3; omega) rfl (rF Li) (fun j hj => fC_at (enc := rC) (k := 2) (fun _ => rfl) r0 Li j (by omega))
          rw [upd_cons, if_neg d4, upd_cons, if_pos rfl] at this
          unfold RL
          rw [hsl]
          exact h1.trans this
      · repeat' first | (refine SW.seq_k fun K hK => ?_) | ((first | refine SW.region ?_ | refine SW.cond ?_ | refine SW.exit ?_ | refine SW.ret ?_); try simp only [go_sem, hD, hli, true_implies]) | (apply hK; clear hK K) | (clear hK K; apply hK; clear hK K)
        apply ret_cell (i := 4) (n := 3); exact rfl; (simp only [go_sem, hD]; try rfl); (first | exact Nat.le_refl _ | decide); simp only [resL_tmp, resL_cellE, resC_ok, resL_nil, tupOf, getN, go_sem, hD]
        unfold TB SL
        simp only
        rw [hnl]
  obtain ⟨C, Q', hK2, key⟩ := key
  clear hK
  have hK := hK2
  clear hK2
  have nn : (((n : Nat) : Int) - 0).toNat = n := by omega
  have hn6 : n = 0 ∨ n = 1 ∨ n = 2 ∨ n = 3 ∨ n = 4 ∨ n = 5 := by omega
  rcases hn6 with h | h | h | h | h | h
  all_goals
    have nn2 := nn.trans h
    repeat' first | (with_reducible refine And.intro (by omega) ?_) | ((first | refine SW.region ?_ | (refine allF_i fun b hb => ?_; replace hD := And.intro hb hD; clear hb; try simp only [fresh_cons, fresh_nil, and_true, ne_eq, neF] at hD) | simp only [appK, appOsK]); try simp only [go_sem, hD, nn2, getN, List.all_cons, List.all_nil, Bool.and_self, Bool.true_and]) | (apply hK; clear hK K)
    obtain ⟨tb, rfl⟩ : ∃ x, x = b := ⟨_, rfl⟩
    obtain ⟨ab, rfl⟩ : ∃ x, x = b := ⟨_, rfl⟩
    have d1 : ¬ tb = rb := by simp [hD]
    have d2 : ¬ tb = xb := by simp [hD]
    have d3 : ¬ rb = tb := by simp [hD]
    have d4 : ¬ xb = tb := by simp [hD]
    have d5 : ¬ tb = ab := by simp [hD]
    apply Ab.SW.le
    · apply St.le_freezeC (c := tb) (j := 1) (b := ab) (off := 0) (sz := 1) (f := sF (nm8.take n))
      · rw [find_cons, if_pos rfl]
      · exact d5
      · show 1 < 3
        omega
      · rfl
      · simp [find_cons, d5, hD]; rfl
      · decide
      · intro p hp
        rw [h]
        have h5 : p = 0 ∨ p = 1 ∨ p = 2 ∨ p = 3 ∨ p = 4 := by omega
        rcases h5 with rfl | rfl | rfl | rfl | rfl
        all_goals first | (exfalso; omega) | rfl
    simp only [go_sem, hD, d5]
    subst h
    refine Ab.SW.le ((St.le_pick [(xb, .svs (RCC ⟨at', gap, rows⟩)), (tb, .svs [Str ⟨#[114]⟩, .fl _ 1 (sF (nm8.take _)), .sc (.slice none 0 0)]), (rb, .svs [Str ⟨#[]⟩, .sc (.slice none 0 0), .sc (.slice none 0 0)])] ?_ ?_).trans (St.le_sub ?_)) (key tb d1 d2 d3 d4)
    · repeat' (first | exact (fun x hx => (List.not_mem_nil hx).elim) | refine List.forall_mem_cons.2 ⟨?_, ?_⟩ | exact List.mem_cons_self | apply List.mem_cons_of_mem)
    · simp [fresh_cons, fresh_nil, hD]
    · repeat' (first | exact rfl | exact trivial | constructor)
end Go.Proofs.YtpidncgibgiidaaGreat
namespace Go.Ab.A15
open Go Go.Ab Go.Ab.A34
def tabS (x : Rc) : Tb := wideS x (x.attrs % 6).toNat
abbrev TZ : SV := .agg [Str ⟨#[]⟩, SN, SN]
def pickF (n : Int) : List Int → List Int → List Int
  | pre, [] => pre
  | pre, x :: l => if atI (x % n) 0 pre < 0 then pickF n (pre ++ [x % n]) l else pickF n pre l
def pickS (l : List Int) (n : Nat) : List Int := if n = 0 then [] else pickF n [] l
def U8s (l : List Int) : Prop := ∀ c ∈ l, 0 ≤ c ∧ c < 256
theorem pickF_drop {n : Int} {pre l : List Int} {i : Nat} (h : i < l.length) : pickF n pre (l.drop i) = if atI (l.getD i 0 % n) 0 pre < 0 then pickF n (pre ++ [l.getD i 0 % n]) (l.drop (i + 1)) else pickF n pre (l.drop (i + 1)) := by
  have g : l.getD i 0 = l[i] := by simp [List.getD_eq_getElem?_getD, h]
  rw [List.drop_eq_getElem_cons h, g]
  rfl
theorem few_nums {l : List Int} {n : Nat} (h : l.Nodup) (hb : ∀ x ∈ l, 0 ≤ x ∧ x < (n : Int)) : l.length ≤ n := by
  have key := nodup_bound n (l.map Int.toNat) ?_ ?_
  · rwa [List.length_map] at key
  · have hp := List.pairwise_iff_getElem.1 h
    refine List.pairwise_iff_getElem.2 fun i j hi hj hij e => ?_
    rw [List.length_map] at hi hj
    rw [List.getElem_map, List.getElem_map] at e
    have h1 := hb _ (List.getElem_mem hi)
    have h2 := hb _ (List.getElem_mem hj)
    exact hp i j hi hj hij (by omega)
  · intro x hx
    obtain ⟨y, hy, rfl⟩ := List.mem_map.1 hx
    have := hb y hy
    omega
theorem pick_add {n : Nat} {pre : List Int} {k : Int} (h : pre.Nodup ∧ ∀ y ∈ pre, 0 ≤ y ∧ y < (n : Int)) (h0 : 0 ≤ k) (h1 : k < n) (hq : atI k 0 pre < 0) : (pre ++ [k]).Nodup ∧ ∀ y ∈ pre ++ [k], 0 ≤ y ∧ y < (n : Int) := by
  have h2 : k ∉ pre := atI_none.1 hq
  refine ⟨?_, fun y hy => ?_⟩
  · rw [List.nodup_append]
    exact ⟨h.1, by simp, fun a ha b hb e => h2 (by rw [List.mem_singleton] at hb; rw [← hb, ← e]; exact ha)⟩
  · rcases List.mem_append.1 hy with h3 | h3
    · exact h.2 y h3
    · rw [List.mem_singleton] at h3
      rw [h3]
      exact ⟨h0, h1⟩
end Go.Ab.A15
namespace Go.Proofs.YtpidncgibgiidaaGreat
open Go Go.Ab Go.Ab.A34 Go.Ab.A15
variable [Gl] [Tabs]
theorem rtab_big (x : Rc) (m : Nat) (h : m < x.rows.length) : PCall Tryz.prog 44 [RC x, I64 m] (.tup [TZ, SB false]) := by
  have hi : ((m : Nat) : Int) < ((x.rows.length : Nat) : Int) := by omega
  obtain ⟨a, g, l⟩ := x
  simp only at hi
  refine Call.enter' (N := 18) (rs := [.cell 4 72, .tmp 5]) Tryz.func44 rfl rfl rfl (by decide) rfl ?_; simp only [argT]; have hD : (0 : Nat) = 0 := rfl
  repeat' first | (refine SW.seq_k fun K hK => ?_) | ((first | refine SW.region ?_ | refine SW.cond ?_ | refine SW.ret ?_ | (refine allF_i fun b hb => ?_; replace hD := And.intro hb hD; clear hb; try simp only [fresh_cons, fresh_nil, and_true, ne_eq, neF] at hD)); try simp only [go_sem, hD, hi]) | (apply hK; clear hK K)
  apply ret_cell (i := 4) (n := 3); exact rfl; (simp only [go_sem, hD]; try rfl); (first | exact Nat.le_refl _ | decide); simp only [resL_tmp, resL_cellE, resC_ok, resL_nil, tupOf, getN, go_sem, hD]
theorem rtab_r (x : Rc) (hx : okRc x) (m : Nat) (h : x.rows.length ≤ m) (hm : m ≤ 1000) : PCall Tryz.prog 44 [RC x, I64 m] (.tup [TB (tabS x), SB true]) := by
  have hi : ¬ ((m : Nat) : Int) < ((x.rows.length : Nat) : Int) := by omega
  have a1 : x.attrs.tmod 6 = x.attrs % 6 := Int.tmod_eq_emod_of_nonneg hx.1.1
  have a2 : IntKind.i64.wrap (x.attrs % 6) = (((x.attrs % 6).toNat : Nat) : Int) := by rw [i64_wrap (by omega) (by omega)]; omega
  have wr := wide_r x hx (x.attrs % 6).toNat (by omega) (by omega)
  unfold tabS
  generalize wideS x (x.attrs % 6).toNat = t at *
  obtain ⟨a, g, l⟩ := x
  simp only at hi a1 a2 wr
  refine Call.enter' (N := 18) (rs := [.cell 4 72, .tmp 5]) Tryz.func44 rfl rfl rfl (by decide) rfl ?_; simp only [argT]; have hD : (0 : Nat) = 0 := rfl
  repeat' first | (refine SW.seq_k fun K hK => ?_) | ((first | refine SW.region ?_ | refine SW.cond ?_ | refine SW.skip ?_ | refine SW.ret ?_ | refine Call.of_pure (wr) ?_ | (refine allF_i fun b hb => ?_; replace hD := And.intro hb hD; clear hb; try simp only [fresh_cons, fresh_nil, and_true, ne_eq, neF] at hD)); try simp only [go_sem, hD, hi, a1, a2]) | (apply hK; clear hK K)
  apply ret_cell (i := 4) (n := 3); exact rfl; (simp only [go_sem, hD]; try rfl); (first | exact Nat.le_refl _ | decide); simp only [resL_tmp, resL_cellE, resC_ok, resL_nil, tupOf, getN, go_sem, hD]
theorem at_o (b : Nat) (h : Heap) (l : List Int) (hl : l.length ≤ 1000000000000) (hH : h.find b = some (.ints .i64 l)) (x : Int) : Ab.Call Tryz.prog 104 [.os b 0 l.length 1, I64 x] h (fun r h' => r = I64 (atI x 0 l) ∧ h' = h) :=
  Call.lend_ints (args := [.os b 0 l.length 1, I64 x]) 0 .i64 l (by simp) rfl rfl hH rfl (at_r x l l.length (by omega) rfl (iF l) (fun j hj => rfl))
theorem pick_r (l : List Int) (hl : U8s l) (hll : l.length ≤ 9223372036854775807) (n : Nat) (hn : n ≤ 1000) : PCall Tryz.prog 67 [UL l, I64 n] (IL (pickS l n)) := by
  by_cases h0 : n = 0
  · subst h0
    have hp : pickS l 0 = [] := rfl
    rw [hp]
    refine Call.enter' (N := 34) (rs := [.tmp 4]) Tryz.func67 rfl rfl rfl (by decide) rfl ?_; simp only [argT]; have hD : (0 : Nat) = 0 := rfl
    by_cases hl0 : 0 < l.length
    · have hli : (0 : Int) < ((l.length : Nat) : Int) := by omega
      repeat' first | (refine SW.seq_k fun K hK => ?_) | (refine SW.block ?_) | (refine SW.region ?_; try simp only [go_sem, hD]) | (apply hK; clear hK K)
      obtain ⟨J, hJ⟩ : ∃ J : Nat → St → Prop, ∀ m S, J m S ↔ S = ⟨[(0, UL l), (1, I64 (0 : Nat)), (5, SN), (6, I64 0)], []⟩ := ⟨fun m S => _, fun _ _ => Iff.rfl⟩
      refine SW.loop' J 0 ((hJ _ _).2 rfl) (by repeat' (first | exact rfl | exact trivial | constructor)) ?_
      intro m S hIn
      obtain rfl := (hJ _ _).1 hIn
      clear hIn
      repeat' first | (refine SW.seq_k fun K hK => ?_) | ((first | refine SW.region ?_ | refine SW.cond ?_ | refine SW.exit ?_ | refine SW.ret ?_); try simp only [go_sem, hD, hli, true_implies]) | (apply hK; clear hK K) | (clear hK K; apply hK; clear hK K)
      refine retQ_le (St.le_say (i := 4) (v := IL []) (fun E u hr => Rep.fl_nil hr)) ?_
      simp only [resL_tmp, resL_nil, tupOf, go_sem, hD]
    · have hli : ¬ (0 : Int) < ((l.length : Nat) : Int) := by omega
      repeat' first | (refine SW.seq_k fun K hK => ?_) | (refine SW.block ?_) | (refine SW.region ?_; try simp only [go_sem, hD]) | (apply hK; clear hK K)
      obtain ⟨J, hJ⟩ : ∃ J : Nat → St → Prop, ∀ m S, J m S ↔ S = ⟨[(0, UL l), (1, I64 (0 : Nat)), (5, SN), (6, I64 0)], []⟩ := ⟨fun m S => _, fun _ _ => Iff.rfl⟩
      refine SW.loop' J 0 ((hJ _ _).2 rfl) (by repeat' (first | exact rfl | exact trivial | constructor)) ?_
      intro m S hIn
      obtain rfl := (hJ _ _).1 hIn
      clear hIn
      repeat' first | (refine SW.seq_k fun K hK => ?_) | ((first | refine SW.region ?_ | refine SW.cond ?_ | refine SW.exit ?_ | refine SW.ret ?_); try simp only [go_sem, hD, hli, true_implies]) | (apply hK; clear hK K) | (clear hK K; apply hK; clear hK K)
      refine retQ_le (St.le_say (i := 4) (v := IL []) (fun E u hr => Rep.fl_nil hr)) ?_
      simp only [resL_tmp, resL_nil, tupOf, go_sem, hD]
  obtain ⟨R, hR⟩ : ∃ R, R = pickS l n := ⟨_, rfl⟩
  rw [← hR]
  have hC0 : R = pickF n [] (l.drop 0) := by rw [hR, pickS, if_neg h0, List.drop_zero]
  clear hR
  have n0 : (0 : Int) < ((n : Nat) : Int) := by omega
  refine Call.enter' (N := 34) (rs := [.tmp 4]) Tryz.func67 rfl rfl rfl (by decide) rfl ?_; simp only [argT]; have hD : (0 : Nat) = 0 := rfl
  repeat' first | (refine SW.seq_k fun K hK => ?_) | (refine SW.block ?_) | (refine SW.region ?_; try simp only [go_sem, hD]) | (apply hK; clear hK K)
  obtain ⟨I, hI⟩ : ∃ I : Nat → St → Prop, ∀ k S, I k S ↔ (∃ (i : Nat) (pre : List Int) (x : SV) (h : Heap), k = l.length - i ∧ i ≤ l.length ∧ R = pickF n pre (l.drop i) ∧ (pre.Nodup ∧ ∀ y ∈ pre, 0 ≤ y ∧ y < (n : Int)) ∧ ((pre = [] ∧ x = SN ∧ h = []) ∨ ∃ g, x = .os g 0 pre.length 1 ∧ h = [(g, .ints .i64 pre)]) ∧ S = ⟨[(0, UL l), (1, I64 n), (5, x), (6, I64 i)], h⟩) := ⟨fun k S => _, fun _ _ => Iff.rfl⟩
  refine SW.loop' I (l.length) ((hI _ _).2 ⟨0, [], SN, [], rfl, Nat.zero_le _, hC0, ⟨List.nodup_nil, fun y hy => by cases hy⟩, .inl ⟨rfl, rfl, rfl⟩, rfl⟩) (by repeat' (first | exact rfl | exact trivial | constructor)) ?_
  intro k S hIn
  obtain ⟨i, pre, x, h, rfl, hi, hC, hpn, hB, rfl⟩ := (hI _ _).1 hIn
  clear hIn
  have ie : ((i : Nat) : Int).toNat = i := Int.toNat_natCast _
  have i0 : (0 : Int) ≤ ((i : Nat) : Int) := by omega
  have hpl := few_nums hpn.1 hpn.2
  clear hC0
  by_cases hlt : i < l.length
  · have hli : ((i : Nat) : Int) < (((l.length) : Nat) : Int) := by omega
    have w1 : IntKind.i64.wrap ((i : Int) + 1) = ((i + 1 : Nat) : Int) := by rw [i64_wrap (by omega) (by omega)]; omega
    rw [pickF_drop hlt] at hC
    have hc := hl _ (getD_mem' 0 hlt)
    have fi : (fun j => [U8 (l.getD j 0)]) i = [U8 (l.getD i 0)] := rfl
    obtain ⟨c, hcd⟩ : ∃ c, c = l.getD i 0 := ⟨_, rfl⟩
    rw [← hcd] at hC hc
    have a1 : c.tmod n = c % n := Int.tmod_eq_emod_of_nonneg hc.1
    have hm0 := Int.emod_nonneg c (show (n : Int) ≠ 0 by omega)
    have hm1 := Int.emod_lt_of_pos c n0
    have a2 : IntKind.i64.wrap (c % n) = c % n := by rw [i64_wrap (by omega) (by omega)]
    have a3 : IntKind.i64.wrap (l.getD i 0) = c := by rw [← hcd, i64_wrap (by omega) (by omega)]
    have nz : ¬ ((n : Nat) : Int) = 0 := by omega
    generalize c % (n : Int) = k at *
    have ba : (pre.length + 1) * 8 ≤ 140737488355328 := by omega
    rcases hB with ⟨rfl, rfl, rfl⟩ | ⟨g, rfl, rfl⟩
    · have ca := at_r k [] 0 (by omega) rfl (iF []) (fun j hj => rfl)
      have hat : atI k 0 [] = -1 := rfl
      rw [hat] at ca hC
      rw [if_pos (by omega)] at hC
      have hC2 : R = pickF n [k] (l.drop (i + 1)) := hC
      have hD : (0 : Nat) = 0 := rfl
      repeat' first | (((with_reducible refine Call.nil_ints 0 .i64 ?_ ?_ ?_); (simp); (rfl); (simp only [List.set_cons_zero]); (refine Call.of_pure ca ?_); (try simp only [go_sem, hD]))) | (with_reducible refine And.intro (by omega) ?_) | (refine SW.seq_k fun K hK => ?_) | (refine SW.block ?_) | ((first | refine SW.region ?_ | refine SW.cond ?_ | refine SW.skip ?_ | (refine allF_i fun b hb => ?_; replace hD := And.intro hb hD; clear hb; try simp only [fresh_cons, fresh_nil, and_true, ne_eq, neF] at hD) | simp only [appK, appOsK]); try simp only [go_sem, hD, hli, ie, i0, w1, n0, nz, a1, a2, a3, true_implies]) | (refine And.intro (by omega) ?_) | (apply hK; clear hK K)
      all_goals
        obtain ⟨c1, rfl⟩ : ∃ x, x = b := ⟨_, rfl⟩
        refine Rnd.le (St.le_only ?_) (Rnd.sub (l.length - (i + 1)) (by omega) ((hI _ _).2 ⟨i + 1, [k], .os c1 0 1 1, [(c1, .ints .i64 [k])], rfl, by omega, hC2, pick_add (pre := []) ⟨List.nodup_nil, fun y hy => by cases hy⟩ hm0 hm1 (by show (-1 : Int) < 0; omega), .inr ⟨c1, rfl, rfl⟩, rfl⟩) (by repeat' (first | exact rfl | exact trivial | constructor)))
        repeat (first | exact List.mem_cons_self | apply List.mem_cons_of_mem)
    · have ca := fun b h hH => at_o b h pre (by omega) hH k
      have hD : (0 : Nat) = 0 := rfl
      by_cases hq : atI k 0 pre < 0
      · rw [if_pos hq] at hC
        have hl2 : (pre ++ [k]).length = pre.length + 1 := by rw [List.length_append]; rfl
        have hpn2 := pick_add hpn hm0 hm1 hq
        generalize atI k 0 pre = q at *
        repeat' first | ((refine Call.mono (ca _ _ (by simp [find_cons, hD])) ?_); (intro r h' hx); (obtain ⟨rfl, rfl⟩ := hx); (try simp only [go_sem, hD, hq])) | (with_reducible refine And.intro (by omega) ?_) | (refine SW.seq_k fun K hK => ?_) | (refine SW.block ?_) | ((first | refine SW.region ?_ | refine SW.cond ?_ | refine SW.skip ?_ | (refine allF_i fun b hb => ?_; replace hD := And.intro hb hD; clear hb; try simp only [fresh_cons, fresh_nil, and_true, ne_eq, neF] at hD) | simp only [appK, appOsK]); try simp only [go_sem, hD, hli, ie, i0, w1, n0, nz, a1, a2, a3, hq, ba, true_implies]) | (apply hK; clear hK K)
        all_goals
          obtain ⟨c1, rfl⟩ : ∃ x, x = b := ⟨_, rfl⟩
          rw [← hl2]
          refine Rnd.le (St.le_only ?_) (Rnd.sub (l.length - (i + 1)) (by omega) ((hI _ _).2 ⟨i + 1, pre ++ [k], .os c1 0 (pre ++ [k]).length 1, [(c1, .ints .i64 (pre ++ [k]))], rfl, by omega, hC, hpn2, .inr ⟨c1, rfl, rfl⟩, rfl⟩) (by repeat' (first | exact rfl | exact trivial | constructor)))
          repeat (first | exact List.mem_cons_self | apply List.mem_cons_of_mem)
      · rw [if_neg hq] at hC
        generalize atI k 0 pre = q at *
        repeat' first | ((refine Call.mono (ca _ _ (by simp [find_cons, hD])) ?_); (intro r h' hx); (obtain ⟨rfl, rfl⟩ := hx); (try simp only [go_sem, hD, hq])) | (refine SW.seq_k fun K hK => ?_) | (refine SW.block ?_) | ((first | refine SW.region ?_ | refine SW.cond ?_ | refine SW.skip ?_); try simp only [go_sem, hD, hli, ie, i0, w1, n0, nz, a1, a2, a3, hq, true_implies]) | (apply hK; clear hK K)
        all_goals
          refine Rnd.le (St.le_only ?_) (Rnd.sub (l.length - (i + 1)) (by omega) ((hI _ _).2 ⟨i + 1, pre, .os g 0 pre.length 1, [(g, .ints .i64 pre)], rfl, by omega, hC, hpn, .inr ⟨g, rfl, rfl⟩, rfl⟩) (by repeat' (first | exact rfl | exact trivial | constructor)))
          repeat (first | exact List.mem_cons_self | apply List.mem_cons_of_mem)
  · have hli : ¬ ((i : Nat) : Int) < (((l.length) : Nat) : Int) := by omega
    rw [List.drop_of_length_le (by omega)] at hC
    have hC2 : R = pre := hC
    subst hC2
    have hD : (0 : Nat) = 0 := rfl
    rcases hB with ⟨rfl, rfl, rfl⟩ | ⟨g, rfl, rfl⟩
    · repeat' first | (refine SW.seq_k fun K hK => ?_) | ((first | refine SW.region ?_ | refine SW.cond ?_ | refine SW.exit ?_ | refine SW.ret ?_); try simp only [go_sem, hD, hli, true_implies]) | (apply hK; clear hK K) | (clear hK K; apply hK; clear hK K)
      refine retQ_le (St.le_say (i := 4) (v := IL []) (fun E u hr => Rep.fl_nil hr)) ?_
      simp only [resL_tmp, resL_nil, tupOf, go_sem, hD]
    · repeat' first | (refine SW.seq_k fun K hK => ?_) | ((first | refine SW.region ?_ | refine SW.cond ?_ | refine SW.exit ?_ | refine SW.ret ?_); try simp only [go_sem, hD, hli, true_implies]) | (apply hK; clear hK K) | (clear hK K; apply hK; clear hK K)
      refine retQ_le (St.le_ints (i := 4) .i64 R rfl rfl (by rw [find_cons, if_pos rfl]) rfl) ?_
      simp only [resL_tmp, resL_nil, tupOf, del_cons, go_sem, hD]
      all_goals exact rfl
end Go.Proofs.YtpidncgibgiidaaGreat
namespace Go.Ab.A15
open Go Go.Ab Go.Ab.A34
def rc0 : Rc := ⟨0, 0, []⟩
def nmT (i : Nat) : ByteArray := if i = 0 then ⟨#[114]⟩ else if i = 1 then ⟨#[115]⟩ else ⟨#[116]⟩
def cutR (x : Rc) : Rc := ⟨x.attrs % 4, x.gap, x.rows⟩
def tabD (x : Rc) (i : Nat) : Tb := ⟨nmT i, (tabS (cutR x)).attrs, (tabS (cutR x)).rows⟩
def ofT (d : List Rc) : List Tb := (List.range (min d.length 3)).map fun i => tabD (d.getD i rc0) i
abbrev RF (d : List Rc) (i : Nat) : List SV := RCC (d.getD i rc0)
abbrev RcL (d : List Rc) : SV := .fl d.length 3 (RF d)
def goodD (d : List Rc) : Prop := ∀ i, i < min d.length 3 → (d.getD i rc0).rows.length ≤ 6
instance (d : List Rc) : Decidable (goodD d) := by unfold goodD; infer_instance
def ofV (d : List Rc) : SV := if goodD d then .tup [DB (ofT d), SB (decide (d.length ≤ 3))] else .tup [.agg [SN], SB false]
structure Lk where
  f : Int
  t : Int
  l : List Int
  r : List Int
abbrev LkC (x : Lk) : List SV := [U8 x.f, U8 x.t, UL x.l, UL x.r]
abbrev LkV (x : Lk) : SV := .agg (LkC x)
structure OkK (x : Lk) : Prop where
  f : 0 ≤ x.f ∧ x.f < 256
  t : 0 ≤ x.t ∧ x.t < 256
  l : U8s x.l
  r : U8s x.r
  nl : x.l.length ≤ 9223372036854775807
  nr : x.r.length ≤ 9223372036854775807
def indS (db : List Tb) (x : Lk) : Dp :=
  let f := db.getD (x.f % db.length).toNat t0
  let t := db.getD (x.t % db.length).toNat t0
  let l := pickS x.l f.attrs.length
  let r := pickS x.r t.attrs.length
  ⟨f.name, l.take (min l.length r.length), t.name, r.take (min l.length r.length)⟩
theorem il_take (l : List Int) (n : Nat) (h : n ≤ l.length) {E : Env} {u : Value} (hr : Rep E u (.fl n 1 (iF l))) : Rep E u (IL (l.take n)) := by
  have e : (l.take n).length = n := by rw [List.length_take]; omega
  unfold IL
  rw [e]
  exact Rep.fl_congr (fun i hi => iF_take hi) hr
end Go.Ab.A15
namespace Go.Proofs.YtpidncgibgiidaaGreat
open Go Go.Ab Go.Ab.A34 Go.Ab.A15
variable [Gl] [Tabs]
theorem ind_r (db : List Tb) (x : Lk) (hx : OkK x) (h0 : 0 < db.length) (h1 : db.length ≤ 1000000) (hat : ∀ t ∈ db, t.attrs.length ≤ 1000) : PCall Tryz.prog 30 [DB db, LkV x] (DV (indS db x)) := by
  have hf := hx.f
  have ht := hx.t
  have p0 : (0 : Int) < ((db.length : Nat) : Int) := by omega
  have nz : ¬ ((db.length : Nat) : Int) = 0 := by omega
  have wf : IntKind.i64.wrap x.f = x.f := i64_wrap (by omega) (by omega)
  have wt : IntKind.i64.wrap x.t = x.t := i64_wrap (by omega) (by omega)
  have mf : x.f.tmod db.length = x.f % db.length := Int.tmod_eq_emod_of_nonneg hf.1
  have mt : x.t.tmod db.length = x.t % db.length := Int.tmod_eq_emod_of_nonneg ht.1
  have f1 := Int.emod_nonneg x.f nz
  have f2 := Int.emod_lt_of_pos x.f p0
  have t1 := Int.emod_nonneg x.t nz
  have t2 := Int.emod_lt_of_pos x.t p0
  have fw : IntKind.i64.wrap (x.f % db.length) = x.f % db.length := i64_wrap (by omega) (by omega)
  have tw : IntKind.i64.wrap (x.t % db.length) = x.t % db.length := i64_wrap (by omega) (by omega)
  unfold indS
  have ff : tF db (x.f % db.length).toNat = tC (db.getD (x.f % db.length).toNat t0) := rfl
  have ft : tF db (x.t % db.length).toNat = tC (db.getD (x.t % db.length).toNat t0) := rfl
  have af := hat _ (getD_mem' t0 (show (x.f % db.length).toNat < db.length by omega))
  have at' := hat _ (getD_mem' t0 (show (x.t % db.length).toNat < db.length by omega))
  generalize x.f % (db.length : Int) = p at *
  generalize x.t % (db.length : Int) = q at *
  generalize db.getD p.toNat t0 = tf at *
  generalize db.getD q.toNat t0 = tt at *
  obtain ⟨fn, fa, fr⟩ := tf
  obtain ⟨tn, ta, tr⟩ := tt
  simp only at af at' ⊢
  have c1 := pick_r x.l hx.l hx.nl fa.length (by omega)
  have c2 := pick_r x.r hx.r hx.nr ta.length (by omega)
  obtain ⟨xf, xt, xl, xr⟩ := x
  simp only at wf wt mf mt c1 c2 ⊢
  generalize pickS xl fa.length = L at *
  generalize pickS xr ta.length = R at *
  refine PCall.sayR (r := .agg [Str fn, .fl (min L.length R.length) 1 (iF L), Str tn, .fl (min L.length R.length) 1 (iF R)]) ?_ fun E v => Rep.agg_mono rfl fun j hj u hr => ?_
  rotate_left
  · match j, hj with
    | 0, _ => exact hr
    | 1, _ => exact il_take L _ (by omega) hr
    | 2, _ => exact hr
    | 3, _ => exact il_take R _ (by omega) hr
  have mi : (if ((R.length : Nat) : Int) < ((L.length : Nat) : Int) then ((R.length : Nat) : Int) else ((L.length : Nat) : Int)) = ((min L.length R.length : Nat) : Int) := by split <;> omega
  have m0 : (0 : Int) ≤ ((min L.length R.length : Nat) : Int) := by omega
  have m1 : ((min L.length R.length : Nat) : Int) ≤ ((L.length : Nat) : Int) := by omega
  have m2 : ((min L.length R.length : Nat) : Int) ≤ ((R.length : Nat) : Int) := by omega
  have me : (((min L.length R.length : Nat) : Int) - 0).toNat = min L.length R.length := by omega
  generalize min L.length R.length = n at *
  refine Call.enter' (N := 60) (rs := [.cell 4 40]) Tryz.func30 rfl rfl rfl (by decide) rfl ?_; simp only [argT]; have hD : (0 : Nat) = 0 := rfl
  repeat' first | (refine SW.seq_k fun K hK => ?_) | ((first | refine SW.region ?_ | (refine allF_i fun b hb => ?_; replace hD := And.intro hb hD; clear hb; try simp only [fresh_cons, fresh_nil, and_true, ne_eq, neF] at hD)); try simp only [go_sem, hD]) | (apply hK; clear hK K)
  obtain ⟨rb, rfl⟩ : ∃ x, x = b := ⟨_, rfl⟩
  obtain ⟨kb, rfl⟩ : ∃ x, x = b := ⟨_, rfl⟩
  obtain ⟨db', rfl⟩ : ∃ x, x = b := ⟨_, rfl⟩
  refine Ab.SW.le ((St.le_freezeP (i := 2) (b := db') (off := 0) (n := 1) (k := .svs [TL db]) rfl (by simp [find_cons, hD]) (by exact Nat.le_refl 1)).trans ((St.le_freezeP (i := 3) (b := kb) (off := 0) (n := 4) (k := .svs (LkC ⟨xf, xt, xl, xr⟩)) rfl (by simp [find_cons, del_cons, hD]) (by exact Nat.le_refl 4)).trans (St.le_pick [(rb, .svs [Str ⟨#[]⟩, SN, Str ⟨#[]⟩, SN])] ?_ ?_))) ?_
  · simp [del_cons, hD]
    try rfl
  · simp
  clear hD
  have hD : (0 : Nat) = 0 := rfl
  simp only [getN, Blk.get]
  repeat' first | (refine SW.seq_k fun K hK => ?_) | ((first | refine SW.region ?_ | refine SW.regionX (id := 1) (Checked.mixed Tryz.checked) ((.one 0 [0, 1, 9, 10, 24, 25] (.one 1 [1, 9, 10, 24, 25] (.one 2 [2, 3, 4, 8, 9, 10, 24, 25] (.one 3 [3, 4, 8, 9, 10, 24, 25] (.one 4 [4, 8, 9, 10, 24, 25] (.one 5 [5, 6, 7, 8, 9, 10, 24, 25] (.one 6 [6, 7, 8, 9, 10, 24, 25] (.one 7 [7, 8, 9, 10, 24, 25] (.one 8 [8, 9, 10, 24, 25] (.one 9 [9, 10, 24, 25] (.one 10 [10, 24, 25] (.fre 11 [11, 12, 20, 21, 25] (.fre 12 [12, 20, 21, 25] (.fre 13 [13, 14, 15, 19, 20, 21, 25] (.fre 14 [14, 15, 19, 20, 21, 25] (.fre 15 [15, 19, 20, 21, 25] (.fre 16 [16, 17, 18, 19, 20, 21, 25] (.fre 17 [17, 18, 19, 20, 21, 25] (.fre 18 [18, 19, 20, 21, 25] (.fre 19 [19, 20, 21, 25] (.fre 20 [20, 21, 25] (.fre 21 [21, 25] (.alt 22 (.alt 23 (.alt 24 (.alt 25 .done .nil) .nil) .nil) (.alt 23 (.alt 22 (.alt 24 (.alt 25 .done .nil) .nil) .nil) .nil)))))))))))))))))))))))) : OX) (by kernel_rfl) ?_ | refine SW.regionZ (id := 2) (Checked.mixed Tryz.checked) ((.one 0 [0, 1, 5, 11, 12, 13] (.one 1 [1, 5, 11, 12, 13] (.one 2 [2, 3, 4, 5, 11, 12, 13] (.one 3 [3, 4, 5, 11, 12, 13] (.one 4 [4, 5, 11, 12, 13] (.one 5 [5, 11, 12, 13] (.one 6 [6, 7, 11, 12, 13] (.one 7 [7, 11, 12, 13] (.one 8 [8, 9, 10, 11, 12, 13] (.one 9 [9, 10, 11, 12, 13] (.one 10 [10, 11, 12, 13] (.one 11 [11, 12, 13] (.one 12 [12, 13] (.one 13 [13] .done)))))))))))))) : OZ) (by kernel_rfl) ?_ | refine SW.regionZ (id := 4) (Checked.mixed Tryz.checked) ((.one 0 [0, 1, 10, 11] (.one 1 [1, 10, 11] (.one 2 [2, 4, 10, 11] (.one 3 [3, 4, 10, 11] (.one 4 [4, 10, 11] (.one 5 [5, 6, 10, 11] (.one 6 [6, 10, 11] (.one 7 [7, 9, 10, 11] (.one 8 [8, 9, 10, 11] (.one 9 [9, 10, 11] (.one 10 [10, 11] (.alt 11 .done .nil)))))))))))) : OZ) (by kernel_rfl) ?_ | refine SW.ret ?_ | refine ⟨_, c1, ?_⟩ | refine ⟨_, c2, ?_⟩ | (refine allF_i fun b hb => ?_; replace hD := And.intro hb hD; clear hb; try simp only [fresh_cons, fresh_nil, and_true, ne_eq, neF] at hD)); try simp only [go_sem, hD, wf, wt, mf, mt, fw, tw, f1, f2, t1, t2, ff, ft, nz, mi, m0, m1, m2, me, true_implies]) | (apply hK; clear hK K) | (refine And.intro ?_ ?_)
  all_goals
    apply ret_cell (i := 4) (n := 4); exact rfl; (simp only [go_sem, hD]; try rfl); (first | exact Nat.le_refl _ | decide); simp only [resL_tmp, resL_cellE, resC_ok, resL_nil, tupOf, getN, go_sem, hD]
end Go.Proofs.YtpidncgibgiidaaGreat
namespace Go.Ab.A15
open Go Go.Ab Go.Ab.A34
def outD (d : List Rc) (i : Nat) : List Tb := (List.range i).map fun j => tabD (d.getD j rc0) j
theorem outD_succ (d : List Rc) (i : Nat) : outD d (i + 1) = outD d i ++ [tabD (d.getD i rc0) i] := by
  unfold outD
  rw [List.range_succ, List.map_append]
  rfl
theorem outD_len (d : List Rc) (i : Nat) : (outD d i).length = i := by simp [outD]
def OkRcs (d : List Rc) : Prop := ∀ x ∈ d, okRc x
end Go.Ab.A15
def Go.Ab.zDC_1 : Go.Ab.OZ := (.one 0 [0, 2, 3, 4, 5, 16, 17, 18, 19, 20, 22, 23] (.one 1 [1, 2, 3, 4, 5, 16, 17, 18, 19, 20, 22, 23] (.one 2 [2, 3, 4, 5, 16, 17, 18, 19, 20, 22, 23] (.one 3 [3, 4, 5, 16, 17, 18, 19, 20, 22, 23] (.one 4 [4, 5, 16, 17, 18, 19, 20, 22, 23] (.one 5 [5, 16, 17, 18, 19, 20, 22, 23] (.one 6 [6, 8, 9, 10, 16, 17, 18, 19, 20, 22, 23] (.one 7 [7, 8, 9, 10, 16, 17, 18, 19, 20, 22, 23] (.one 8 [8, 9, 10, 16, 17, 18, 19, 20, 22, 23] (.one 9 [9, 10, 16, 17, 18, 19, 20, 22, 23] (.one 10 [10, 16, 17, 18, 19, 20, 22, 23] (.one 11 [11, 13, 14, 15, 16, 17, 18, 19, 20, 22, 23] (.one 12 [12, 13, 14, 15, 16, 17, 18, 19, 20, 22, 23] (.one 13 [13, 14, 15, 16, 17, 18, 19, 20, 22, 23] (.one 14 [14, 15, 16, 17, 18, 19, 20, 22, 23] (.one 15 [15, 16, 17, 18, 19, 20, 22, 23] (.one 16 [16, 17, 18, 19, 20, 22, 23] (.one 17 [17, 18, 19, 20, 22, 23] (.one 18 [18, 19, 20, 22, 23] (.one 19 [19, 22, 23] (.alt 20 (.alt 21 (.alt 22 (.one 23 [23] .done) .nil) .nil) (.alt 21 (.alt 20 (.alt 22 (.one 23 [23] .done) .nil) (.alt 22 (.one 20 [20, 23] (.one 23 [23] .done)) .nil)) .nil))))))))))))))))))))))
namespace Go.Proofs.YtpidncgibgiidaaGreat
open Go Go.Ab Go.Ab.A34 Go.Ab.A15
variable [Gl] [Tabs]
theorem of_r (d : List Rc) (hd : OkRcs d) (hl : d.length ≤ 9223372036854775807) : PCall Tryz.prog 10 [RcL d] (ofV d) := by
  obtain ⟨V, hV⟩ : ∃ V, V = ofV d := ⟨_, rfl⟩
  rw [← hV]
  have h6 : ((6 : Nat) : Int) = 6 := rfl
  refine Call.enter' (N := 57) (rs := [.cell 2 26, .tmp 3]) Tryz.func10 rfl rfl rfl (by decide) rfl ?_; simp only [argT]; have hD : (0 : Nat) = 0 := rfl
  repeat' first | (refine SW.seq_k fun K hK => ?_) | (refine SW.block ?_) | ((first | refine SW.region ?_ | (refine allF_i fun b hb => ?_; replace hD := And.intro hb hD; clear hb; try simp only [fresh_cons, fresh_nil, and_true, ne_eq, neF] at hD)); try simp only [go_sem, hD]) | (apply hK; clear hK K)
  obtain ⟨ob, rfl⟩ : ∃ x, x = b := ⟨_, rfl⟩
  obtain ⟨rb, rfl⟩ : ∃ x, x = b := ⟨_, rfl⟩
  have k1 : ¬ ob = rb := by simp [hD]
  have k2 : ¬ rb = ob := by simp [hD]
  clear hD
  have hE := And.intro (eq_false k1) (eq_false k2)
  obtain ⟨I, hI⟩ : ∃ I : Nat → St → Prop, ∀ k S, I k S ↔ (∃ (i : Nat) (h : Heap), k = min d.length 3 - i ∧ i ≤ min d.length 3 ∧ (∀ j, j < i → (d.getD j rc0).rows.length ≤ 6) ∧ ((i = 0 ∧ h = [(ob, .svs [SN]), (rb, .svs [SN])]) ∨ (0 < i ∧ ∃ g, fresh [(ob, .svs []), (rb, .svs [])] g ∧ h = [(g, .svs (fC tC (outD d i))), (ob, .svs [.os g 0 i 3]), (rb, .svs [SN])])) ∧ S = ⟨[(0, RcL d), (2, .op rb 0), (3, SB false), (4, .op ob 0), (5, I64 i)], h⟩) := ⟨fun k S => _, fun _ _ => Iff.rfl⟩
  refine SW.loop' I (min d.length 3) ((hI _ _).2 ⟨0, _, rfl, Nat.zero_le _, (fun j hj => absurd hj (Nat.not_lt_zero _)), .inl ⟨rfl, rfl⟩, rfl⟩) (by repeat' (first | exact rfl | exact trivial | constructor)) ?_
  intro k S hIn
  obtain ⟨i, h, rfl, hi, hG, hB, rfl⟩ := (hI _ _).1 hIn
  clear hIn
  have ie : ((i : Nat) : Int).toNat = i := Int.toNat_natCast _
  have i0 : (0 : Int) ≤ ((i : Nat) : Int) := by omega
  have u0 : ∀ g1, fresh [(ob, .svs []), (rb, .svs [])] g1 → ((ob = g1) = False ∧ (g1 = ob) = False) ∧ ((rb = g1) = False ∧ (g1 = rb) = False) := fun g1 u1 => by simpa only [fresh_cons, fresh_nil, and_true, ne_eq, neF] using u1
  by_cases hlt : i < min d.length 3
  · have hli : ((i : Nat) : Int) < ((d.length : Nat) : Int) := by omega
    have hl3 : ((i : Nat) : Int) < 3 := by omega
    have i3 : i < 3 := by omega
    have w1 : IntKind.i64.wrap ((i : Int) + 1) = ((i + 1 : Nat) : Int) := by rw [i64_wrap (by omega) (by omega)]; omega
    have hx := hd _ (getD_mem' rc0 (show i < d.length by omega))
    have hsc := outD_succ d i
    have fi : RF d i = RCC (d.getD i rc0) := rfl
    have hol := outD_len d i
    have hol2 := outD_len d (i + 1)
    have hgd : ¬ (d.getD i rc0).rows.length ≤ 6 → ¬ goodD d := fun h1 h2 => h1 (h2 i hlt)
    have hG2 : (d.getD i rc0).rows.length ≤ 6 → ∀ j, j < i + 1 → (d.getD j rc0).rows.length ≤ 6 := fun h1 j hj => by
      rcases Nat.lt_or_eq_of_le (Nat.lt_succ_iff.1 hj) with h | h
      · exact hG j h
      · rw [h]; exact h1
    have a1 : (d.getD i rc0).attrs.tmod 4 = (d.getD i rc0).attrs % 4 := Int.tmod_eq_emod_of_nonneg hx.1.1
    have hok : okRc (cutR (d.getD i rc0)) := ⟨⟨by show 0 ≤ (d.getD i rc0).attrs % 4; omega, by show (d.getD i rc0).attrs % 4 < 256; omega⟩, hx.2⟩
    by_cases h7 : (d.getD i rc0).rows.length ≤ 6
    · have c := rtab_r (cutR (d.getD i rc0)) hok 6 h7 (by omega)
      rw [h6] at c
      replace hG2 := hG2 h7
      clear hgd hG h7
      unfold tabD at hsc
      unfold cutR at c hsc
      generalize d.getD i rc0 = x at *
      obtain ⟨xa, xg, xl⟩ := x
      simp only at c hsc a1
      generalize tabS ⟨xa % 4, xg, xl⟩ = t at *
      obtain ⟨tn, ta, tr⟩ := t
      simp only at c hsc
      have gm : [Str ⟨#[114]⟩, Str ⟨#[115]⟩, Str ⟨#[116]⟩].getD i SV.any = Str (nmT i) := by
        rcases (by omega : i = 0 ∨ i = 1 ∨ i = 2) with rfl | rfl | rfl <;> rfl
      have z0 : 0 + i * 1 = i := by omega
      have hsn : fC tC (outD d (i + 1)) = fC tC (outD d i) ++ [Str (nmT i), SL ta, RL tr] := by rw [hsc, ← fC_snoc]
      have lc : i * 3 = (fC tC (outD d i)).length := by
        have := fC_len (enc := tC) (k := 3) (fun _ => rfl) (outD d i)
        rwa [hol] at this
      have ba : (i + 1) * 64 ≤ 140737488355328 := by omega
      rcases hB with ⟨hm0, rfl⟩ | ⟨hm0, g, u1, rfl⟩
      · subst hm0
        have hs0 : fC tC (outD d (0 + 1)) = [Str (nmT 0), SL ta, RL tr] := hsn
        have hD := hE
        repeat' first | (with_reducible refine And.intro (by omega) ?_) | (refine SW.seq_k fun K hK => ?_) | (refine SW.block ?_) | ((first | refine SW.region ?_ | refine SW.regionZ (id := 5) (Checked.mixed Tryz.checked) Go.Ab.zDC_1 (by kernel_rfl) ?_ | refine SW.cond ?_ | refine SW.skip ?_ | refine ⟨_, c, ?_⟩ | (refine allF_i fun b hb => ?_; replace hD := And.intro hb hD; clear hb; try simp only [fresh_cons, fresh_nil, and_true, ne_eq, neF] at hD) | simp only [appK, appOsK]); try simp only [Go.Ab.zDC_1, go_sem, hD, hli, hl3, i3, ie, i0, w1, fi, a1, gm, z0, true_implies]) | (refine And.intro (by omega) ?_) | (refine ifI (fun hc => ?_) (fun hc => ?_) <;> first | (exfalso; omega) | skip) | (apply hK; clear hK K) | (refine And.intro ?_ ?_)
        all_goals
          obtain ⟨c1, rfl⟩ : ∃ x, x = b := ⟨_, rfl⟩
          refine Rnd.le (St.le_pick _ ?_ ?_) (Rnd.sub (min d.length 3 - (0 + 1)) (by omega) ((hI _ _).2 ⟨0 + 1, [(c1, .svs [Str (nmT 0), SL ta, RL tr]), (ob, .svs [.os c1 0 1 3]), (rb, .svs [SN])], rfl, by omega, hG2, .inr ⟨by omega, c1, by simp [fresh_cons, fresh_nil, hD], by rw [hs0]⟩, rfl⟩) (by repeat' (first | exact rfl | exact trivial | constructor)))
          · repeat' (first | exact (fun x hx => (List.not_mem_nil hx).elim) | refine List.forall_mem_cons.2 ⟨?_, ?_⟩ | exact List.mem_cons_self | apply List.mem_cons_of_mem)
          · simp [fresh_cons, fresh_nil, hD]
      · have hD := And.intro (u0 g u1) hE
        repeat' first | (with_reducible refine And.intro (by omega) ?_) | (refine SW.seq_k fun K hK => ?_) | (refine SW.block ?_) | ((first | refine SW.region ?_ | refine SW.regionZ (id := 5) (Checked.mixed Tryz.checked) Go.Ab.zDC_1 (by kernel_rfl) ?_ | refine SW.cond ?_ | refine SW.skip ?_ | refine ⟨_, c, ?_⟩ | (refine allF_i fun b hb => ?_; replace hD := And.intro hb hD; clear hb; try simp only [fresh_cons, fresh_nil, and_true, ne_eq, neF] at hD) | simp only [appK, appOsK]); try simp only [Go.Ab.zDC_1, go_sem, hD, hli, hl3, i3, ie, i0, w1, fi, a1, gm, z0, ba, lc, true_implies]) | (apply hK; clear hK K) | (refine And.intro ?_ ?_)
        all_goals
          obtain ⟨c1, rfl⟩ : ∃ x, x = b := ⟨_, rfl⟩
          refine Rnd.le (St.le_pick _ ?_ ?_) (Rnd.sub (min d.length 3 - (i + 1)) (by omega) ((hI _ _).2 ⟨i + 1, [(c1, .svs (fC tC (outD d i) ++ [Str (nmT i), SL ta, RL tr])), (ob, .svs [.os c1 0 (i + 1) 3]), (rb, .svs [SN])], rfl, by omega, hG2, .inr ⟨by omega, c1, by simp [fresh_cons, fresh_nil, hD], by rw [hsn]⟩, rfl⟩) (by repeat' (first | exact rfl | exact trivial | constructor)))
          · repeat' (first | exact (fun x hx => (List.not_mem_nil hx).elim) | refine List.forall_mem_cons.2 ⟨?_, ?_⟩ | exact List.mem_cons_self | apply List.mem_cons_of_mem)
          · simp [fresh_cons, fresh_nil, hD]
    · have c := rtab_big (cutR (d.getD i rc0)) 6 (by show 6 < (d.getD i rc0).rows.length; omega)
      rw [h6] at c
      have hV2 : V = .tup [.agg [SN], SB false] := by rw [hV]; unfold ofV; exact if_neg (hgd h7)
      clear hV hgd hG hG2
      subst hV2
      unfold cutR at c
      generalize d.getD i rc0 = x at *
      obtain ⟨xa, xg, xl⟩ := x
      simp only at c a1
      rcases hB with ⟨hm0, rfl⟩ | ⟨hm0, g, u1, rfl⟩
      · have hD := hE
        repeat' first | (refine SW.seq_k fun K hK => ?_) | (refine SW.block ?_) | ((first | refine SW.region ?_ | refine SW.regionZ (id := 5) (Checked.mixed Tryz.checked) Go.Ab.zDC_1 (by kernel_rfl) ?_ | refine SW.cond ?_ | refine SW.skip ?_ | refine SW.ret ?_ | refine ⟨_, c, ?_⟩ | (refine allF_i fun b hb => ?_; replace hD := And.intro hb hD; clear hb; try simp only [fresh_cons, fresh_nil, and_true, ne_eq, neF] at hD)); try simp only [Go.Ab.zDC_1, go_sem, hD, hli, hl3, i3, ie, i0, w1, fi, a1, true_implies]) | (apply hK; clear hK K) | (refine And.intro ?_ ?_)
        all_goals
          apply ret_cell (i := 2) (n := 1); exact rfl; (simp only [go_sem, hD]; try rfl); (first | exact Nat.le_refl _ | decide); simp only [resL_tmp, resL_cellE, resC_ok, resL_nil, tupOf, getN, go_sem, hD]
      · have hD := And.intro (u0 g u1) hE
        repeat' first | (refine SW.seq_k fun K hK => ?_) | (refine SW.block ?_) | ((first | refine SW.region ?_ | refine SW.regionZ (id := 5) (Checked.mixed Tryz.checked) Go.Ab.zDC_1 (by kernel_rfl) ?_ | refine SW.cond ?_ | refine SW.skip ?_ | refine SW.ret ?_ | refine ⟨_, c, ?_⟩ | (refine allF_i fun b hb => ?_; replace hD := And.intro hb hD; clear hb; try simp only [fresh_cons, fresh_nil, and_true, ne_eq, neF] at hD)); try simp only [Go.Ab.zDC_1, go_sem, hD, hli, hl3, i3, ie, i0, w1, fi, a1, true_implies]) | (apply hK; clear hK K) | (refine And.intro ?_ ?_)
        all_goals
          apply ret_cell (i := 2) (n := 1); exact rfl; (simp only [go_sem, hD]; try rfl); (first | exact Nat.le_refl _ | decide); simp only [resL_tmp, resL_cellE, resC_ok, resL_nil, tupOf, getN, go_sem, hD]
  · obtain rfl : i = min d.length 3 := by omega
    have hgood : goodD d := fun j hj => hG j hj
    have hV2 : V = .tup [DB (ofT d), SB (decide (d.length ≤ 3))] := by rw [hV]; unfold ofV; exact if_pos hgood
    have hol : (ofT d).length = min d.length 3 := outD_len d _
    have hoD : outD d (min d.length 3) = ofT d := rfl
    rw [hoD] at hB
    clear hV hG hgood hoD
    subst hV2
    apply Ab.SW.le (S' := ⟨[(0, RcL d), (2, .op rb 0), (3, SB false), (4, .op ob 0), (5, I64 (min d.length 3 : Nat))], [(ob, .svs [TL (ofT d)]), (rb, .svs [SN])]⟩)
    · rcases hB with ⟨hm0, rfl⟩ | ⟨hm0, g, u1, rfl⟩
      · have e2 : ofT d = [] := List.eq_nil_of_length_eq_zero (by omega)
        rw [e2]
        have s1 := St.le_nilC (t := [(0, RcL d), (2, .op rb 0), (3, SB false), (4, .op ob 0), (5, I64 (min d.length 3 : Nat))]) (h := [(ob, .svs [SN]), (rb, .svs [SN])]) (c := ob) (j := 0) (sz := 3) (f := tF []) (by rw [find_cons, if_pos rfl]) (by show 0 < 1; omega) rfl
        rw [upd_cons, if_pos rfl] at s1
        exact s1
      · simp only [fresh_cons, fresh_nil, and_true, ne_eq] at u1
        obtain ⟨⟨v1, v2⟩, _⟩ := u1
        have s1 := St.le_freezeC (t := [(0, RcL d), (2, .op rb 0), (3, SB false), (4, .op ob 0), (5, I64 (min d.length 3 : Nat))]) (h := [(g, .svs (fC tC (ofT d))), (ob, .svs [.os g 0 (min d.length 3) 3]), (rb, .svs [SN])]) (c := ob) (j := 0) (b := g) (off := 0) (len := min d.length 3) (sz := 3) (by rw [find_cons, if_neg v2, find_cons, if_pos rfl]) v1 (by show 0 < 1; omega) rfl (by rw [find_cons, if_pos rfl]) (by show 0 + min d.length 3 * 3 ≤ (fC tC (ofT d)).length; rw [← fC_len (enc := tC) (k := 3) (fun _ => rfl)]; omega) (tF (ofT d)) (fun j hj => by
          rw [getN_take _ _ _ (by show 0 + j * 3 + 3 ≤ (fC tC (ofT d)).length; have := fC_lt (enc := tC) (k := 3) (fun _ => rfl) (show j < (ofT d).length by omega) (show 2 < 3 by omega); omega), Nat.zero_add]
          exact fC_at (enc := tC) (k := 3) (fun _ => rfl) t0 (ofT d) j (by omega))
        rw [del_cons, if_pos rfl, upd_cons, if_pos rfl] at s1
        rw [show TL (ofT d) = .fl (min d.length 3) 3 (tF (ofT d)) by unfold TL; rw [hol]]
        exact s1
    · have hD := hE
      generalize ofT d = T at *
      by_cases h3 : d.length < 3
      · have hmi : min d.length 3 = d.length := by omega
        have hli : ¬ ((d.length : Nat) : Int) < ((d.length : Nat) : Int) := by omega
        have hle : ((d.length : Nat) : Int) ≤ 3 := by omega
        have hle2 : d.length ≤ 3 := by omega
        rw [hmi]
        repeat' first | (refine SW.seq_k fun K hK => ?_) | ((first | refine SW.region ?_ | refine SW.cond ?_ | refine SW.exit ?_ | refine SW.ret ?_); try simp only [go_sem, hD, hli, hle, hle2, true_implies]) | (apply hK; clear hK K) | (clear hK K; apply hK; clear hK K)
        all_goals
          apply ret_cell (i := 2) (n := 1); exact rfl; (simp only [go_sem, hD]; try rfl); (first | exact Nat.le_refl _ | decide); simp only [resL_tmp, resL_cellE, resC_ok, resL_nil, tupOf, getN, go_sem, hD]
      · have hmi : min d.length 3 = 3 := by omega
        have hli : (3 : Int) < ((d.length : Nat) : Int) ∨ ¬ (3 : Int) < ((d.length : Nat) : Int) := by omega
        have h33 : ((3 : Nat) : Int) = 3 := rfl
        have hdi : decide (((d.length : Nat) : Int) ≤ 3) = decide (d.length ≤ 3) := by rw [Bool.eq_iff_iff, decide_eq_true_iff, decide_eq_true_iff]; omega
        rw [hmi, h33]
        rcases hli with hli | hli
        · repeat' first | (refine SW.seq_k fun K hK => ?_) | ((first | refine SW.region ?_ | refine SW.cond ?_ | refine SW.exit ?_ | refine SW.ret ?_); try simp only [go_sem, hD, hli, hdi, true_implies]) | (apply hK; clear hK K) | (clear hK K; apply hK; clear hK K)
          all_goals
            apply ret_cell (i := 2) (n := 1); exact rfl; (simp only [go_sem, hD]; try rfl); (first | exact Nat.le_refl _ | decide); simp only [resL_tmp, resL_cellE, resC_ok, resL_nil, tupOf, getN, go_sem, hD]
        · repeat' first | (refine SW.seq_k fun K hK => ?_) | ((first | refine SW.region ?_ | refine SW.cond ?_ | refine SW.exit ?_ | refine SW.ret ?_); try simp only [go_sem, hD, hli, hdi, true_implies]) | (apply hK; clear hK K) | (clear hK K; apply hK; clear hK K)
          all_goals
            apply ret_cell (i := 2) (n := 1); exact rfl; (simp only [go_sem, hD]; try rfl); (first | exact Nat.le_refl _ | decide); simp only [resL_tmp, resL_cellE, resC_ok, resL_nil, tupOf, getN, go_sem, hD]
end Go.Proofs.YtpidncgibgiidaaGreat
namespace Go.Ab.A15
open Go Go.Ab Go.Ab.A34
end Go.Ab.A15
namespace Go.Proofs.YtpidncgibgiidaaGreat
open Go Go.Ab Go.Ab.A34 Go.Ab.A15
variable [Gl] [Tabs]
end Go.Proofs.YtpidncgibgiidaaGreat
namespace Go.Ab.A15
open Go Go.Ab Go.Ab.A34
end Go.Ab.A15
namespace Go.Proofs.YtpidncgibgiidaaGreat
open Go Go.Ab Go.Ab.A34 Go.Ab.A15
variable [Gl] [Tabs]
end Go.Proofs.YtpidncgibgiidaaGreat
namespace Go.Ab.A15
open Go Go.Ab Go.Ab.A34
def cmpI (x y : Int) : Int := if x < y then -1 else if y < x then 1 else 0
def lexI : List Int → List Int → Int
  | [], [] => 0
  | [], _ :: _ => -1
  | _ :: _, [] => 1
  | x :: a, y :: b => if cmpI x y = 0 then lexI a b else cmpI x y
theorem lexI_step {a b : List Int} {i : Nat} (h : i < a.length) : lexI (a.drop i) (b.drop i) = if i < b.length then (if cmpI (a.getD i 0) (b.getD i 0) = 0 then lexI (a.drop (i + 1)) (b.drop (i + 1)) else cmpI (a.getD i 0) (b.getD i 0)) else 1 := by
  have g : a.getD i 0 = a[i] := by simp [List.getD_eq_getElem?_getD, h]
  rw [List.drop_eq_getElem_cons h, g]
  by_cases hb : i < b.length
  · have g2 : b.getD i 0 = b[i] := by simp [List.getD_eq_getElem?_getD, hb]
    rw [List.drop_eq_getElem_cons hb, g2, if_pos hb]
    rfl
  · rw [if_neg hb, List.drop_of_length_le (show b.length ≤ i by omega)]
    rfl
theorem lexI_end {a b : List Int} {i : Nat} (h : a.length ≤ i) : lexI (a.drop i) (b.drop i) = if i < b.length then -1 else 0 := by
  rw [List.drop_of_length_le h]
  by_cases hb : i < b.length
  · rw [List.drop_eq_getElem_cons hb, if_pos hb]
    rfl
  · rw [if_neg hb, List.drop_of_length_le (show b.length ≤ i by omega)]
    rfl
end Go.Ab.A15
namespace Go.Proofs.YtpidncgibgiidaaGreat
open Go Go.Ab Go.Ab.A34 Go.Ab.A15
variable [Gl] [Tabs]
end Go.Proofs.YtpidncgibgiidaaGreat
namespace Go.Ab
open Go
theorem PCall.nilA [Gl] {P : Program} {f : FuncId} {args : List SV} {r : SV} (i : Nat) {sz : Nat} {g : Nat → List SV} (hi : i < args.length) (ha : args.getD i .any = .sc (.slice none 0 0)) (hc : PCall P f (args.set i (.fl 0 sz g)) r) : PCall P f args r := by
  refine Call.le (fun c hc => hc) (fun M w vs own hr => ⟨own, by simpa using hr.1, fun j hj => ?_⟩) hc
  rw [getD_set hi]
  have h0 := hr.2 j (by simpa using hj)
  by_cases hij : i = j
  · subst hij
    rw [if_pos rfl]
    rw [ha] at h0
    exact Rep.fl_nil h0
  · rw [if_neg hij]; exact h0
end Go.Ab
namespace Go.Ab.A15
open Go Go.Ab Go.Ab.A34
end Go.Ab.A15
namespace Go.Proofs.YtpidncgibgiidaaGreat
open Go Go.Ab Go.Ab.A34 Go.Ab.A15
variable [Gl] [Tabs]
end Go.Proofs.YtpidncgibgiidaaGreat
namespace Go.Ab
open Go.RowKit
theorem St.le_slist [Gl] {t : List (Nat × SV)} {h h' : Heap} (hs : h'.Sublist h) : (St.mk t h).le ⟨t, h'⟩ := St.le_sublist (fun _ hx => hs.subset hx) (fun hn => (hs.map _).nodup hn)
end Go.Ab
