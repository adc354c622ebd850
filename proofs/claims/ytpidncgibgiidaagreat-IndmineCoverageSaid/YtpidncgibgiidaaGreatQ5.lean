/- Several texts in one: IA, IB, IC, ID, IE, IF, NA, NB, UD, UE, NS, IG, NC. -/
import Derived.Test.YtpidncgibgiidaaGreatQ4
import Derived.Test.YtpidncgibgiidaaGreatQ3
import Derived.Test.YtpidncgibgiidaaGreatZ15
import Derived.Test.YtpidncgibgiidaaGreatZ17
import Derived.Test.YtpidncgibgiidaaGreatZ21
import Derived.Test.YtpidncgibgiidaaGreatS1
import Derived.Test.YtpidncgibgiidaaGreatS3
import Derived.Test.YtpidncgibgiidaaGreatS4
import Derived.Test.YtpidncgibgiidaaGreatZ26
import Derived.Test.YtpidncgibgiidaaGreatQ1
import Derived.Test.YtpidncgibgiidaaGreatZ18
import Derived.Test.YtpidncgibgiidaaGreatQ2
set_option linter.unusedSimpArgs false
set_option linter.unusedVariables false
set_option linter.unusedSectionVars false
set_option maxHeartbeats 4000000
set_option maxRecDepth 20000
namespace Go.Ab.A15
open Go Go.Ab Go.Ab.A34
theorem tabI_any (x : ByteArray) : ∀ (l : List Tb) (i : Nat), (0 ≤ tabI x i l) ↔ l.any (fun t => decide (t.name = x)) = true
  | [], i => by simp [tabI]
  | t :: l, i => by
    unfold tabI
    rw [List.any_cons]
    by_cases h : t.name = x
    · rw [if_pos h, decide_eq_true h]
      simp
    · rw [if_neg h, decide_eq_false h, Bool.false_or]
      exact tabI_any x l (i + 1)
def chkD (db : List Tb) : Int := if chkS db = 0 then (if 6 < db.length ∨ db.any (fun t => decide (6 < t.attrs.length)) = true then 3 else 0) else chkS db
end Go.Ab.A15
namespace Go.Proofs.YtpidncgibgiidaaGreat
open Go Go.Ab Go.Ab.A34 Go.Ab.A15
variable [Gl] [Tabs]
theorem indexF_t (g : FuncId) (caps : List SV) (p : Tb → Bool) (l : List Tb) (n : Nat) (f : Nat → List SV) (hn : n = l.length) (hf : ∀ j, j < l.length → f j = tF l j) (hl : l.length ≤ 1000000) (hg : ∀ d ∈ l, PCall Tryz.prog g (TB d :: caps) (SB (p d))) : PCall Tryz.prog 54 [.fl n 3 f, .fn (.func g) [] caps] (I64 (posF p 0 l)) := by
  subst hn
  obtain ⟨R, hR⟩ : ∃ R, R = posF p 0 l := ⟨_, rfl⟩
  rw [← hR]
  refine Call.enter' (N := 19) (rs := [.tmp 4]) Tryz.func54 rfl rfl rfl (by decide) rfl ?_; simp only [argT]; have hD : (0 : Nat) = 0 := rfl
  repeat' first | (refine SW.seq_k fun K hK => ?_) | (refine SW.block ?_) | (refine SW.region ?_; try simp only [go_sem, hD]) | (apply hK; clear hK K)
  obtain ⟨I, hI⟩ : ∃ I : Nat → St → Prop, ∀ k S, I k S ↔ (∃ (i : Nat) , k = l.length - i ∧ i ≤ l.length ∧ R = posF p i (l.drop i) ∧ S = ⟨[(0, .fl l.length 3 f), (1, .fn (.func g) [] caps), (7, I64 l.length), (8, I64 i)], []⟩) := ⟨fun k S => _, fun _ _ => Iff.rfl⟩
  refine SW.loop' I (l.length) ((hI _ _).2 ⟨0, rfl, Nat.zero_le _, hR, rfl⟩) (by repeat' (first | exact rfl | exact trivial | constructor)) ?_
  intro k S hIn
  obtain ⟨i, rfl, hi, hC, rfl⟩ := (hI _ _).1 hIn
  clear hIn
  have ie : ((i : Nat) : Int).toNat = i := Int.toNat_natCast _
  have i0 : (0 : Int) ≤ ((i : Nat) : Int) := by omega
  clear hR
  by_cases hlt : i < l.length
  · have hli : ((i : Nat) : Int) < (((l.length) : Nat) : Int) := by omega
    have w1 : IntKind.i64.wrap ((i : Int) + 1) = ((i + 1 : Nat) : Int) := by rw [i64_wrap (by omega) (by omega)]; omega
    rw [posF_step t0 hlt] at hC
    have fi : f i = tC (l.getD i t0) := hf i hlt
    have c := hg _ (getD_mem' t0 hlt)
    generalize l.getD i t0 = t at *
    obtain ⟨tn, ta, tr⟩ := t
    cases he : p ⟨tn, ta, tr⟩ with
    | true =>
      rw [he] at c
      rw [he, if_pos rfl] at hC
      subst hC
      repeat' first | (refine SW.seq_k fun K hK => ?_) | (refine SW.block ?_) | ((first | refine SW.region ?_ | refine SW.cond ?_ | refine SW.skip ?_ | refine SW.ret ?_ | refine Call.of_pure (c) ?_); try simp only [go_sem, hD, hli, ie, i0, w1, fi]) | (apply hK; clear hK K)
      refine ret_pure ?_; simp only [resL_tmp, resL_nil, tupOf, go_sem, hD]
    | false =>
      rw [he] at c
      rw [he, if_neg (by simp)] at hC
      repeat' first | (refine SW.seq_k fun K hK => ?_) | (refine SW.block ?_) | ((first | refine SW.region ?_ | refine SW.cond ?_ | refine SW.skip ?_ | refine Call.of_pure (c) ?_); try simp only [go_sem, hD, hli, ie, i0, w1, fi]) | (apply hK; clear hK K)
      refine Rnd.sub (l.length - (i + 1)) (by omega) ((hI _ _).2 ⟨i + 1, rfl, by omega, hC, rfl⟩) (by repeat' (first | exact rfl | exact trivial | constructor))
  · have hli : ¬ ((i : Nat) : Int) < (((l.length) : Nat) : Int) := by omega
    rw [List.drop_of_length_le (by omega)] at hC
    have hC2 : R = -1 := hC
    subst hC2
    repeat' first | (refine SW.seq_k fun K hK => ?_) | ((first | refine SW.region ?_ | refine SW.cond ?_ | refine SW.exit ?_ | refine SW.ret ?_); try simp only [go_sem, hD, hli]) | (apply hK; clear hK K) | (clear hK K; apply hK; clear hK K)
    refine ret_pure ?_; simp only [resL_tmp, resL_nil, tupOf, go_sem, hD]
theorem contF_t (g : FuncId) (caps : List SV) (p : Tb → Bool) (l : List Tb) (n : Nat) (f : Nat → List SV) (hn : n = l.length) (hf : ∀ j, j < l.length → f j = tF l j) (hl : l.length ≤ 1000000) (hg : ∀ d ∈ l, PCall Tryz.prog g (TB d :: caps) (SB (p d))) : PCall Tryz.prog 89 [.fl n 3 f, .fn (.func g) [] caps] (SB (l.any p)) := by
  have ix := indexF_t g caps p l n f hn hf hl hg
  have hm := posF_any p l 0
  generalize posF p 0 l = z at *
  cases ha : l.any p with
  | true =>
    have hz := hm.2 ha
    refine Call.enter' (N := 9) (rs := [.tmp 4]) Tryz.func89 rfl rfl rfl (by decide) rfl ?_; simp only [argT]; have hD : (0 : Nat) = 0 := rfl
    repeat' first | (refine SW.seq_k fun K hK => ?_) | ((first | refine SW.region ?_ | refine SW.ret ?_ | refine Call.of_pure (ix) ?_); try simp only [go_sem, hD, hz, true_implies]) | (apply hK; clear hK K)
    refine ret_pure ?_; simp only [resL_tmp, resL_nil, tupOf, go_sem, hD]
  | false =>
    have hz : ¬ 0 ≤ z := fun h => by have := hm.1 h; rw [ha] at this; cases this
    refine Call.enter' (N := 9) (rs := [.tmp 4]) Tryz.func89 rfl rfl rfl (by decide) rfl ?_; simp only [argT]; have hD : (0 : Nat) = 0 := rfl
    repeat' first | (refine SW.seq_k fun K hK => ?_) | ((first | refine SW.region ?_ | refine SW.ret ?_ | refine Call.of_pure (ix) ?_); try simp only [go_sem, hD, hz, true_implies]) | (apply hK; clear hK K)
    refine ret_pure ?_; simp only [resL_tmp, resL_nil, tupOf, go_sem, hD]
theorem same_nm (t d : Tb) : PCall Tryz.prog 128 (TB d :: [.fp (tC t)]) (SB (decide (d.name = t.name))) := by
  obtain ⟨tn, ta, tr⟩ := t
  obtain ⟨dn, da, dr⟩ := d
  have h1 := @barr_eq dn tn
  have h2 : (dn.toList == tn.toList) = decide (dn = tn) := by rw [Bool.eq_iff_iff, decide_eq_true_eq]; exact h1
  refine Call.enter' (N := 9) (rs := [.tmp 3]) Tryz.func128 rfl rfl rfl (by decide) rfl ?_; simp only [argT]; have hD : (0 : Nat) = 0 := rfl
  repeat' first | (refine SW.seq_k fun K hK => ?_) | ((first | refine SW.region ?_ | refine SW.ret ?_ | (refine allF_i fun b hb => ?_; replace hD := And.intro hb hD; clear hb; try simp only [fresh_cons, fresh_nil, and_true, ne_eq, neF] at hD)); try simp only [go_sem, hD, h2, true_implies]) | (apply hK; clear hK K)
  refine ret_pure ?_; simp only [resL_tmp, resL_nil, tupOf, go_sem, hD]
theorem wide_f (d : Tb) : PCall Tryz.prog 90 [TB d] (SB (decide (6 < d.attrs.length))) := by
  obtain ⟨dn, da, dr⟩ := d
  have hh : ((6 : Int) < ((da.length : Nat) : Int)) = (6 < da.length) := propext (by omega)
  refine Call.enter' (N := 7) (rs := [.tmp 2]) Tryz.func90 rfl rfl rfl (by decide) rfl ?_; simp only [argT]; have hD : (0 : Nat) = 0 := rfl
  repeat' first | (refine SW.seq_k fun K hK => ?_) | ((first | refine SW.region ?_ | refine SW.ret ?_ | (refine allF_i fun b hb => ?_; replace hD := And.intro hb hD; clear hb; try simp only [fresh_cons, fresh_nil, and_true, ne_eq, neF] at hD)); try simp only [go_sem, hD, hh, true_implies]) | (apply hK; clear hK K)
  refine ret_pure ?_; simp only [resL_tmp, resL_nil, tupOf, go_sem, hD]
theorem database_p (db : List Tb) (hdb : db.length ≤ 1000000) : PCall Tryz.prog 88 [DB db] (I64 (chkS db)) := by
  obtain ⟨R, hR⟩ : ∃ R, R = chkS db := ⟨_, rfl⟩
  rw [← hR]
  unfold chkS at hR
  by_cases h50 : 50 < db.length
  · rw [if_pos h50] at hR
    subst hR
    have h50i : (50 : Int) < ((db.length : Nat) : Int) := by omega
    refine Call.enter' (N := 30) (rs := [.tmp 2]) Tryz.func88 rfl rfl rfl (by decide) rfl ?_; simp only [argT]; have hD : (0 : Nat) = 0 := rfl
    repeat' first | (refine SW.seq_k fun K hK => ?_) | ((first | refine SW.region ?_ | refine SW.cond ?_ | refine SW.ret ?_ | (refine allF_i fun b hb => ?_; replace hD := And.intro hb hD; clear hb; try simp only [fresh_cons, fresh_nil, and_true, ne_eq, neF] at hD)); try simp only [go_sem, hD, h50i]) | (apply hK; clear hK K)
    refine ret_pure ?_; simp only [resL_tmp, resL_nil, tupOf, go_sem, hD]
  · rw [if_neg h50] at hR
    have h50i : ¬ (50 : Int) < ((db.length : Nat) : Int) := by omega
    refine Call.enter' (N := 30) (rs := [.tmp 2]) Tryz.func88 rfl rfl rfl (by decide) rfl ?_; simp only [argT]; have hD : (0 : Nat) = 0 := rfl
    repeat' first | (refine SW.seq_k fun K hK => ?_) | (refine SW.block ?_) | ((first | refine SW.region ?_ | refine SW.cond ?_ | refine SW.skip ?_ | (refine allF_i fun b hb => ?_; replace hD := And.intro hb hD; clear hb; try simp only [fresh_cons, fresh_nil, and_true, ne_eq, neF] at hD)); try simp only [go_sem, hD, h50i]) | (apply hK; clear hK K)
    obtain ⟨xb, rfl⟩ : ∃ x, x = b := ⟨_, rfl⟩
    obtain ⟨I, hI⟩ : ∃ I : Nat → St → Prop, ∀ k S, I k S ↔ (∃ (i : Nat) , k = db.length - i ∧ i ≤ db.length ∧ R = chkF db (db.length - i) i ∧ S = ⟨[(1, .op xb 0), (11, TL db), (12, I64 db.length), (13, I64 i)], [(xb, .svs [TL db])]⟩) := ⟨fun k S => _, fun _ _ => Iff.rfl⟩
    refine SW.loop' I (db.length) ((hI _ _).2 ⟨0, rfl, Nat.zero_le _, hR, rfl⟩) (by repeat' (first | exact rfl | exact trivial | constructor)) ?_
    intro k S hIn
    obtain ⟨i, rfl, hi, hC, rfl⟩ := (hI _ _).1 hIn
    clear hIn
    have ie : ((i : Nat) : Int).toNat = i := Int.toNat_natCast _
    have i0 : (0 : Int) ≤ ((i : Nat) : Int) := by omega
    clear hR
    by_cases hlt : i < db.length
    · have hli : ((i : Nat) : Int) < (((db.length) : Nat) : Int) := by omega
      have w1 : IntKind.i64.wrap ((i : Int) + 1) = ((i + 1 : Nat) : Int) := by rw [i64_wrap (by omega) (by omega)]; omega
      rw [show db.length - i = (db.length - (i + 1)) + 1 by omega, chkF] at hC
      have fi : tF db i = tC (db.getD i t0) := rfl
      have iz : (((i : Nat) : Int) - 0).toNat = i := by omega
      have il : ((i : Nat) : Int) ≤ ((db.length : Nat) : Int) := by omega
      have c1 := valid_tp (db.getD i t0)
      have c2 := contF_t 128 [.fp (tC (db.getD i t0))] (fun t => decide (t.name = (db.getD i t0).name)) (db.take i) i (tF db) (by rw [List.length_take]; omega) (fun j hj => tF_take (by rw [List.length_take] at hj; omega)) (by rw [List.length_take]; omega) (fun d _ => same_nm (db.getD i t0) d)
      have hq0 := tabI_any (db.getD i t0).name (db.take i) 0
      generalize (db.take i).any (fun t => decide (t.name = (db.getD i t0).name)) = z at *
      generalize db.getD i t0 = t at *
      generalize tabI t.name 0 (db.take i) = q at *
      generalize validS t = v at *
      obtain ⟨tn, ta, tr⟩ := t
      try simp only at c2
      by_cases hv : v = 0
      · rw [if_neg (fun x => x hv)] at hC
        by_cases hq : 0 ≤ q
        · rw [if_pos hq] at hC
          obtain rfl : z = true := hq0.1 hq
          subst hC
          repeat' first | ((refine Ab.SW.le (St.le_freezeP (i := 4) (n := 3) rfl (by rw [find_cons, if_pos rfl]) (by exact Nat.le_refl 3)) ?_); (rw [del_head]); (simp only [getN, Blk.get])) | (refine SW.seq_k fun K hK => ?_) | (refine SW.block ?_) | ((first | refine SW.region ?_ | refine SW.cond ?_ | refine SW.skip ?_ | refine SW.ret ?_ | refine Call.of_pure (c1) ?_ | refine Call.of_pure (c2) ?_ | (refine allF_i fun b hb => ?_; replace hD := And.intro hb hD; clear hb; try simp only [fresh_cons, fresh_nil, and_true, ne_eq, neF] at hD)); try simp only [go_sem, hD, hli, ie, i0, w1, fi, iz, il, hv, true_implies]) | (apply hK; clear hK K)
          refine ret_pure ?_; simp only [resL_tmp, resL_nil, tupOf, go_sem, hD]
        · rw [if_neg hq] at hC
          obtain rfl : z = false := by rw [Bool.eq_false_iff]; exact fun h => hq (hq0.2 h)
          repeat' first | ((refine Ab.SW.le (St.le_freezeP (i := 4) (n := 3) rfl (by rw [find_cons, if_pos rfl]) (by exact Nat.le_refl 3)) ?_); (rw [del_head]); (simp only [getN, Blk.get])) | (refine SW.seq_k fun K hK => ?_) | (refine SW.block ?_) | ((first | refine SW.region ?_ | refine SW.cond ?_ | refine SW.skip ?_ | refine Call.of_pure (c1) ?_ | refine Call.of_pure (c2) ?_ | (refine allF_i fun b hb => ?_; replace hD := And.intro hb hD; clear hb; try simp only [fresh_cons, fresh_nil, and_true, ne_eq, neF] at hD)); try simp only [go_sem, hD, hli, ie, i0, w1, fi, iz, il, hv, true_implies]) | (apply hK; clear hK K)
          refine Rnd.le (St.le_only ?_) (Rnd.sub (db.length - (i + 1)) (by omega) ((hI _ _).2 ⟨i + 1, rfl, by omega, hC, rfl⟩) (by repeat' (first | exact rfl | exact trivial | constructor)))
          repeat (first | exact List.mem_cons_self | apply List.mem_cons_of_mem)
      · rw [if_pos hv] at hC
        subst hC
        repeat' first | (refine SW.seq_k fun K hK => ?_) | (refine SW.block ?_) | ((first | refine SW.region ?_ | refine SW.cond ?_ | refine SW.skip ?_ | refine SW.ret ?_ | refine Call.of_pure (c1) ?_ | (refine allF_i fun b hb => ?_; replace hD := And.intro hb hD; clear hb; try simp only [fresh_cons, fresh_nil, and_true, ne_eq, neF] at hD)); try simp only [go_sem, hD, hli, ie, i0, w1, fi, iz, il, hv, true_implies]) | (apply hK; clear hK K)
        refine ret_pure ?_; simp only [resL_tmp, resL_nil, tupOf, go_sem, hD]
    · have hli : ¬ ((i : Nat) : Int) < (((db.length) : Nat) : Int) := by omega
      rw [show db.length - i = 0 by omega] at hC
      have hC2 : R = 0 := hC
      subst hC2
      repeat' first | (refine SW.seq_k fun K hK => ?_) | ((first | refine SW.region ?_ | refine SW.cond ?_ | refine SW.exit ?_ | refine SW.ret ?_); try simp only [go_sem, hD, hli]) | (apply hK; clear hK K) | (clear hK K; apply hK; clear hK K)
      refine ret_pure ?_; simp only [resL_tmp, resL_nil, tupOf, go_sem, hD]
theorem checked_p (db : List Tb) (hdb : db.length ≤ 1000000) : PCall Tryz.prog 46 [DB db] (I64 (chkD db)) := by
  have c := database_p db hdb
  have cf := contF_t 90 [] (fun t => decide (6 < t.attrs.length)) db db.length (tF db) rfl (fun j hj => rfl) hdb (fun d _ => wide_f d)
  unfold chkD
  generalize db.any (fun t => decide (6 < t.attrs.length)) = z at *
  generalize chkS db = v at *
  by_cases hv : v = 0
  · rw [if_pos hv]
    by_cases h6 : 6 < db.length
    · rw [if_pos (.inl h6)]
      have h6i : (6 : Int) < ((db.length : Nat) : Int) := by omega
      refine Call.enter' (N := 18) (rs := [.tmp 2]) Tryz.func46 rfl rfl rfl (by decide) rfl ?_; simp only [argT]; have hD : (0 : Nat) = 0 := rfl
      repeat' first | (refine SW.seq_k fun K hK => ?_) | ((first | refine SW.region ?_ | refine SW.cond ?_ | refine SW.skip ?_ | refine SW.ret ?_ | refine Call.of_pure (c) ?_ | (refine allF_i fun b hb => ?_; replace hD := And.intro hb hD; clear hb; try simp only [fresh_cons, fresh_nil, and_true, ne_eq, neF] at hD)); try simp only [go_sem, hD, hv, h6i, true_implies]) | (apply hK; clear hK K)
      all_goals
        refine ret_pure ?_; simp only [resL_tmp, resL_nil, tupOf, go_sem, hD]
    · have h6i : ¬ (6 : Int) < ((db.length : Nat) : Int) := by omega
      cases z with
      | true =>
        rw [if_pos (.inr rfl)]
        refine Call.enter' (N := 18) (rs := [.tmp 2]) Tryz.func46 rfl rfl rfl (by decide) rfl ?_; simp only [argT]; have hD : (0 : Nat) = 0 := rfl
        repeat' first | (refine SW.seq_k fun K hK => ?_) | ((first | refine SW.region ?_ | refine SW.cond ?_ | refine SW.skip ?_ | refine SW.ret ?_ | refine Call.of_pure (c) ?_ | refine Call.of_pure (cf) ?_ | (refine allF_i fun b hb => ?_; replace hD := And.intro hb hD; clear hb; try simp only [fresh_cons, fresh_nil, and_true, ne_eq, neF] at hD)); try simp only [go_sem, hD, hv, h6i, true_implies]) | (apply hK; clear hK K)
        all_goals
          refine ret_pure ?_; simp only [resL_tmp, resL_nil, tupOf, go_sem, hD]
      | false =>
        rw [if_neg (fun h => h.elim h6 (fun h => by cases h))]
        refine Call.enter' (N := 18) (rs := [.tmp 2]) Tryz.func46 rfl rfl rfl (by decide) rfl ?_; simp only [argT]; have hD : (0 : Nat) = 0 := rfl
        repeat' first | (refine SW.seq_k fun K hK => ?_) | ((first | refine SW.region ?_ | refine SW.cond ?_ | refine SW.skip ?_ | refine SW.ret ?_ | refine Call.of_pure (c) ?_ | refine Call.of_pure (cf) ?_ | (refine allF_i fun b hb => ?_; replace hD := And.intro hb hD; clear hb; try simp only [fresh_cons, fresh_nil, and_true, ne_eq, neF] at hD)); try simp only [go_sem, hD, hv, h6i, true_implies]) | (apply hK; clear hK K)
        all_goals
          refine ret_pure ?_; simp only [resL_tmp, resL_nil, tupOf, go_sem, hD]
  · rw [if_neg hv]
    refine Call.enter' (N := 18) (rs := [.tmp 2]) Tryz.func46 rfl rfl rfl (by decide) rfl ?_; simp only [argT]; have hD : (0 : Nat) = 0 := rfl
    repeat' first | (refine SW.seq_k fun K hK => ?_) | ((first | refine SW.region ?_ | refine SW.cond ?_ | refine SW.ret ?_ | refine Call.of_pure (c) ?_ | (refine allF_i fun b hb => ?_; replace hD := And.intro hb hD; clear hb; try simp only [fresh_cons, fresh_nil, and_true, ne_eq, neF] at hD)); try simp only [go_sem, hD, hv, true_implies]) | (apply hK; clear hK K)
    refine ret_pure ?_; simp only [resL_tmp, resL_nil, tupOf, go_sem, hD]
end Go.Proofs.YtpidncgibgiidaaGreat
namespace Go.Ab.A15
open Go Go.Ab Go.Ab.A34 Go.Ab.A01
def hM (F T : List R3) (l r : List Int) : Bool := !F.any fun x => !T.any fun y => agB l r x.2 y.2
end Go.Ab.A15
def Go.Ab.zIB_1 : Go.Ab.OZ := (.one 0 [0, 4, 5, 6] (.one 1 [1, 3, 4, 5, 6] (.one 2 [2, 3, 4, 5, 6] (.one 3 [3, 4, 5, 6] (.alt 4 (.one 5 [5, 6] (.one 6 [6] .done)) .nil)))))
namespace Go.Proofs.YtpidncgibgiidaaGreat
open Go Go.Ab Go.Ab.A34 Go.Ab.A15 Go.Ab.A01
variable [Gl] [Tabs]
theorem at_p (r : R3) (a : List Int) (hr : OkR r) (ha : ∀ x ∈ a, 0 ≤ x ∧ x < r.2.length) (hal : a.length ≤ 1000) : PCall Tryz.prog 167 [.agg [I64 r.1, VL r.2], IL a] (Str (mkB (catK r a))) := by
  have hlen := catK_len hr ha
  obtain ⟨id, vs⟩ := r
  simp only at ha
  refine Call.enter' (N := 29) (rs := [.tmp 4]) Tryz.func167 rfl rfl rfl (by decide) rfl ?_; simp only [argT]; have hD : (0 : Nat) = 0 := rfl
  repeat' first | (refine SW.seq_k fun K hK => ?_) | (refine SW.block ?_) | ((first | refine SW.region ?_ | (refine allF_i fun b hb => ?_; replace hD := And.intro hb hD; clear hb; try simp only [fresh_cons, fresh_nil, and_true, ne_eq, neF] at hD)); try simp only [go_sem, hD, true_implies]) | (apply hK; clear hK K)
  obtain ⟨bb, rfl⟩ : ∃ x, x = b := ⟨_, rfl⟩
  obtain ⟨b2, rfl⟩ : ∃ x, x = b := ⟨_, rfl⟩
  refine Ab.SW.le (S' := ⟨[(1, IL a), (2, .fp [I64 id, VL vs]), (5, BP bb), (4, Str ⟨#[]⟩), (10, IL a), (11, I64 a.length), (12, I64 (0 : Nat))], [(bb, .svs [.sc (.pointer none), .nt])]⟩) ?_ ?_
  · refine St.le.trans (St.le_freezeP (i := 2) (b := b2) (off := 0) (n := 2) (k := .svs [I64 id, VL vs]) rfl (by simp [find_cons, hD]) (by exact Nat.le_refl 2)) ?_
    simp only [getN, Blk.get, go_sem, hD]
    exact St.le_sub (by repeat' (first | exact rfl | exact trivial | constructor))
  clear hD
  have hD : (0 : Nat) = 0 := rfl
  obtain ⟨I, hI⟩ : ∃ I : Nat → St → Prop, ∀ k S, I k S ↔ (∃ (i : Nat) (h : Heap), k = a.length - i ∧ i ≤ a.length ∧ BH bb (catK (id, vs) (a.take i)) h [] ∧ S = ⟨[(1, IL a), (2, .fp [I64 id, VL vs]), (5, BP bb), (4, Str ⟨#[]⟩), (10, IL a), (11, I64 a.length), (12, I64 i)], h⟩) := ⟨fun k S => _, fun _ _ => Iff.rfl⟩
  refine SW.loop' I (a.length) ((hI _ _).2 ⟨0, _, rfl, Nat.zero_le _, .inl ⟨rfl, rfl⟩, rfl⟩) (by repeat' (first | exact rfl | exact trivial | constructor)) ?_
  intro k S hIn
  obtain ⟨i, h, rfl, hi, hB, rfl⟩ := (hI _ _).1 hIn
  clear hIn
  have ie : ((i : Nat) : Int).toNat = i := Int.toNat_natCast _
  have i0 : (0 : Int) ≤ ((i : Nat) : Int) := by omega
  by_cases hlt : i < a.length
  · have hli : ((i : Nat) : Int) < (((a.length) : Nat) : Int) := by omega
    have w1 : IntKind.i64.wrap ((i : Int) + 1) = ((i + 1 : Nat) : Int) := by rw [i64_wrap (by omega) (by omega)]; omega
    have fa : iF a i = [I64 (a.getD i 0)] := rfl
    have hx := ha _ (getD_mem' 0 hlt)
    have hst := catK_take (id, vs) a i hlt
    have hcl := catK_len hr (a := a.take i) (fun x hx => ha x (List.mem_of_mem_take hx))
    rw [List.length_take] at hcl
    generalize a.getD i 0 = x at *
    obtain ⟨x0, x1⟩ := hx
    have mx : vs.getD x.toNat v0 ∈ vs := getD_mem v0 (by omega)
    have fv : vF vs x.toNat = vC (vs.getD x.toNat v0) := rfl
    have kv := key_v _ (hr.v _ mx) (hr.n _ mx)
    have hkl := kL_len (hr.v _ mx)
    simp only at hst
    generalize vs.getD x.toNat v0 = v at *
    obtain ⟨v1, v2, v3⟩ := v
    have hms := mkB_size (kL (v1, v2, v3))
    have ws := wstr_c bb _ h [] hB trivial (mkB (kL (v1, v2, v3))) (by omega) (by omega)
    have hml : (mkB (kL (v1, v2, v3))).data.toList = kL (v1, v2, v3) := by simp [mkB]
    rw [hml, ← hst] at ws
    generalize mkB (kL (v1, v2, v3)) = m at *
    clear hB
    repeat' first | ((with_reducible refine Call.mono ws ?_); intro r h' hx; obtain ⟨rfl, hB2⟩ := hx; (try simp only [go_sem, hD])) | (refine SW.seq_k fun K hK => ?_) | (refine SW.block ?_) | ((first | refine SW.region ?_ | refine SW.cond ?_ | refine SW.skip ?_ | refine Call.of_pure (kv) ?_); try simp only [go_sem, hD, hli, ie, i0, w1, fa, x0, x1, fv, true_implies]) | (apply hK; clear hK K)
    refine Rnd.sub (a.length - (i + 1)) (by omega) ((hI _ _).2 ⟨i + 1, h', rfl, by omega, hB2, rfl⟩) (by repeat' (first | exact rfl | exact trivial | constructor))
  · have hli : ¬ ((i : Nat) : Int) < (((a.length) : Nat) : Int) := by omega
    obtain rfl : i = a.length := by omega
    rw [List.take_length] at hB
    have hll : (catK (id, vs) a).length ≤ 1000000 := by omega
    generalize catK (id, vs) a = l at *
    rcases hB with ⟨rfl, rfl⟩ | ⟨hl, g, blk, hf, hg, hc, rfl⟩
    · have cs := string_n bb (.sc (.pointer none)) []
      repeat' first | ((with_reducible refine Call.mono cs ?_); intro r h' hx; obtain ⟨rfl, rfl⟩ := hx; (try simp only [go_sem, hD])) | (refine SW.seq_k fun K hK => ?_) | ((first | refine SW.region ?_ | refine SW.cond ?_ | refine SW.exit ?_ | refine SW.ret ?_); try simp only [go_sem, hD, hli, true_implies]) | (apply hK; clear hK K) | (clear hK K; apply hK; clear hK K)
      refine ret_pure ?_; simp only [resL_tmp, resL_nil, tupOf, go_sem, hD]
      rfl
    · have cs := string_c bb g (.op bb 0) blk l hl hll hc []
      repeat' first | ((with_reducible refine Call.mono cs ?_); intro r h' hx; obtain ⟨rfl, rfl⟩ := hx; (try simp only [go_sem, hD])) | (refine SW.seq_k fun K hK => ?_) | ((first | refine SW.region ?_ | refine SW.cond ?_ | refine SW.exit ?_ | refine SW.ret ?_); try simp only [go_sem, hD, hli, true_implies]) | (apply hK; clear hK K) | (clear hK K; apply hK; clear hK K)
      refine ret_pure ?_; simp only [resL_tmp, resL_nil, tupOf, go_sem, hD]
      rfl
theorem indexF_r (g : FuncId) (caps : List SV) (p : R3 → Bool) (l : List R3) (H : Heap) (hl : l.length ≤ 1000000) (hg : ∀ y ∈ l, Ab.Call Tryz.prog g (.agg (rC y) :: caps) H (fun r h' => r = SB (p y) ∧ h' = H)) : Ab.Call Tryz.prog 195 [RL l, .fn (.func g) [] caps] H (fun r h' => r = I64 (posF p 0 l) ∧ h' = H) := by
  obtain ⟨R, hR⟩ : ∃ R, R = posF p 0 l := ⟨_, rfl⟩
  rw [← hR]
  refine Call.enter' (N := 19) (rs := [.tmp 4]) Tryz.func195 rfl rfl rfl (by decide) rfl ?_; simp only [argT]; have hD : (0 : Nat) = 0 := rfl
  repeat' first | (refine SW.seq_k fun K hK => ?_) | (refine SW.block ?_) | (refine SW.region ?_; try simp only [go_sem, hD]) | (apply hK; clear hK K)
  obtain ⟨I, hI⟩ : ∃ I : Nat → St → Prop, ∀ k S, I k S ↔ (∃ (i : Nat) , k = l.length - i ∧ i ≤ l.length ∧ R = posF p i (l.drop i) ∧ S = ⟨[(0, RL l), (1, .fn (.func g) [] caps), (7, I64 l.length), (8, I64 i)], H⟩) := ⟨fun k S => _, fun _ _ => Iff.rfl⟩
  refine SW.loop' I (l.length) ((hI _ _).2 ⟨0, rfl, Nat.zero_le _, hR, rfl⟩) (by repeat' (first | exact rfl | exact trivial | constructor)) ?_
  intro k S hIn
  obtain ⟨i, rfl, hi, hC, rfl⟩ := (hI _ _).1 hIn
  clear hIn
  have ie : ((i : Nat) : Int).toNat = i := Int.toNat_natCast _
  have i0 : (0 : Int) ≤ ((i : Nat) : Int) := by omega
  clear hR
  by_cases hlt : i < l.length
  · have hli : ((i : Nat) : Int) < (((l.length) : Nat) : Int) := by omega
    have w1 : IntKind.i64.wrap ((i : Int) + 1) = ((i + 1 : Nat) : Int) := by rw [i64_wrap (by omega) (by omega)]; omega
    rw [posF_step r0 hlt] at hC
    have fi : rF l i = [I64 (l.getD i r0).1, VL (l.getD i r0).2] := rfl
    have c := hg _ (getD_mem r0 hlt)
    generalize l.getD i r0 = t at *
    obtain ⟨tn, ta⟩ := t
    replace c : Ab.Call Tryz.prog g (.agg [I64 tn, VL ta] :: caps) H (fun r h' => r = SB (p ⟨tn, ta⟩) ∧ h' = H) := c
    simp only at fi
    cases he : p ⟨tn, ta⟩ with
    | true =>
      rw [he] at c
      rw [he, if_pos rfl] at hC
      subst hC
      repeat' first | ((refine Call.mono c ?_); (intro rr hh hx); (obtain ⟨rfl, rfl⟩ := hx); (try simp only [go_sem, hD])) | (refine SW.seq_k fun K hK => ?_) | (refine SW.block ?_) | ((first | refine SW.region ?_ | refine SW.cond ?_ | refine SW.skip ?_ | refine SW.ret ?_); try simp only [go_sem, hD, hli, ie, i0, w1, fi, true_implies]) | (apply hK; clear hK K)
      refine retQ_le (fun M w0 D N a w r => r) ?_
      simp only [resL_tmp, resL_nil, tupOf, go_sem, hD]
    | false =>
      rw [he] at c
      rw [he, if_neg (by simp)] at hC
      repeat' first | ((refine Call.mono c ?_); (intro rr hh hx); (obtain ⟨rfl, rfl⟩ := hx); (try simp only [go_sem, hD])) | (refine SW.seq_k fun K hK => ?_) | (refine SW.block ?_) | ((first | refine SW.region ?_ | refine SW.cond ?_ | refine SW.skip ?_); try simp only [go_sem, hD, hli, ie, i0, w1, fi, true_implies]) | (apply hK; clear hK K)
      refine Rnd.sub (l.length - (i + 1)) (by omega) ((hI _ _).2 ⟨i + 1, rfl, by omega, hC, rfl⟩) (by repeat' (first | exact rfl | exact trivial | constructor))
  · have hli : ¬ ((i : Nat) : Int) < (((l.length) : Nat) : Int) := by omega
    rw [List.drop_of_length_le (by omega)] at hC
    have hC2 : R = -1 := hC
    subst hC2
    repeat' first | (refine SW.seq_k fun K hK => ?_) | ((first | refine SW.region ?_ | refine SW.cond ?_ | refine SW.exit ?_ | refine SW.ret ?_); try simp only [go_sem, hD, hli]) | (apply hK; clear hK K) | (clear hK K; apply hK; clear hK K)
    refine retQ_le (fun M w0 D N a w r => r) ?_
    simp only [resL_tmp, resL_nil, tupOf, go_sem, hD]
theorem contF_r (g : FuncId) (caps : List SV) (p : R3 → Bool) (l : List R3) (H : Heap) (hl : l.length ≤ 1000000) (hg : ∀ y ∈ l, Ab.Call Tryz.prog g (.agg (rC y) :: caps) H (fun r h' => r = SB (p y) ∧ h' = H)) : Ab.Call Tryz.prog 168 [RL l, .fn (.func g) [] caps] H (fun r h' => r = SB (l.any p) ∧ h' = H) := by
  have ix := indexF_r g caps p l H hl hg
  have hm := posF_any p l 0
  generalize posF p 0 l = z at *
  cases ha : l.any p with
  | true =>
    have hz := hm.2 ha
    refine Call.enter' (N := 9) (rs := [.tmp 4]) Tryz.func168 rfl rfl rfl (by decide) rfl ?_; simp only [argT]; have hD : (0 : Nat) = 0 := rfl
    repeat' first | ((refine Call.mono ix ?_); (intro rr hh hx); (obtain ⟨rfl, rfl⟩ := hx); (try simp only [go_sem, hD, hz])) | (refine SW.seq_k fun K hK => ?_) | ((first | refine SW.region ?_ | refine SW.ret ?_); try simp only [go_sem, hD, hz, true_implies]) | (apply hK; clear hK K)
    refine retQ_le (fun M w0 D N a w r => r) ?_
    simp only [resL_tmp, resL_nil, tupOf, go_sem, hD]
  | false =>
    have hz : ¬ 0 ≤ z := fun h => by have := hm.1 h; rw [ha] at this; cases this
    refine Call.enter' (N := 9) (rs := [.tmp 4]) Tryz.func168 rfl rfl rfl (by decide) rfl ?_; simp only [argT]; have hD : (0 : Nat) = 0 := rfl
    repeat' first | ((refine Call.mono ix ?_); (intro rr hh hx); (obtain ⟨rfl, rfl⟩ := hx); (try simp only [go_sem, hD, hz])) | (refine SW.seq_k fun K hK => ?_) | ((first | refine SW.region ?_ | refine SW.ret ?_); try simp only [go_sem, hD, hz, true_implies]) | (apply hK; clear hK K)
    refine retQ_le (fun M w0 D N a w r => r) ?_
    simp only [resL_tmp, resL_nil, tupOf, go_sem, hD]
theorem try_f (y : R3) (l : List Int) (mb : Nat) (Ks : List ByteArray) (hy : OkR y) (hl : ∀ x ∈ l, 0 ≤ x ∧ x < y.2.length) (hal : l.length ≤ 1000) (z : Bool) (hz : z = true ↔ mkB (catK y l) ∈ Ks) :
    Ab.Call Tryz.prog 169 [.agg [I64 y.1, VL y.2], .fp [.mp mb], .fp [IL l]] [(mb, .mp (mapB Ks))] (fun r h' => r = SB (!z) ∧ h' = [(mb, .mp (mapB Ks))]) := by
  have kp := at_p y l hy hl hal
  have mf := mfI_B (mkB (catK y l)) Ks 0
  generalize mkB (catK y l) = key at *
  obtain ⟨yi, ys⟩ := y
  simp only at kp
  cases z with
  | true =>
    obtain ⟨j, hj, _⟩ := fB_some (i := 0) (hz.1 rfl)
    rw [hj] at mf
    refine Call.enter' (N := 11) (rs := [.tmp 4]) Tryz.func169 rfl rfl rfl (by decide) rfl ?_; simp only [argT]; have hD : (0 : Nat) = 0 := rfl
    repeat' first | (refine SW.seq_k fun K hK => ?_) | ((first | refine SW.region ?_ | refine SW.regionZ (id := 1) (Checked.mixed Tryz.checked) Go.Ab.zIB_1 (by kernel_rfl) ?_ | refine SW.ret ?_ | refine ⟨_, kp, ?_⟩ | (refine allF_i fun b hb => ?_; replace hD := And.intro hb hD; clear hb; try simp only [fresh_cons, fresh_nil, and_true, ne_eq, neF] at hD) | simp only [appK, appOsK]); try simp only [Go.Ab.zIB_1, go_sem, hD, mf, true_implies]) | (apply hK; clear hK K) | (refine And.intro ?_ ?_)
    all_goals
      refine retQ_le (St.le_slist (h' := [(mb, .mp (mapB Ks))]) (by first | exact List.Sublist.refl _ | exact List.Sublist.cons _ (List.Sublist.refl _))) ?_
      simp only [resL_tmp, resL_nil, tupOf, go_sem, hD]
      try exact ⟨rfl, rfl⟩
  | false =>
    have hn : key ∉ Ks := fun h => by have := hz.2 h; cases this
    rw [fB_none hn] at mf
    refine Call.enter' (N := 11) (rs := [.tmp 4]) Tryz.func169 rfl rfl rfl (by decide) rfl ?_; simp only [argT]; have hD : (0 : Nat) = 0 := rfl
    repeat' first | (refine SW.seq_k fun K hK => ?_) | ((first | refine SW.region ?_ | refine SW.regionZ (id := 1) (Checked.mixed Tryz.checked) Go.Ab.zIB_1 (by kernel_rfl) ?_ | refine SW.ret ?_ | refine ⟨_, kp, ?_⟩ | (refine allF_i fun b hb => ?_; replace hD := And.intro hb hD; clear hb; try simp only [fresh_cons, fresh_nil, and_true, ne_eq, neF] at hD) | simp only [appK, appOsK]); try simp only [Go.Ab.zIB_1, go_sem, hD, mf, true_implies]) | (apply hK; clear hK K) | (refine And.intro ?_ ?_)
    all_goals
      refine retQ_le (St.le_slist (h' := [(mb, .mp (mapB Ks))]) (by first | exact List.Sublist.refl _ | exact List.Sublist.cons _ (List.Sublist.refl _))) ?_
      simp only [resL_tmp, resL_nil, tupOf, go_sem, hD]
      try exact ⟨rfl, rfl⟩
end Go.Proofs.YtpidncgibgiidaaGreat
namespace Go.Ab
theorem resK_bad {d : Option Tmp} {E : Prop} {K : St → Prop} {S : St} : resK .bad d E K S = E := propext ⟨fun h => h, fun h => h⟩
theorem effK_mapUpdate [Gl] {P : Program} {t : TypeId} {m k x : Operand} {d : Option Tmp} {K : St → Prop} {S : St} : effK P (.mapUpdate t m k x) d K S = mputK (mtk P t) (S.ev m) (S.ev k) (S.ev x) d K S := propext ⟨fun h => h, fun h => h⟩
attribute [go_sem] resK_bad effK_mapUpdate
end Go.Ab
namespace Go.Ab.A15
open Go Go.Ab Go.Ab.A34 Go.Ab.A01
abbrev MC (f t : Tb) (same : Bool) (ar : Int) (X : SV) (room : Int) : List SV := [Str f.name, SL f.attrs, RL f.rows, Str t.name, SL t.attrs, RL t.rows, SB same, I64 ar, X, I64 room]
structure MOk (f t : Tb) : Prop where
  fr : f.rows.length ≤ 1000
  tr : t.rows.length ≤ 1000
  of : ∀ r ∈ f.rows, OkR r ∧ r.2.length = f.attrs.length
  ot : ∀ r ∈ t.rows, OkR r ∧ r.2.length = t.attrs.length
  af : f.attrs.length ≤ 100
  at_ : t.attrs.length ≤ 100
def InA (n : Nat) (l : List Int) : Prop := ∀ x ∈ l, 0 ≤ x ∧ x < (n : Int)
end Go.Ab.A15
namespace Go.Proofs.YtpidncgibgiidaaGreat
open Go Go.Ab Go.Ab.A34 Go.Ab.A15 Go.Ab.A01
variable [Gl] [Tabs]
theorem holds_m (m : Nat) (f t : Tb) (same : Bool) (ar room : Int) (X : SV) (l r : List Int) (h : MOk f t) (hl : InA f.attrs.length l) (hr : InA t.attrs.length r) (hlr : l.length = r.length) (hll : l.length ≤ 100) :
    Ab.Call Tryz.prog 131 [.op m 0, IL l, IL r] [(m, .svs (MC f t same ar X room))] (fun v h' => v = SB (hM f.rows t.rows l r) ∧ h' = [(m, .svs (MC f t same ar X room))]) := by
  have fl : ∀ x ∈ f.rows, ∀ z ∈ l, 0 ≤ z ∧ z < x.2.length := fun x hx z hz => by rw [(h.of x hx).2]; exact hl z hz
  have tl : ∀ y ∈ t.rows, ∀ z ∈ r, 0 ≤ z ∧ z < y.2.length := fun y hy z hz => by rw [(h.ot y hy).2]; exact hr z hz
  have kpt := fun y (hy : y ∈ t.rows) => at_p y r (h.ot y hy).1 (tl y hy) (by omega)
  have kan := fun x (hx : x ∈ f.rows) => key_any (T := t.rows) (x := x) hlr (h.of x hx).1 (fun y hy => (h.ot y hy).1) (fl x hx) tl
  have htf := fun x (hx : x ∈ f.rows) (b : Nat) => try_f x l b (keysB t.rows r t.rows.length) (h.of x hx).1 (fl x hx) (by omega) (t.rows.any fun y => agB l r x.2 y.2) (kan x hx).symm
  have hfr := h.fr
  have htr := h.tr
  have hcf := fun (b : Nat) => contF_r 169 [.fp [.mp b], .fp [IL l]] (fun x => !(t.rows.any fun y => agB l r x.2 y.2)) f.rows [(b, .mp (mapB (keysB t.rows r t.rows.length))), (m, .svs (MC f t same ar X room))] (by omega)
    (fun x hx => Call.mono (Call.frameN (h2 := [(m, .svs (MC f t same ar X room))]) (htf x hx b)) fun v h' ⟨h1, e, ⟨q1, q2⟩, _⟩ => ⟨q1, by rw [e, q2]; rfl⟩)
  have hMe : hM f.rows t.rows l r = !(f.rows.any fun x => !(t.rows.any fun y => agB l r x.2 y.2)) := rfl
  rw [hMe]
  generalize (f.rows.any fun x => !(t.rows.any fun y => agB l r x.2 y.2)) = z at *
  clear hMe kan htf fl tl h hl hr
  obtain ⟨fn, fa, frs⟩ := f
  obtain ⟨tn, ta, trs⟩ := t
  simp only at kpt hcf hfr htr ⊢
  refine Call.enter' (N := 40) (rs := [.tmp 6]) Tryz.func131 rfl rfl rfl (by decide) rfl ?_; simp only [argT]; have hD : (0 : Nat) = 0 := rfl
  repeat' first | (refine SW.seq_k fun K hK => ?_) | (refine SW.block ?_) | ((first | refine SW.region ?_ | (refine allF_i fun b hb => ?_; replace hD := And.intro hb hD; clear hb; try simp only [fresh_cons, fresh_nil, and_true, ne_eq, neF] at hD)); try simp only [go_sem, hD, true_implies]) | (apply hK; clear hK K)
  obtain ⟨cb, rfl⟩ : ∃ x, x = b := ⟨_, rfl⟩
  obtain ⟨mp, rfl⟩ : ∃ x, x = b := ⟨_, rfl⟩
  obtain ⟨lb, rfl⟩ : ∃ x, x = b := ⟨_, rfl⟩
  have e1 : ¬ mp = m := by simp [hD]
  refine Ab.SW.le (S' := ⟨[(0, .op m 0), (2, IL r), (4, .fp [IL l]), (7, .fp [.mp mp]), (21, RL trs), (22, I64 trs.length), (23, I64 (0 : Nat))], [(mp, .mp []), (m, .svs [Str fn, SL fa, RL frs, Str tn, SL ta, RL trs, SB same, I64 ar, X, I64 room])]⟩) ?_ ?_
  · refine St.le.trans (St.le_freezeP (i := 7) (b := cb) (off := 0) (n := 1) (k := .svs [.mp mp]) rfl (by simp [find_cons, hD]) (by exact Nat.le_refl 1)) ?_
    simp only [getN, Blk.get, go_sem, hD]
    refine St.le.trans (St.le_freezeP (i := 4) (b := lb) (off := 0) (n := 1) (k := .svs [IL l]) rfl (by simp [find_cons, hD]) (by exact Nat.le_refl 1)) ?_
    simp only [getN, Blk.get, go_sem, hD]
    exact St.le_sub (by repeat' (first | exact rfl | exact trivial | constructor))
  clear hD
  have hD := And.intro (eq_false e1) (eq_false (Ne.symm e1))
  have hE := hD
  obtain ⟨I, hI⟩ : ∃ I : Nat → St → Prop, ∀ k S, I k S ↔ (∃ (i : Nat) , k = trs.length - i ∧ i ≤ trs.length ∧ S = ⟨[(0, .op m 0), (2, IL r), (4, .fp [IL l]), (7, .fp [.mp mp]), (21, RL trs), (22, I64 trs.length), (23, I64 i)], [(mp, .mp (mapB (keysB trs r i))), (m, .svs [Str fn, SL fa, RL frs, Str tn, SL ta, RL trs, SB same, I64 ar, X, I64 room])]⟩) := ⟨fun k S => _, fun _ _ => Iff.rfl⟩
  refine SW.loop' I (trs.length) ((hI _ _).2 ⟨0, rfl, Nat.zero_le _, rfl⟩) (by repeat' (first | exact rfl | exact trivial | constructor)) ?_
  intro k S hIn
  obtain ⟨i, rfl, hi, rfl⟩ := (hI _ _).1 hIn
  clear hIn
  have ie : ((i : Nat) : Int).toNat = i := Int.toNat_natCast _
  have i0 : (0 : Int) ≤ ((i : Nat) : Int) := by omega
  clear hD
  have hD := hE
  by_cases hlt : i < trs.length
  · have hli : ((i : Nat) : Int) < (((trs.length) : Nat) : Int) := by omega
    have w1 : IntKind.i64.wrap ((i : Int) + 1) = ((i + 1 : Nat) : Int) := by rw [i64_wrap (by omega) (by omega)]; omega
    have fi : rF trs i = [I64 (trs.getD i r0).1, VL (trs.getD i r0).2] := rfl
    have kp := kpt _ (getD_mem r0 hlt)
    have mf := mfI_B (mkB (catK (trs.getD i r0) r)) (keysB trs r i) 0
    have ms := mset_B (mkB (catK (trs.getD i r0) r)) (keysB trs r i)
    have hks : keysB trs r (i + 1) = addB (keysB trs r i) (mkB (catK (trs.getD i r0) r)) := rfl
    rw [← hks] at ms
    clear hks
    generalize mkB (catK (trs.getD i r0) r) = key at *
    generalize trs.getD i r0 = y at *
    obtain ⟨yi, ys⟩ := y
    simp only at fi kp
    generalize fB key 0 (keysB trs r i) = fz at *
    repeat' first | (refine SW.seq_k fun K hK => ?_) | (refine SW.block ?_) | ((first | refine SW.region ?_ | refine SW.regionZ (id := 5) (Checked.mixed Tryz.checked) ((.one 0 [0, 4] (.one 1 [1, 3, 4] (.one 2 [2, 3, 4] (.one 3 [3, 4] (.alt 4 .done .nil))))) : OZ) (by kernel_rfl) ?_ | refine SW.cond ?_ | refine SW.skip ?_ | refine ⟨_, kp, ?_⟩ | (refine allF_i fun b hb => ?_; replace hD := And.intro hb hD; clear hb; try simp only [fresh_cons, fresh_nil, and_true, ne_eq, neF] at hD) | simp only [appK, appOsK]); try simp only [go_sem, hD, hli, ie, i0, w1, fi, mf, ms, true_implies]) | (apply hK; clear hK K) | (refine And.intro ?_ ?_)
    all_goals
      refine Rnd.le (St.le_slist (List.Sublist.cons _ (List.Sublist.refl _))) ?_
      refine Rnd.sub (trs.length - (i + 1)) (by omega) ((hI _ _).2 ⟨i + 1, rfl, by omega, rfl⟩) (by repeat' (first | exact rfl | exact trivial | constructor))
  · have hli : ¬ ((i : Nat) : Int) < (((trs.length) : Nat) : Int) := by omega
    obtain rfl : i = trs.length := by omega
    have cf := hcf mp
    try simp only at cf
    clear hcf hI
    generalize keysB trs r trs.length = Ks at *
    repeat' first | ((refine Call.mono cf ?_); (intro rr hh hx); (obtain ⟨rfl, rfl⟩ := hx); (try simp only [go_sem, hD])) | (refine SW.seq_k fun K hK => ?_) | ((first | refine SW.region ?_ | refine SW.cond ?_ | refine SW.exit ?_ | refine SW.ret ?_); try simp only [go_sem, hD, hli, true_implies]) | (apply hK; clear hK K) | (clear hK K; apply hK; clear hK K)
    refine retQ_le (St.le_slist (h' := [(m, .svs [Str fn, SL fa, RL frs, Str tn, SL ta, RL trs, SB same, I64 ar, X, I64 room])]) (List.Sublist.cons _ (List.Sublist.refl _))) ?_
    simp only [resL_tmp, resL_nil, tupOf, go_sem, hD]
    try exact ⟨rfl, rfl⟩
end Go.Proofs.YtpidncgibgiidaaGreat
namespace Go.Ab.A15
open Go Go.Ab Go.Ab.A34
end Go.Ab.A15
def Go.Ab.zID_1 : Go.Ab.OZ := (.one 0 [0, 2, 3, 8] (.one 1 [1, 2, 3, 8] (.one 2 [2, 3, 8] (.one 3 [3, 8] (.one 4 [4, 6, 7, 8] (.one 5 [5, 6, 7, 8] (.one 6 [6, 7, 8] (.one 7 [7, 8] (.one 8 [8] .done)))))))))
namespace Go.Proofs.YtpidncgibgiidaaGreat
open Go Go.Ab Go.Ab.A34 Go.Ab.A15
variable [Gl] [Tabs]
theorem ints_r (a c : List Int) (ha : a.length ≤ 1000000000) (hc : c.length ≤ 1000000000) : PCall Tryz.prog 53 [IL a, IL c] (SB (decide (a = c))) := by
  obtain ⟨X, hX⟩ : ∃ X, X = decide (a = c) := ⟨_, rfl⟩
  rw [← hX]
  have h0 : ¬ a.length = c.length → X = false := fun h => by rw [hX, decide_eq_false fun e => h (by rw [e])]
  have h1 : a.length = c.length → (∀ j, j < a.length → a.getD j 0 = c.getD j 0) → X = true := fun hl h => by rw [hX, decide_eq_true (list_eq hl h)]
  have h2 : ∀ j, ¬ a.getD j 0 = c.getD j 0 → X = false := fun j h => by rw [hX, decide_eq_false fun e => h (by rw [e])]
  clear hX
  by_cases hl : a.length = c.length
  · have hlq : ((a.length : Nat) : Int) = ((c.length : Nat) : Int) := by omega
    refine Call.enter' (N := 26) (rs := [.tmp 4]) Tryz.func53 rfl rfl rfl (by decide) rfl ?_; simp only [argT]; have hD : (0 : Nat) = 0 := rfl
    repeat' first | (refine SW.seq_k fun K hK => ?_) | (refine SW.block ?_) | ((first | refine SW.region ?_ | refine SW.cond ?_ | refine SW.skip ?_); try simp only [go_sem, hD, hlq]) | (apply hK; clear hK K)
    obtain ⟨I, hI⟩ : ∃ I : Nat → St → Prop, ∀ k S, I k S ↔ (∃ (i : Nat) , k = a.length - i ∧ i ≤ a.length ∧ (∀ j, j < i → a.getD j 0 = c.getD j 0) ∧ S = ⟨[(0, IL a), (1, IL c), (5, I64 i)], []⟩) := ⟨fun k S => _, fun _ _ => Iff.rfl⟩
    refine SW.loop' I (a.length) ((hI _ _).2 ⟨0, rfl, Nat.zero_le _, (fun j hj => absurd hj (by omega)), rfl⟩) (by repeat' (first | exact rfl | exact trivial | constructor)) ?_
    intro k S hIn
    obtain ⟨i, rfl, hi, hL, rfl⟩ := (hI _ _).1 hIn
    clear hIn
    have ie : ((i : Nat) : Int).toNat = i := Int.toNat_natCast _
    have i0 : (0 : Int) ≤ ((i : Nat) : Int) := by omega
    by_cases hlt : i < a.length
    · have hli : ((i : Nat) : Int) < (((a.length) : Nat) : Int) := by omega
      have w1 : IntKind.i64.wrap ((i : Int) + 1) = ((i + 1 : Nat) : Int) := by rw [i64_wrap (by omega) (by omega)]; omega
      have hlc : ((i : Nat) : Int) < ((c.length : Nat) : Int) := by omega
      have fi : iF a i = [I64 (a.getD i 0)] := rfl
      have gi : iF c i = [I64 (c.getD i 0)] := rfl
      have h2i := h2 i
      have hn1 : a.getD i 0 = c.getD i 0 → ∀ j, j < i + 1 → a.getD j 0 = c.getD j 0 := fun h j hj => by
        rcases Nat.lt_or_ge j i with h3 | h3
        · exact hL j h3
        · obtain rfl : j = i := by omega
          exact h
      generalize a.getD i 0 = u at *
      generalize c.getD i 0 = v at *
      by_cases huv : u = v
      · have hn2 := hn1 huv
        repeat' first | (refine SW.seq_k fun K hK => ?_) | (refine SW.block ?_) | ((first | refine SW.region ?_ | refine SW.regionZ (id := 6) (Checked.mixed Tryz.checked) Go.Ab.zID_1 (by kernel_rfl) ?_ | refine SW.cond ?_ | refine SW.skip ?_); try simp only [Go.Ab.zID_1, go_sem, hD, hli, hlc, ie, i0, w1, fi, gi, huv]) | (apply hK; clear hK K)
        refine Rnd.sub (a.length - (i + 1)) (by omega) ((hI _ _).2 ⟨i + 1, rfl, by omega, hn2, rfl⟩) (by repeat' (first | exact rfl | exact trivial | constructor))
      · have hx := h2i huv
        subst hx
        repeat' first | (refine SW.seq_k fun K hK => ?_) | (refine SW.block ?_) | ((first | refine SW.region ?_ | refine SW.regionZ (id := 6) (Checked.mixed Tryz.checked) Go.Ab.zID_1 (by kernel_rfl) ?_ | refine SW.cond ?_ | refine SW.skip ?_ | refine SW.ret ?_); try simp only [Go.Ab.zID_1, go_sem, hD, hli, hlc, ie, i0, w1, fi, gi, huv]) | (apply hK; clear hK K)
        refine ret_pure ?_; simp only [resL_tmp, resL_nil, tupOf, go_sem, hD]
    · have hli : ¬ ((i : Nat) : Int) < (((a.length) : Nat) : Int) := by omega
      have hx := h1 hl fun j hj => hL j (by omega)
      subst hx
      have nl : ¬ ((c.length : Nat) : Int) < ((c.length : Nat) : Int) := by omega
      repeat' first | (refine SW.seq_k fun K hK => ?_) | ((first | refine SW.region ?_ | refine SW.cond ?_ | refine SW.exit ?_ | refine SW.ret ?_); try simp only [go_sem, hD, hli, nl]) | (apply hK; clear hK K) | (clear hK K; apply hK; clear hK K)
      refine ret_pure ?_; simp only [resL_tmp, resL_nil, tupOf, go_sem, hD]
  · have hlq : ¬ ((a.length : Nat) : Int) = ((c.length : Nat) : Int) := by omega
    have hx := h0 hl
    subst hx
    refine Call.enter' (N := 26) (rs := [.tmp 4]) Tryz.func53 rfl rfl rfl (by decide) rfl ?_; simp only [argT]; have hD : (0 : Nat) = 0 := rfl
    repeat' first | (refine SW.seq_k fun K hK => ?_) | ((first | refine SW.region ?_ | refine SW.cond ?_ | refine SW.ret ?_); try simp only [go_sem, hD, hlq]) | (apply hK; clear hK K)
    refine ret_pure ?_; simp only [resL_tmp, resL_nil, tupOf, go_sem, hD]
end Go.Proofs.YtpidncgibgiidaaGreat
namespace Go.Ab.A15
open Go Go.Ab Go.Ab.A34
theorem dp_eq {a b : Dp} : a = b ↔ a.f = b.f ∧ a.t = b.t ∧ a.l = b.l ∧ a.r = b.r := by
  constructor
  · rintro rfl; exact ⟨rfl, rfl, rfl, rfl⟩
  · rintro ⟨h1, h2, h3, h4⟩
    cases a; cases b
    simp only at h1 h2 h3 h4
    subst h1 h2 h3 h4
    rfl
instance : DecidableEq Dp := fun a b => decidable_of_iff _ dp_eq.symm
structure OkS (d : Dp) : Prop where
  l : d.l.length ≤ 1000000000
  r : d.r.length ≤ 1000000000
theorem dps_eq {a c : List Dp} (hl : a.length = c.length) (h : ∀ j, j < a.length → a.getD j d0 = c.getD j d0) : a = c := by
  refine List.ext_getElem hl fun i h1 h2 => ?_
  have := h i h1
  simpa [List.getD_eq_getElem?_getD, h1, h2] using this
end Go.Ab.A15
def Go.Ab.zIE_1 : Go.Ab.OZ := (.one 0 [0, 2, 3, 8, 9] (.one 1 [1, 2, 3, 8, 9] (.one 2 [2, 3, 8, 9] (.one 3 [3, 8, 9] (.one 4 [4, 6, 7, 8, 9] (.one 5 [5, 6, 7, 8, 9] (.one 6 [6, 7, 8, 9] (.one 7 [7, 8, 9] (.one 8 [8, 9] (.one 9 [9] .done))))))))))
namespace Go.Proofs.YtpidncgibgiidaaGreat
open Go Go.Ab Go.Ab.A34 Go.Ab.A15
variable [Gl] [Tabs]
theorem equal_d (a b : Dp) (ha : OkS a) (hb : OkS b) : PCall Tryz.prog 22 [DV a, DV b] (SB (decide (a = b))) := by
  have c1 := ints_r a.l b.l ha.l hb.l
  have c2 := ints_r a.r b.r ha.r hb.r
  have he := @dp_eq a b
  have e1 := @barr_eq a.f b.f
  have e2 := @barr_eq a.t b.t
  obtain ⟨X, hX⟩ : ∃ X, X = decide (a = b) := ⟨_, rfl⟩
  rw [← hX]
  obtain ⟨af, al, at', ar⟩ := a
  obtain ⟨bf, bl, bt, br⟩ := b
  simp only at c1 c2 he e1 e2
  by_cases h1 : af = bf
  · have f1 : (af.toList == bf.toList) = true := e1.2 h1
    by_cases h2 : at' = bt
    · have f2 : (at'.toList == bt.toList) = true := e2.2 h2
      by_cases h3 : al = bl
      · have hXX : decide (ar = br) = X := by rw [hX]; exact decide_eq_decide.mpr ⟨fun h => he.2 ⟨h1, h2, h3, h⟩, fun h => (he.1 h).2.2.2⟩
        rw [hXX] at c2
        rw [decide_eq_true h3] at c1
        refine Call.enter' (N := 31) (rs := [.tmp 4]) Tryz.func22 rfl rfl rfl (by decide) rfl ?_; simp only [argT]; have hD : (0 : Nat) = 0 := rfl
        repeat' first | (refine SW.seq_k fun K hK => ?_) | ((first | refine SW.region ?_ | refine SW.ret ?_ | refine Call.of_pure (c1) ?_ | refine Call.of_pure (c2) ?_ | (refine allF_i fun b hb => ?_; replace hD := And.intro hb hD; clear hb; try simp only [fresh_cons, fresh_nil, and_true, ne_eq, neF] at hD)); try simp only [go_sem, hD, f1, f2, true_implies]) | (apply hK; clear hK K)
        refine ret_pure ?_; simp only [resL_tmp, resL_nil, tupOf, go_sem, hD]
      · have hXX : X = false := by rw [hX]; exact decide_eq_false fun h => h3 (he.1 h).2.2.1
        subst hXX
        rw [decide_eq_false h3] at c1
        refine Call.enter' (N := 31) (rs := [.tmp 4]) Tryz.func22 rfl rfl rfl (by decide) rfl ?_; simp only [argT]; have hD : (0 : Nat) = 0 := rfl
        repeat' first | (refine SW.seq_k fun K hK => ?_) | ((first | refine SW.region ?_ | refine SW.ret ?_ | refine Call.of_pure (c1) ?_ | (refine allF_i fun b hb => ?_; replace hD := And.intro hb hD; clear hb; try simp only [fresh_cons, fresh_nil, and_true, ne_eq, neF] at hD)); try simp only [go_sem, hD, f1, f2, true_implies]) | (apply hK; clear hK K)
        refine ret_pure ?_; simp only [resL_tmp, resL_nil, tupOf, go_sem, hD]
    · have f2 : (at'.toList == bt.toList) = false := Bool.eq_false_iff.2 fun h => h2 (e2.1 h)
      have hXX : X = false := by rw [hX]; exact decide_eq_false fun h => h2 (he.1 h).2.1
      subst hXX
      refine Call.enter' (N := 31) (rs := [.tmp 4]) Tryz.func22 rfl rfl rfl (by decide) rfl ?_; simp only [argT]; have hD : (0 : Nat) = 0 := rfl
      repeat' first | (refine SW.seq_k fun K hK => ?_) | ((first | refine SW.region ?_ | refine SW.ret ?_ | (refine allF_i fun b hb => ?_; replace hD := And.intro hb hD; clear hb; try simp only [fresh_cons, fresh_nil, and_true, ne_eq, neF] at hD)); try simp only [go_sem, hD, f1, f2, true_implies]) | (apply hK; clear hK K)
      refine ret_pure ?_; simp only [resL_tmp, resL_nil, tupOf, go_sem, hD]
  · have f1 : (af.toList == bf.toList) = false := Bool.eq_false_iff.2 fun h => h1 (e1.1 h)
    have hXX : X = false := by rw [hX]; exact decide_eq_false fun h => h1 (he.1 h).1
    subst hXX
    refine Call.enter' (N := 31) (rs := [.tmp 4]) Tryz.func22 rfl rfl rfl (by decide) rfl ?_; simp only [argT]; have hD : (0 : Nat) = 0 := rfl
    repeat' first | (refine SW.seq_k fun K hK => ?_) | ((first | refine SW.region ?_ | refine SW.ret ?_ | (refine allF_i fun b hb => ?_; replace hD := And.intro hb hD; clear hb; try simp only [fresh_cons, fresh_nil, and_true, ne_eq, neF] at hD)); try simp only [go_sem, hD, f1, true_implies]) | (apply hK; clear hK K)
    refine ret_pure ?_; simp only [resL_tmp, resL_nil, tupOf, go_sem, hD]
theorem same_d (a c : List Dp) (ha : a.length ≤ 1000000000) (hc : c.length ≤ 1000000000) (oa : ∀ d ∈ a, OkS d) (oc : ∀ d ∈ c, OkS d) : PCall Tryz.prog 15 [DpL a, DpL c] (SB (decide (a = c))) := by
  obtain ⟨X, hX⟩ : ∃ X, X = decide (a = c) := ⟨_, rfl⟩
  rw [← hX]
  have h0 : ¬ a.length = c.length → X = false := fun h => by rw [hX, decide_eq_false fun e => h (by rw [e])]
  have h1 : a.length = c.length → (∀ j, j < a.length → a.getD j d0 = c.getD j d0) → X = true := fun hl h => by rw [hX, decide_eq_true (dps_eq hl h)]
  have h2 : ∀ j, ¬ a.getD j d0 = c.getD j d0 → X = false := fun j h => by rw [hX, decide_eq_false fun e => h (by rw [e])]
  clear hX
  by_cases hl : a.length = c.length
  · have hlq : ((a.length : Nat) : Int) = ((c.length : Nat) : Int) := by omega
    refine Call.enter' (N := 27) (rs := [.tmp 4]) Tryz.func15 rfl rfl rfl (by decide) rfl ?_; simp only [argT]; have hD : (0 : Nat) = 0 := rfl
    repeat' first | (refine SW.seq_k fun K hK => ?_) | (refine SW.block ?_) | ((first | refine SW.region ?_ | refine SW.cond ?_ | refine SW.skip ?_); try simp only [go_sem, hD, hlq]) | (apply hK; clear hK K)
    obtain ⟨I, hI⟩ : ∃ I : Nat → St → Prop, ∀ k S, I k S ↔ (∃ (i : Nat) , k = a.length - i ∧ i ≤ a.length ∧ (∀ j, j < i → a.getD j d0 = c.getD j d0) ∧ S = ⟨[(0, DpL a), (1, DpL c), (5, I64 i)], []⟩) := ⟨fun k S => _, fun _ _ => Iff.rfl⟩
    refine SW.loop' I (a.length) ((hI _ _).2 ⟨0, rfl, Nat.zero_le _, (fun j hj => absurd hj (by omega)), rfl⟩) (by repeat' (first | exact rfl | exact trivial | constructor)) ?_
    intro k S hIn
    obtain ⟨i, rfl, hi, hL, rfl⟩ := (hI _ _).1 hIn
    clear hIn
    have ie : ((i : Nat) : Int).toNat = i := Int.toNat_natCast _
    have i0 : (0 : Int) ≤ ((i : Nat) : Int) := by omega
    by_cases hlt : i < a.length
    · have hli : ((i : Nat) : Int) < (((a.length) : Nat) : Int) := by omega
      have w1 : IntKind.i64.wrap ((i : Int) + 1) = ((i + 1 : Nat) : Int) := by rw [i64_wrap (by omega) (by omega)]; omega
      have hlc : ((i : Nat) : Int) < ((c.length : Nat) : Int) := by omega
      have fi : dpF a i = dC (a.getD i d0) := rfl
      have gi : dpF c i = dC (c.getD i d0) := rfl
      have ce := equal_d (a.getD i d0) (c.getD i d0) (oa _ (getD_mem' d0 hlt)) (oc _ (getD_mem' d0 (by omega)))
      have h2i := h2 i
      have hn1 : a.getD i d0 = c.getD i d0 → ∀ j, j < i + 1 → a.getD j d0 = c.getD j d0 := fun h j hj => by
        rcases Nat.lt_or_ge j i with h3 | h3
        · exact hL j h3
        · obtain rfl : j = i := by omega
          exact h
      generalize a.getD i d0 = u at *
      generalize c.getD i d0 = v at *
      by_cases huv : u = v
      · have hn2 := hn1 huv
        rw [decide_eq_true huv] at ce
        clear hn1 h2i huv
        obtain ⟨u1, u2, u3, u4⟩ := u
        obtain ⟨v1, v2, v3, v4⟩ := v
        repeat' first | (refine SW.seq_k fun K hK => ?_) | (refine SW.block ?_) | ((first | refine SW.region ?_ | refine SW.regionZ (id := 6) (Checked.mixed Tryz.checked) Go.Ab.zIE_1 (by kernel_rfl) ?_ | refine SW.cond ?_ | refine SW.skip ?_ | refine ⟨_, ce, ?_⟩); try simp only [Go.Ab.zIE_1, go_sem, hD, hli, hlc, ie, i0, w1, fi, gi, true_implies]) | (apply hK; clear hK K)
        refine Rnd.sub (a.length - (i + 1)) (by omega) ((hI _ _).2 ⟨i + 1, rfl, by omega, hn2, rfl⟩) (by repeat' (first | exact rfl | exact trivial | constructor))
      · have hx := h2i huv
        subst hx
        rw [decide_eq_false huv] at ce
        clear hn1 h2i huv
        obtain ⟨u1, u2, u3, u4⟩ := u
        obtain ⟨v1, v2, v3, v4⟩ := v
        repeat' first | (refine SW.seq_k fun K hK => ?_) | (refine SW.block ?_) | ((first | refine SW.region ?_ | refine SW.regionZ (id := 6) (Checked.mixed Tryz.checked) Go.Ab.zIE_1 (by kernel_rfl) ?_ | refine SW.cond ?_ | refine SW.skip ?_ | refine SW.ret ?_ | refine ⟨_, ce, ?_⟩); try simp only [Go.Ab.zIE_1, go_sem, hD, hli, hlc, ie, i0, w1, fi, gi, true_implies]) | (apply hK; clear hK K)
        refine ret_pure ?_; simp only [resL_tmp, resL_nil, tupOf, go_sem, hD]
    · have hli : ¬ ((i : Nat) : Int) < (((a.length) : Nat) : Int) := by omega
      have hx := h1 hl fun j hj => hL j (by omega)
      subst hx
      have nl : ¬ ((c.length : Nat) : Int) < ((c.length : Nat) : Int) := by omega
      repeat' first | (refine SW.seq_k fun K hK => ?_) | ((first | refine SW.region ?_ | refine SW.cond ?_ | refine SW.exit ?_ | refine SW.ret ?_); try simp only [go_sem, hD, hli, nl]) | (apply hK; clear hK K) | (clear hK K; apply hK; clear hK K)
      refine ret_pure ?_; simp only [resL_tmp, resL_nil, tupOf, go_sem, hD]
  · have hlq : ¬ ((a.length : Nat) : Int) = ((c.length : Nat) : Int) := by omega
    have hx := h0 hl
    subst hx
    refine Call.enter' (N := 27) (rs := [.tmp 4]) Tryz.func15 rfl rfl rfl (by decide) rfl ?_; simp only [argT]; have hD : (0 : Nat) = 0 := rfl
    repeat' first | (refine SW.seq_k fun K hK => ?_) | ((first | refine SW.region ?_ | refine SW.cond ?_ | refine SW.ret ?_); try simp only [go_sem, hD, hlq]) | (apply hK; clear hK K)
    refine ret_pure ?_; simp only [resL_tmp, resL_nil, tupOf, go_sem, hD]
end Go.Proofs.YtpidncgibgiidaaGreat
namespace Go.Ab.A15
open Go Go.Ab Go.Ab.A34
def canI (d : Dp) (i : Nat) : Prop := (0 < i → d.l.getD (i - 1) 0 < d.l.getD i 0) ∧ ¬ d.r.getD i 0 ∈ d.r.take i ∧ ¬ (d.f = d.t ∧ d.l.getD i 0 = d.r.getD i 0)
def CanD (d : Dp) : Prop := 0 < d.l.length ∧ d.l.length = d.r.length ∧ ∀ i, i < d.l.length → canI d i
end Go.Ab.A15
namespace Go.Proofs.YtpidncgibgiidaaGreat
open Go Go.Ab Go.Ab.A34 Go.Ab.A15
variable [Gl] [Tabs]
end Go.Proofs.YtpidncgibgiidaaGreat
namespace Go.Ab.A15
abbrev Pr := List Int × List Int
def rg (s n : Nat) : List Nat := List.range' s (n - s)
theorem rg_step {s n : Nat} (h : s < n) : rg s n = s :: rg (s + 1) n := by
  unfold rg
  rw [show n - s = (n - (s + 1)) + 1 by omega, List.range'_succ]
theorem rg_end {s n : Nat} (h : n ≤ s) : rg s n = [] := by
  unfold rg
  rw [show n - s = 0 by omega]
  rfl
theorem mem_rg {s n x : Nat} : x ∈ rg s n ↔ s ≤ x ∧ x < n := by
  unfold rg
  rw [List.mem_range'_1]
  omega
theorem nodup_rg (s n : Nat) : (rg s n).Nodup := List.nodup_range'
def fstX (l : List Int) : Nat := match l.getLast? with
  | none => 0
  | some x => x.toNat + 1
def exS (q : List Int → List Int → Bool) (nf nt : Nat) : Nat → List Int → List Int → List Pr
  | 0, _, _ => []
  | k + 1, l, r => (rg (fstX l) nf).flatMap fun (a : Nat) => (rg 0 nt).flatMap fun (b : Nat) => if q (l ++ [(a : Int)]) (r ++ [(b : Int)]) then (l ++ [(a : Int)], r ++ [(b : Int)]) :: exS q nf nt k (l ++ [(a : Int)]) (r ++ [(b : Int)]) else []
structure Pq (q : List Int → List Int → Bool) (nf nt : Nat) : Prop where
  len : ∀ {l r}, q l r = true → l.length = r.length
  pre : ∀ {l r a b}, q (l ++ a) (r ++ b) = true → l.length = r.length → 0 < l.length → q l r = true
  inl : ∀ {l r}, q l r = true → ∀ x ∈ l, 0 ≤ x ∧ x < (nf : Int)
  inr : ∀ {l r}, q l r = true → ∀ x ∈ r, 0 ≤ x ∧ x < (nt : Int)
  asc : ∀ {l r}, q l r = true → l.Pairwise (· < ·)
theorem fst_le {l : List Int} {a : Int} (h : (l ++ [a]).Pairwise (· < ·)) (h0 : ∀ x ∈ l, 0 ≤ x) (ha : 0 ≤ a) : fstX l ≤ a.toNat := by
  unfold fstX
  cases hl : l.getLast? with
  | none => simp
  | some x =>
    have hm := List.mem_of_getLast? hl
    have h2 := (List.pairwise_append.1 h).2.2 x hm a (by simp)
    have := h0 x hm
    simp only
    omega
theorem snoc_cons {α : Type} (l : List α) (a : α) (us : List α) : l ++ a :: us = (l ++ [a]) ++ us := by simp
theorem mem_exS {q : List Int → List Int → Bool} {nf nt : Nat} (h : Pq q nf nt) : ∀ (k : Nat) (l r : List Int) (p : Pr), l.length = r.length →
    (p ∈ exS q nf nt k l r ↔ q p.1 p.2 = true ∧ ∃ us vs, p.1 = l ++ us ∧ p.2 = r ++ vs ∧ 0 < us.length ∧ us.length ≤ k)
  | 0, l, r, p, _ => by
    simp only [exS, List.not_mem_nil, false_iff]
    rintro ⟨_, us, vs, _, _, h1, h2⟩
    omega
  | k + 1, l, r, (p1, p2), hlr => by
    unfold exS
    simp only [List.mem_flatMap, mem_rg]
    constructor
    · rintro ⟨a, ⟨ha, ha2⟩, b, ⟨hb, hb2⟩, hp⟩
      by_cases hq : q (l ++ [(a : Int)]) (r ++ [(b : Int)]) = true
      · rw [if_pos hq] at hp
        rcases List.mem_cons.1 hp with e | hp
        · cases e
          exact ⟨hq, [(a : Int)], [(b : Int)], rfl, rfl, by simp, by simp⟩
        · obtain ⟨h1, us, vs, e1, e2, h2, h3⟩ := (mem_exS h k _ _ (p1, p2) (by simp [hlr])).1 hp
          simp only at e1 e2 h1
          exact ⟨h1, (a : Int) :: us, (b : Int) :: vs, by rw [e1]; simp, by rw [e2]; simp, by simp, by simp; omega⟩
      · rw [if_neg hq] at hp
        cases hp
    · rintro ⟨h1, us, vs, rfl, rfl, h2, h3⟩
      have hll := h.len h1
      rw [List.length_append, List.length_append] at hll
      match us, vs, h2, h3, hll, h1 with
      | a :: us, [], h2, h3, hll, h1 => simp at hll; omega
      | a :: us, b :: vs, h2, h3, hll, h1 =>
        rw [snoc_cons l, snoc_cons r] at h1
        have hq := h.pre h1 (by simp [hlr]) (by simp)
        have ia := h.inl hq a (by simp)
        have ib := h.inr hq b (by simp)
        have hf := fst_le (h.asc hq) (fun x hx => (h.inl hq x (by simp [hx])).1) ia.1
        have ea : ((a.toNat : Nat) : Int) = a := by omega
        have eb : ((b.toNat : Nat) : Int) = b := by omega
        refine ⟨a.toNat, ⟨hf, by omega⟩, b.toNat, ⟨Nat.zero_le _, by omega⟩, ?_⟩
        rw [ea, eb, if_pos hq]
        rw [List.length_cons] at h3
        cases us with
        | nil =>
          cases vs with
          | nil => exact List.mem_cons_self
          | cons b2 vs => simp at hll; omega
        | cons a2 us =>
          refine List.mem_cons_of_mem _ ((mem_exS h k _ _ _ (by simp [hlr])).2 ⟨by show q (l ++ a :: a2 :: us) (r ++ b :: vs) = true; rw [snoc_cons l, snoc_cons r]; exact h1, a2 :: us, vs, by simp, by simp, by simp, by simpa using h3⟩)
theorem mem_ex {q : List Int → List Int → Bool} {nf nt : Nat} (h : Pq q nf nt) (hn : q [] [] = false) (k : Nat) (p : Pr) : p ∈ exS q nf nt k [] [] ↔ q p.1 p.2 = true ∧ p.1.length ≤ k := by
  rw [mem_exS h k [] [] p rfl]
  constructor
  · rintro ⟨h1, us, vs, e1, _, _, h3⟩
    rw [e1]
    exact ⟨by rw [← e1]; exact h1, by simpa using h3⟩
  · rintro ⟨h1, h2⟩
    refine ⟨h1, p.1, p.2, rfl, rfl, ?_, h2⟩
    rcases Nat.eq_zero_or_pos p.1.length with h0 | h0
    · have hl := h.len h1
      have e1 : p.1 = [] := List.eq_nil_of_length_eq_zero h0
      have e2 : p.2 = [] := List.eq_nil_of_length_eq_zero (by omega)
      rw [e1, e2, hn] at h1
      cases h1
    · exact h0
theorem nodup_exS {q : List Int → List Int → Bool} {nf nt : Nat} (h : Pq q nf nt) : ∀ (k : Nat) (l r : List Int), l.length = r.length → (exS q nf nt k l r).Nodup
  | 0, l, r, _ => by simp [exS]
  | k + 1, l, r, hlr => by
    unfold exS
    have key : ∀ (a b : Nat) (p : Pr), p ∈ (if q (l ++ [(a : Int)]) (r ++ [(b : Int)]) = true then (l ++ [(a : Int)], r ++ [(b : Int)]) :: exS q nf nt k (l ++ [(a : Int)]) (r ++ [(b : Int)]) else []) → ∃ us vs, p.1 = l ++ (a : Int) :: us ∧ p.2 = r ++ (b : Int) :: vs := fun a b p hp => by
      split at hp
      · rcases List.mem_cons.1 hp with e | hp
        · rw [e]
          exact ⟨[], [], rfl, rfl⟩
        · obtain ⟨_, us, vs, e1, e2, _⟩ := (mem_exS h k _ _ p (by simp [hlr])).1 hp
          exact ⟨us, vs, by rw [e1]; simp, by rw [e2]; simp⟩
      · cases hp
    rw [List.Nodup, List.pairwise_flatMap]
    refine ⟨fun a ha => ?_, ?_⟩
    · rw [List.pairwise_flatMap]
      refine ⟨fun b hb => ?_, ?_⟩
      · split
        · rw [List.pairwise_cons]
          refine ⟨fun p hp e => ?_, nodup_exS h k _ _ (by simp [hlr])⟩
          obtain ⟨_, us, vs, e1, _, h2, _⟩ := (mem_exS h k _ _ p (by simp [hlr])).1 hp
          rw [← e] at e1
          have := congrArg List.length e1
          simp at this
          rw [this] at h2
          exact absurd h2 (by simp)
        · exact List.Pairwise.nil
      · refine (nodup_rg 0 nt).imp fun {b b'} hne p hp p' hp' e => ?_
        obtain ⟨us, vs, e1, e2⟩ := key _ _ _ hp
        obtain ⟨us', vs', e1', e2'⟩ := key _ _ _ hp'
        rw [e, e2'] at e2
        have := List.append_cancel_left e2
        simp only [List.cons.injEq] at this
        omega
    · refine (nodup_rg _ nf).imp fun {a a'} hne p hp p' hp' e => ?_
      obtain ⟨b, _, hp⟩ := List.mem_flatMap.1 hp
      obtain ⟨b', _, hp'⟩ := List.mem_flatMap.1 hp'
      obtain ⟨us, vs, e1, e2⟩ := key _ _ _ hp
      obtain ⟨us', vs', e1', e2'⟩ := key _ _ _ hp'
      rw [e, e1'] at e1
      have := List.append_cancel_left e1
      simp only [List.cons.injEq] at this
      omega
def lvS (q : List Int → List Int → Bool) (nf nt : Nat) (now : List Pr) : List Pr :=
  now.flatMap fun p => (rg 0 nf).flatMap fun (a : Nat) => (rg 0 nt).flatMap fun (b : Nat) => if q (p.1 ++ [(a : Int)]) (p.2 ++ [(b : Int)]) then [(p.1 ++ [(a : Int)], p.2 ++ [(b : Int)])] else []
def lvR (q : List Int → List Int → Bool) (nf nt : Nat) : Nat → List Pr × List Pr
  | 0 => ([], [([], [])])
  | k + 1 => ((lvR q nf nt k).1 ++ lvS q nf nt (lvR q nf nt k).2, lvS q nf nt (lvR q nf nt k).2)
end Go.Ab.A15
namespace Go.Ab.A15
open Go Go.Ab Go.Ab.A34 Go.Sort Go.Shelf Go.Proofs
theorem cmpI_neg (x y : Int) : cmpI y x = -cmpI x y := by unfold cmpI; split <;> split <;> omega
theorem cmpI_zero {x y : Int} (h : cmpI x y = 0) : x = y := by unfold cmpI at h; split at h <;> first | omega | (split at h <;> omega)
theorem cmpI_lt {x y : Int} : cmpI x y < 0 ↔ x < y := by unfold cmpI; split <;> first | omega | (split <;> omega)
theorem lexI_neg : ∀ x y, lexI y x = -lexI x y
  | [], [] => rfl
  | [], _ :: _ => rfl
  | _ :: _, [] => rfl
  | a :: x, b :: y => by
    unfold lexI
    have h := cmpI_neg a b
    by_cases h0 : cmpI a b = 0
    · rw [if_pos h0, if_pos (by omega), lexI_neg x y]
    · rw [if_neg h0, if_neg (by omega), h]
theorem lexI_zero : ∀ {x y}, lexI x y = 0 → x = y
  | [], [], _ => rfl
  | [], _ :: _, h => by simp [lexI] at h
  | _ :: _, [], h => by simp [lexI] at h
  | a :: x, b :: y, h => by
    unfold lexI at h
    by_cases h0 : cmpI a b = 0
    · rw [if_pos h0] at h
      rw [cmpI_zero h0, lexI_zero h]
    · rw [if_neg h0] at h
      exact absurd h h0
theorem lexI_trans : ∀ {x y z}, lexI x y < 0 → lexI y z < 0 → lexI x z < 0
  | [], [], _, h, _ => by simp [lexI] at h
  | _ :: _, [], _, h, _ => by simp [lexI] at h
  | [], _ :: _, [], _, h => by simp [lexI] at h
  | [], _ :: _, _ :: _, _, _ => by simp [lexI]
  | _ :: _, _ :: _, [], _, h => by simp [lexI] at h
  | a :: x, b :: y, c :: z, h1, h2 => by
    unfold lexI at h1 h2 ⊢
    by_cases e1 : cmpI a b = 0
    · rw [if_pos e1] at h1
      have := cmpI_zero e1
      subst this
      by_cases e2 : cmpI a c = 0
      · rw [if_pos e2] at h2 ⊢
        exact lexI_trans h1 h2
      · rw [if_neg e2] at h2 ⊢
        exact h2
    · rw [if_neg e1] at h1
      have l1 := cmpI_lt.1 h1
      by_cases e2 : cmpI b c = 0
      · have := cmpI_zero e2
        subst this
        rw [if_neg e1]
        exact h1
      · rw [if_neg e2] at h2
        have l2 := cmpI_lt.1 h2
        have l3 : cmpI a c < 0 := cmpI_lt.2 (by omega)
        rw [if_neg (by omega)]
        exact l3
theorem fl_one {E : Env} {v : Value} {n sz : Nat} {f : Nat → List SV} (hr : Rep E v (.fl n sz f)) : v.oneCell' = true := by cases hr <;> rfl
def cmpD (a b : Dp) : Int := if lexI a.l b.l = 0 then lexI a.r b.r else lexI a.l b.l
theorem cmpD_neg (a b : Dp) : cmpD b a = -cmpD a b := by
  unfold cmpD
  have h1 := lexI_neg a.l b.l
  have h2 := lexI_neg a.r b.r
  by_cases h : lexI a.l b.l = 0
  · rw [if_pos h, if_pos (by omega), h2]
  · rw [if_neg h, if_neg (by omega), h1]
theorem cmpD_zero {a b : Dp} (h : cmpD a b = 0) : a.l = b.l ∧ a.r = b.r := by
  unfold cmpD at h
  by_cases h0 : lexI a.l b.l = 0
  · rw [if_pos h0] at h
    exact ⟨lexI_zero h0, lexI_zero h⟩
  · rw [if_neg h0] at h
    exact absurd h h0
theorem cmpD_trans {a b c : Dp} (h1 : cmpD a b < 0) (h2 : cmpD b c < 0) : cmpD a c < 0 := by
  unfold cmpD at *
  by_cases e1 : lexI a.l b.l = 0
  · rw [if_pos e1] at h1
    rw [lexI_zero e1]
    by_cases e2 : lexI b.l c.l = 0
    · rw [if_pos e2] at h2 ⊢
      exact lexI_trans h1 h2
    · rw [if_neg e2] at h2 ⊢
      exact h2
  · rw [if_neg e1] at h1
    by_cases e2 : lexI b.l c.l = 0
    · rw [← lexI_zero e2, if_neg e1]
      exact h1
    · rw [if_neg e2] at h2
      have h3 := lexI_trans h1 h2
      rw [if_neg (by omega)]
      exact h3
theorem swo_cmpD : SWO (ltOf cmpD) where
  irrefl := fun x => by
    have := cmpD_neg x x
    simp only [ltOf, decide_eq_false_iff_not]
    omega
  trans := fun x y z h1 h2 => by
    simp only [ltOf, decide_eq_true_eq] at *
    exact cmpD_trans h1 h2
  ntrans := fun x y z h1 h2 => by
    simp only [ltOf, decide_eq_false_iff_not] at *
    intro h3
    have n1 := cmpD_neg x y
    have n2 := cmpD_neg y z
    rcases Int.lt_or_eq_of_le (show cmpD y x ≤ 0 by omega) with h4 | h4
    · have := cmpD_trans h4 h3
      omega
    · obtain ⟨e1, e2⟩ := cmpD_zero h4
      have : cmpD x z = cmpD y z := by unfold cmpD; rw [e1, e2]
      omega
def orL : List Int → Int
  | [] => 0
  | x :: l => if x = 0 then orL l else x
theorem orL_step {l : List Int} {i : Nat} (h : i < l.length) : orL (l.drop i) = if l.getD i 0 = 0 then orL (l.drop (i + 1)) else l.getD i 0 := by
  have g : l.getD i 0 = l[i] := by simp [List.getD_eq_getElem?_getD, h]
  rw [List.drop_eq_getElem_cons h, g]
  rfl
abbrev dCs (l : List Dp) : List SV := l.flatMap dC
def srtD (l : List Dp) : List Dp := l.mergeSort fun x y => !(ltOf cmpD) y x
end Go.Ab.A15
namespace Go.Proofs.YtpidncgibgiidaaGreat
open Go Go.Ab Go.Ab.A34 Go.Ab.A15 Go.Sort Go.Shelf Go.RowKit
variable [Gl] [Tabs]
theorem cmp_n (x y : Int) : PCall Tryz.prog 114 [I64 x, I64 y] (I64 (cmpI x y)) := by
  have nan : ∀ z, PCall Tryz.prog 144 [I64 z] (SB false) := fun z => by
    refine Call.enter' (N := 6) (rs := [.tmp 2]) Tryz.func144 rfl rfl rfl (by decide) rfl ?_; simp only [argT]; have hD : (0 : Nat) = 0 := rfl
    repeat' first | (refine SW.seq_k fun K hK => ?_) | ((first | refine SW.region ?_ | refine SW.ret ?_); try simp only [go_sem, hD]) | (apply hK; clear hK K)
    refine ret_pure ?_; simp only [resL_tmp, resL_nil, tupOf, go_sem, hD]
  have cx := nan x
  have cy := nan y
  obtain ⟨R, hR⟩ : ∃ R, R = cmpI x y := ⟨_, rfl⟩
  rw [← hR]
  unfold cmpI at hR
  by_cases h1 : x < y
  · rw [if_pos h1] at hR
    subst hR
    refine Call.enter' (N := 20) (rs := [.tmp 4]) Tryz.func114 rfl rfl rfl (by decide) rfl ?_; simp only [argT]; have hD : (0 : Nat) = 0 := rfl
    repeat' first | (refine SW.seq_k fun K hK => ?_) | ((first | refine SW.region ?_ | refine SW.cond ?_ | refine SW.skip ?_ | refine SW.ret ?_ | refine Call.of_pure (cx) ?_ | refine Call.of_pure (cy) ?_); try simp only [go_sem, hD, h1]) | (apply hK; clear hK K)
    refine ret_pure ?_; simp only [resL_tmp, resL_nil, tupOf, go_sem, hD]
  · rw [if_neg h1] at hR
    by_cases h2 : y < x
    · rw [if_pos h2] at hR
      subst hR
      refine Call.enter' (N := 20) (rs := [.tmp 4]) Tryz.func114 rfl rfl rfl (by decide) rfl ?_; simp only [argT]; have hD : (0 : Nat) = 0 := rfl
      repeat' first | (refine SW.seq_k fun K hK => ?_) | ((first | refine SW.region ?_ | refine SW.cond ?_ | refine SW.skip ?_ | refine SW.ret ?_ | refine Call.of_pure (cx) ?_ | refine Call.of_pure (cy) ?_); try simp only [go_sem, hD, h1, h2]) | (apply hK; clear hK K)
      refine ret_pure ?_; simp only [resL_tmp, resL_nil, tupOf, go_sem, hD]
    · rw [if_neg h2] at hR
      subst hR
      refine Call.enter' (N := 20) (rs := [.tmp 4]) Tryz.func114 rfl rfl rfl (by decide) rfl ?_; simp only [argT]; have hD : (0 : Nat) = 0 := rfl
      repeat' first | (refine SW.seq_k fun K hK => ?_) | ((first | refine SW.region ?_ | refine SW.cond ?_ | refine SW.skip ?_ | refine SW.ret ?_ | refine Call.of_pure (cx) ?_ | refine Call.of_pure (cy) ?_); try simp only [go_sem, hD, h1, h2]) | (apply hK; clear hK K)
      refine ret_pure ?_; simp only [resL_tmp, resL_nil, tupOf, go_sem, hD]
theorem lex_n (a b : List Int) (ha : a.length ≤ 1000000000) (hb : b.length ≤ 1000000000) : PCall Tryz.prog 95 [IL a, IL b] (I64 (lexI a b)) := by
  obtain ⟨R, hR⟩ : ∃ R, R = lexI a b := ⟨_, rfl⟩
  rw [← hR]
  have hR0 : R = lexI (a.drop 0) (b.drop 0) := by rw [List.drop_zero, List.drop_zero]; exact hR
  clear hR
  refine Call.enter' (N := 36) (rs := [.tmp 4]) Tryz.func95 rfl rfl rfl (by decide) rfl ?_; simp only [argT]; have hD : (0 : Nat) = 0 := rfl
  repeat' first | (refine SW.seq_k fun K hK => ?_) | (refine SW.block ?_) | (refine SW.region ?_; try simp only [go_sem, hD]) | (apply hK; clear hK K)
  obtain ⟨I, hI⟩ : ∃ I : Nat → St → Prop, ∀ k S, I k S ↔ (∃ (i : Nat) , k = a.length - i ∧ i ≤ a.length ∧ R = lexI (a.drop i) (b.drop i) ∧ S = ⟨[(0, IL a), (1, IL b), (9, IL a), (10, I64 a.length), (11, I64 i)], []⟩) := ⟨fun k S => _, fun _ _ => Iff.rfl⟩
  refine SW.loop' I (a.length) ((hI _ _).2 ⟨0, rfl, Nat.zero_le _, hR0, rfl⟩) (by repeat' (first | exact rfl | exact trivial | constructor)) ?_
  intro k S hIn
  obtain ⟨i, rfl, hi, hC, rfl⟩ := (hI _ _).1 hIn
  clear hIn
  have ie : ((i : Nat) : Int).toNat = i := Int.toNat_natCast _
  have i0 : (0 : Int) ≤ ((i : Nat) : Int) := by omega
  clear hR0
  by_cases hlt : i < a.length
  · have hli : ((i : Nat) : Int) < (((a.length) : Nat) : Int) := by omega
    have w1 : IntKind.i64.wrap ((i : Int) + 1) = ((i + 1 : Nat) : Int) := by rw [i64_wrap (by omega) (by omega)]; omega
    rw [lexI_step hlt] at hC
    have fi : iF a i = [I64 (a.getD i 0)] := rfl
    by_cases hlb : i < b.length
    · rw [if_pos hlb] at hC
      have gi : iF b i = [I64 (b.getD i 0)] := rfl
      have hnb : ¬ ((b.length : Nat) : Int) ≤ ((i : Nat) : Int) := by omega
      have hbi : ((i : Nat) : Int) < ((b.length : Nat) : Int) := by omega
      have c := cmp_n (a.getD i 0) (b.getD i 0)
      generalize cmpI (a.getD i 0) (b.getD i 0) = z at *
      generalize a.getD i 0 = u at *
      generalize b.getD i 0 = v at *
      by_cases hz : z = 0
      · rw [if_pos hz] at hC
        repeat' first | (refine SW.seq_k fun K hK => ?_) | (refine SW.block ?_) | ((first | refine SW.region ?_ | refine SW.cond ?_ | refine SW.skip ?_ | refine Call.of_pure (c) ?_); try simp only [go_sem, hD, hli, ie, i0, w1, fi, gi, hnb, hbi, hz, true_implies]) | (apply hK; clear hK K)
        refine Rnd.sub (a.length - (i + 1)) (by omega) ((hI _ _).2 ⟨i + 1, rfl, by omega, hC, rfl⟩) (by repeat' (first | exact rfl | exact trivial | constructor))
      · rw [if_neg hz] at hC
        subst hC
        repeat' first | (refine SW.seq_k fun K hK => ?_) | (refine SW.block ?_) | ((first | refine SW.region ?_ | refine SW.cond ?_ | refine SW.skip ?_ | refine SW.ret ?_ | refine Call.of_pure (c) ?_); try simp only [go_sem, hD, hli, ie, i0, w1, fi, gi, hnb, hbi, hz, true_implies]) | (apply hK; clear hK K)
        refine ret_pure ?_; simp only [resL_tmp, resL_nil, tupOf, go_sem, hD]
    · rw [if_neg hlb] at hC
      subst hC
      have hnb : ((b.length : Nat) : Int) ≤ ((i : Nat) : Int) := by omega
      repeat' first | (refine SW.seq_k fun K hK => ?_) | (refine SW.block ?_) | ((first | refine SW.region ?_ | refine SW.cond ?_ | refine SW.skip ?_ | refine SW.ret ?_); try simp only [go_sem, hD, hli, ie, i0, w1, fi, hnb, true_implies]) | (apply hK; clear hK K)
      refine ret_pure ?_; simp only [resL_tmp, resL_nil, tupOf, go_sem, hD]
  · have hli : ¬ ((i : Nat) : Int) < (((a.length) : Nat) : Int) := by omega
    rw [lexI_end (by omega)] at hC
    have hia : i = a.length := by omega
    by_cases hlb : i < b.length
    · rw [if_pos hlb] at hC
      subst hC
      have hab : ((a.length : Nat) : Int) < ((b.length : Nat) : Int) := by omega
      repeat' first | (refine SW.seq_k fun K hK => ?_) | ((first | refine SW.region ?_ | refine SW.cond ?_ | refine SW.exit ?_ | refine SW.ret ?_); try simp only [go_sem, hD, hli, hab, true_implies]) | (apply hK; clear hK K) | (clear hK K; apply hK; clear hK K)
      refine ret_pure ?_; simp only [resL_tmp, resL_nil, tupOf, go_sem, hD]
    · rw [if_neg hlb] at hC
      subst hC
      have hab : ¬ ((a.length : Nat) : Int) < ((b.length : Nat) : Int) := by omega
      repeat' first | (refine SW.seq_k fun K hK => ?_) | ((first | refine SW.region ?_ | refine SW.cond ?_ | refine SW.skip ?_ | refine SW.exit ?_ | refine SW.ret ?_); try simp only [go_sem, hD, hli, hab, true_implies]) | (apply hK; clear hK K) | (clear hK K; apply hK; clear hK K)
      refine ret_pure ?_; simp only [resL_tmp, resL_nil, tupOf, go_sem, hD]
theorem or_n (l : List Int) (n : Nat) (hn : n = l.length) (hl : l.length ≤ 1000000000) : PCall Tryz.prog 94 [.fl n 1 (iF l)] (I64 (orL l)) := by
  subst hn
  obtain ⟨R, hR⟩ : ∃ R, R = orL l := ⟨_, rfl⟩
  rw [← hR]
  refine Call.enter' (N := 18) (rs := [.tmp 2]) Tryz.func94 rfl rfl rfl (by decide) rfl ?_; simp only [argT]; have hD : (0 : Nat) = 0 := rfl
  repeat' first | (refine SW.seq_k fun K hK => ?_) | (refine SW.block ?_) | (refine SW.region ?_; try simp only [go_sem, hD]) | (apply hK; clear hK K)
  obtain ⟨I, hI⟩ : ∃ I : Nat → St → Prop, ∀ k S, I k S ↔ (∃ (i : Nat) , k = l.length - i ∧ i ≤ l.length ∧ R = orL (l.drop i) ∧ S = ⟨[(0, IL l), (3, I64 (0 : Nat)), (6, IL l), (7, I64 l.length), (8, I64 i)], []⟩) := ⟨fun k S => _, fun _ _ => Iff.rfl⟩
  refine SW.loop' I (l.length) ((hI _ _).2 ⟨0, rfl, Nat.zero_le _, hR, rfl⟩) (by repeat' (first | exact rfl | exact trivial | constructor)) ?_
  intro k S hIn
  obtain ⟨i, rfl, hi, hC, rfl⟩ := (hI _ _).1 hIn
  clear hIn
  have ie : ((i : Nat) : Int).toNat = i := Int.toNat_natCast _
  have i0 : (0 : Int) ≤ ((i : Nat) : Int) := by omega
  clear hR
  by_cases hlt : i < l.length
  · have hli : ((i : Nat) : Int) < (((l.length) : Nat) : Int) := by omega
    have w1 : IntKind.i64.wrap ((i : Int) + 1) = ((i + 1 : Nat) : Int) := by rw [i64_wrap (by omega) (by omega)]; omega
    rw [orL_step hlt] at hC
    have fi : iF l i = [I64 (l.getD i 0)] := rfl
    generalize l.getD i 0 = u at *
    by_cases hz : u = 0
    · rw [if_pos hz] at hC
      repeat' first | (refine SW.seq_k fun K hK => ?_) | (refine SW.block ?_) | ((first | refine SW.region ?_ | refine SW.cond ?_ | refine SW.skip ?_); try simp only [go_sem, hD, hli, ie, i0, w1, fi, hz, true_implies]) | (apply hK; clear hK K)
      refine Rnd.sub (l.length - (i + 1)) (by omega) ((hI _ _).2 ⟨i + 1, rfl, by omega, hC, rfl⟩) (by repeat' (first | exact rfl | exact trivial | constructor))
    · rw [if_neg hz] at hC
      subst hC
      repeat' first | (refine SW.seq_k fun K hK => ?_) | (refine SW.block ?_) | ((first | refine SW.region ?_ | refine SW.cond ?_ | refine SW.skip ?_ | refine SW.ret ?_); try simp only [go_sem, hD, hli, ie, i0, w1, fi, hz, true_implies]) | (apply hK; clear hK K)
      refine ret_pure ?_; simp only [resL_tmp, resL_nil, tupOf, go_sem, hD]
  · have hli : ¬ ((i : Nat) : Int) < (((l.length) : Nat) : Int) := by omega
    rw [List.drop_of_length_le (by omega)] at hC
    have hC2 : R = 0 := hC
    subst hC2
    repeat' first | (refine SW.seq_k fun K hK => ?_) | ((first | refine SW.region ?_ | refine SW.cond ?_ | refine SW.exit ?_ | refine SW.ret ?_); try simp only [go_sem, hD, hli]) | (apply hK; clear hK K) | (clear hK K; apply hK; clear hK K)
    refine ret_pure ?_; simp only [resL_tmp, resL_nil, tupOf, go_sem, hD]
theorem ord_d (a b : Dp) (ha : OkS a) (hb : OkS b) : PCall Tryz.prog 93 [DV a, DV b] (I64 (cmpD a b)) := by
  have c1 := lex_n a.l b.l ha.l hb.l
  have c2 := lex_n a.r b.r ha.r hb.r
  have he : cmpD a b = orL [lexI a.l b.l, lexI a.r b.r] := by
    unfold cmpD orL orL orL
    by_cases h : lexI a.l b.l = 0
    · rw [if_pos h, if_pos h]
      split
      · assumption
      · rfl
    · rw [if_neg h, if_neg h]
  rw [he]
  clear he
  generalize lexI a.l b.l = x at *
  generalize lexI a.r b.r = y at *
  have c3 := or_n [x, y] 2 rfl (by simp)
  generalize orL [x, y] = z at *
  have cl : ∀ bk H, Heap.find H bk = some (.svs [I64 x, I64 y]) → Ab.Call Tryz.prog 94 [.os bk 0 2 1] H (fun r h' => r = I64 z ∧ h' = H) := fun bk H hH =>
    Call.lend (args := [.os bk 0 2 1]) (k := .svs [I64 x, I64 y]) (off := 0) (sz := 1) 0 (iF [x, y]) (by simp) rfl hH (by show 0 + 2 * 1 ≤ 2; omega) (fun j hj => by
      rcases (by omega : j = 0 ∨ j = 1) with rfl | rfl <;> rfl) c3
  obtain ⟨af, al, at', ar⟩ := a
  obtain ⟨bf, bl, bt, br⟩ := b
  simp only at c1 c2
  refine Call.enter' (N := 17) (rs := [.tmp 4]) Tryz.func93 rfl rfl rfl (by decide) rfl ?_; simp only [argT]; have hD : (0 : Nat) = 0 := rfl
  repeat' first | ((refine Call.mono (cl _ _ (by simp [find_cons, hD])) ?_); (intro r h' hx); (obtain ⟨rfl, rfl⟩ := hx); (try simp only [go_sem, hD])) | (refine SW.seq_k fun K hK => ?_) | ((first | refine SW.region ?_ | refine SW.regionY [11] (id := 1) (Checked.mixed Tryz.checked) ((.one 0 [0, 1, 4, 9, 10, 11, 12] (.one 1 [1, 4, 9, 10, 11, 12] (.one 2 [2, 3, 4, 9, 10, 11, 12] (.one 3 [3, 4, 9, 10, 11, 12] (.one 4 [4, 9, 10, 11, 12] (.one 5 [5, 6, 9, 10, 11, 12] (.one 6 [6, 9, 10, 11, 12] (.one 7 [7, 8, 9, 10, 11, 12] (.one 8 [8, 9, 10, 11, 12] (.one 9 [9, 10, 11, 12] (.alt 10 false (.alt 11 true (.one 12 [12] .done) .nil) .nil))))))))))) : OY) (by kernel_rfl) ?_ | refine SW.ret ?_ | refine ⟨_, c1, ?_⟩ | refine ⟨_, c2, ?_⟩ | (refine allF_i fun b hb => ?_; replace hD := And.intro hb hD; clear hb; try simp only [fresh_cons, fresh_nil, and_true, ne_eq, neF] at hD)); try simp only [go_sem, hD, true_implies]) | (apply hK; clear hK K)
  all_goals
    refine retQ_le (St.le_sublist (h' := []) (fun x hx => by cases hx) (fun _ => by simp)) ?_
    simp only [resL_tmp, resL_nil, tupOf, go_sem, hD]
theorem isAggD : ∀ w, (isAgg 40).run Tryz.prog w = .ok true w := fun w => by kernel_rfl
theorem sizeD : ∀ w, (Go.sizeOf 40).run Tryz.prog w = .ok 4 w := fun w => by kernel_rfl
theorem sort_d (b : Nat) (l : List Dp) (f t : ByteArray) (hf : ∀ d ∈ l, d.f = f ∧ d.t = t) (hne : l ≠ []) (hnd : l.Nodup) (hl : l.length ≤ 1000000000) (hs : ∀ d ∈ l, OkS d) :
    Ab.Call Tryz.prog 92 [.os b 0 l.length 4, .fn (.func 93) [] []] [(b, .svs (dCs l))] (fun r h' => r = .tup [] ∧ h' = [(b, .svs (dCs (srtD l)))]) :=
  Call.sortSK (P := Tryz.prog) (ρ := Tryz.sortI_ren) Tryz.sortI ⟨_, Tryz.func92, by kernel_rfl, by kernel_rfl⟩ 4 (by decide) isAggD sizeD dC (fun _ => rfl) (fun x j E v hj hr => by
      rcases (by omega : j = 0 ∨ j = 1 ∨ j = 2 ∨ j = 3) with rfl | rfl | rfl | rfl
      · cases hr; rfl
      · exact fl_one hr
      · cases hr; rfl
      · exact fl_one hr) cmpD swo_cmpD 93 (Go.Proofs.enters_of Tryz.func93 (by kernel_rfl) rfl) b l (fun x hx y hy h1 h2 => by
    simp only [ltOf, decide_eq_false_iff_not] at h1 h2
    have := cmpD_neg x y
    obtain ⟨e1, e2⟩ := cmpD_zero (a := x) (b := y) (by omega)
    exact dp_eq.2 ⟨by rw [(hf x hx).1, (hf y hy).1], by rw [(hf x hx).2, (hf y hy).2], e1, e2⟩) hne hnd (by omega) (fun x hx y hy => ord_d x y (hs x hx) (hs y hy))
theorem sort_dn : PCall Tryz.prog 92 [SN, .fn (.func 93) [] []] (.tup []) :=
  Call.sortQ0 (P := Tryz.prog) (ρ := Tryz.sortI_ren) Tryz.sortI ⟨_, Tryz.func92, by kernel_rfl, by kernel_rfl⟩ 93
end Go.Proofs.YtpidncgibgiidaaGreat
namespace Go.Proofs.YtpidncgibgiidaaGreat
open Go Go.Ab Go.Ab.A34 Go.Ab.A15
variable [Gl] [Tabs]
theorem compare_c (a b : ByteArray) : PCall Tryz.prog 116 [Str a, Str b] (I64 (Lib.compareBytes a.data.toList b.data.toList)) :=
  PCall.of_calls ⟨_, Tryz.func116, by kernel_rfl, by kernel_rfl⟩ fun w E vs _ _ _ hr => by
    obtain rfl := reps2 hr
    exact (Tryz.strings_Compare a b w).mono fun e w' ⟨he, hw⟩ => ⟨_, he, fun _ => .sc _, by rw [hw]; exact ⟨RowKit.Below.refl _ _, Nat.le_refl _⟩⟩
theorem cmp_l (x y : Int) : PCall Tryz.prog 115 [I64 x, I64 y] (I64 (cmpI x y)) := by
  have nan : ∀ z, PCall Tryz.prog 145 [I64 z] (SB false) := fun z => by
    refine Call.enter' (N := 6) (rs := [.tmp 2]) Tryz.func145 rfl rfl rfl (by decide) rfl ?_; simp only [argT]; have hD : (0 : Nat) = 0 := rfl
    repeat' first | (refine SW.seq_k fun K hK => ?_) | ((first | refine SW.region ?_ | refine SW.ret ?_); try simp only [go_sem, hD]) | (apply hK; clear hK K)
    refine ret_pure ?_; simp only [resL_tmp, resL_nil, tupOf, go_sem, hD]
  have cx := nan x
  have cy := nan y
  obtain ⟨R, hR⟩ : ∃ R, R = cmpI x y := ⟨_, rfl⟩
  rw [← hR]
  unfold cmpI at hR
  by_cases h1 : x < y
  · rw [if_pos h1] at hR
    subst hR
    refine Call.enter' (N := 20) (rs := [.tmp 4]) Tryz.func115 rfl rfl rfl (by decide) rfl ?_; simp only [argT]; have hD : (0 : Nat) = 0 := rfl
    repeat' first | (refine SW.seq_k fun K hK => ?_) | ((first | refine SW.region ?_ | refine SW.cond ?_ | refine SW.skip ?_ | refine SW.ret ?_ | refine Call.of_pure (cx) ?_ | refine Call.of_pure (cy) ?_); try simp only [go_sem, hD, h1]) | (apply hK; clear hK K)
    refine ret_pure ?_; simp only [resL_tmp, resL_nil, tupOf, go_sem, hD]
  · rw [if_neg h1] at hR
    by_cases h2 : y < x
    · rw [if_pos h2] at hR
      subst hR
      refine Call.enter' (N := 20) (rs := [.tmp 4]) Tryz.func115 rfl rfl rfl (by decide) rfl ?_; simp only [argT]; have hD : (0 : Nat) = 0 := rfl
      repeat' first | (refine SW.seq_k fun K hK => ?_) | ((first | refine SW.region ?_ | refine SW.cond ?_ | refine SW.skip ?_ | refine SW.ret ?_ | refine Call.of_pure (cx) ?_ | refine Call.of_pure (cy) ?_); try simp only [go_sem, hD, h1, h2]) | (apply hK; clear hK K)
      refine ret_pure ?_; simp only [resL_tmp, resL_nil, tupOf, go_sem, hD]
    · rw [if_neg h2] at hR
      subst hR
      refine Call.enter' (N := 20) (rs := [.tmp 4]) Tryz.func115 rfl rfl rfl (by decide) rfl ?_; simp only [argT]; have hD : (0 : Nat) = 0 := rfl
      repeat' first | (refine SW.seq_k fun K hK => ?_) | ((first | refine SW.region ?_ | refine SW.cond ?_ | refine SW.skip ?_ | refine SW.ret ?_ | refine Call.of_pure (cx) ?_ | refine Call.of_pure (cy) ?_); try simp only [go_sem, hD, h1, h2]) | (apply hK; clear hK K)
      refine ret_pure ?_; simp only [resL_tmp, resL_nil, tupOf, go_sem, hD]
theorem cmp3_or (a b : V3) : cmp3 a b = orL [cmpI a.1 b.1, cmpI a.2.1 b.2.1, Lib.compareBytes a.2.2.data.toList b.2.2.data.toList] := by
  unfold cmp3 cmpV orL orL orL orL
  change (if cmpI a.1 b.1 = 0 then (if cmpI a.2.1 b.2.1 = 0 then _ else cmpI a.2.1 b.2.1) else cmpI a.1 b.1) = _
  by_cases h1 : cmpI a.1 b.1 = 0
  · rw [if_pos h1, if_pos h1]
    by_cases h2 : cmpI a.2.1 b.2.1 = 0
    · rw [if_pos h2, if_pos h2]
      split <;> simp_all
    · rw [if_neg h2, if_neg h2]
  · rw [if_neg h1, if_neg h1]
theorem compare_p (a b : V3) : PCall Tryz.prog 74 [VV a, VV b] (I64 (cmp3 a b)) := by
  rw [cmp3_or]
  obtain ⟨a1, a2, a3⟩ := a
  obtain ⟨b1, b2, b3⟩ := b
  simp only
  have c1 := cmp_n a1 b1
  have c2 := cmp_l a2 b2
  have c3 := compare_c a3 b3
  generalize cmpI a1 b1 = x at *
  generalize cmpI a2 b2 = y at *
  generalize Lib.compareBytes a3.data.toList b3.data.toList = z at *
  have c4 := or_n [x, y, z] 3 rfl (by simp)
  generalize orL [x, y, z] = u at *
  have cl : ∀ bk H, Heap.find H bk = some (.svs [I64 x, I64 y, I64 z]) → Ab.Call Tryz.prog 94 [.os bk 0 3 1] H (fun r h' => r = I64 u ∧ h' = H) := fun bk H hH =>
    Call.lend (args := [.os bk 0 3 1]) (k := .svs [I64 x, I64 y, I64 z]) (off := 0) (sz := 1) 0 (iF [x, y, z]) (by simp) rfl hH (by show 0 + 3 * 1 ≤ 3; omega) (fun j hj => by
      rcases (by omega : j = 0 ∨ j = 1 ∨ j = 2) with rfl | rfl | rfl <;> rfl) c4
  refine Call.enter' (N := 22) (rs := [.tmp 4]) Tryz.func74 rfl rfl rfl (by decide) rfl ?_; simp only [argT]; have hD : (0 : Nat) = 0 := rfl
  repeat' first | ((refine Call.mono (cl _ _ (by simp [find_cons, hD])) ?_); (intro r h' hx); (obtain ⟨rfl, rfl⟩ := hx); (try simp only [go_sem, hD])) | (refine SW.seq_k fun K hK => ?_) | ((first | refine SW.region ?_ | refine SW.regionY [16] (id := 1) (Checked.mixed Tryz.checked) ((.one 0 [0, 1, 4, 9, 14, 15, 16, 17] (.one 1 [1, 4, 9, 14, 15, 16, 17] (.one 2 [2, 3, 4, 9, 14, 15, 16, 17] (.one 3 [3, 4, 9, 14, 15, 16, 17] (.one 4 [4, 9, 14, 15, 16, 17] (.one 5 [5, 6, 9, 14, 15, 16, 17] (.one 6 [6, 9, 14, 15, 16, 17] (.one 7 [7, 8, 9, 14, 15, 16, 17] (.one 8 [8, 9, 14, 15, 16, 17] (.one 9 [9, 14, 15, 16, 17] (.one 10 [10, 11, 14, 15, 16, 17] (.one 11 [11, 14, 15, 16, 17] (.one 12 [12, 13, 14, 15, 16, 17] (.one 13 [13, 14, 15, 16, 17] (.one 14 [14, 15, 16, 17] (.alt 15 false (.alt 16 true (.one 17 [17] .done) .nil) .nil)))))))))))))))) : OY) (by kernel_rfl) ?_ | refine SW.ret ?_ | refine ⟨_, c1, ?_⟩ | refine ⟨_, c2, ?_⟩ | refine ⟨_, c3, ?_⟩ | (refine allF_i fun b hb => ?_; replace hD := And.intro hb hD; clear hb; try simp only [fresh_cons, fresh_nil, and_true, ne_eq, neF] at hD)); try simp only [go_sem, hD, true_implies]) | (apply hK; clear hK K)
  all_goals
    refine retQ_le (St.le_sublist (h' := []) (fun x hx => by cases hx) (fun _ => by simp)) ?_
    simp only [resL_tmp, resL_nil, tupOf, go_sem, hD]
theorem compF_v (x y : List V3) (hx : x.length ≤ 1000) (hy : y.length ≤ 1000) : PCall Tryz.prog 73 [VL x, VL y, .fn (.func 74) [] []] (I64 (lexV x y)) := by
  obtain ⟨R, hR⟩ : ∃ R, R = lexV x y := ⟨_, rfl⟩
  rw [← hR]
  have hR0 : R = lexV (x.drop 0) (y.drop 0) := hR
  clear hR
  refine Call.enter' (N := 39) (rs := [.tmp 6]) Tryz.func73 rfl rfl rfl (by decide) rfl ?_; simp only [argT]; have hD : (0 : Nat) = 0 := rfl
  repeat' first | (refine SW.seq_k fun K hK => ?_) | (refine SW.region ?_; try simp only [go_sem, hD, true_implies]) | (apply hK; clear hK K)
  refine SW.block ?_
  obtain ⟨I, hI⟩ : ∃ I : Nat → St → Prop, ∀ k S, I k S ↔ (∃ (i : Nat) , k = x.length - i ∧ i ≤ x.length ∧ R = lexV (x.drop i) (y.drop i) ∧ i ≤ y.length ∧ S = ⟨[(0, VL x), (1, VL y), (2, .fn (.func 74) [] []), (11, VL x), (12, I64 x.length), (13, I64 i)], []⟩) := ⟨fun k S => _, fun _ _ => Iff.rfl⟩
  refine SW.loop' I (x.length) ((hI _ _).2 ⟨0, rfl, Nat.zero_le _, hR0, Nat.zero_le _, rfl⟩) (by repeat' (first | exact rfl | exact trivial | constructor)) ?_
  intro k S hIn
  obtain ⟨i, rfl, hi, hC, hiy, rfl⟩ := (hI _ _).1 hIn
  clear hIn
  have ie : ((i : Nat) : Int).toNat = i := Int.toNat_natCast _
  have i0 : (0 : Int) ≤ ((i : Nat) : Int) := by omega
  clear hR0
  by_cases hlt : i < x.length
  · have hli : ((i : Nat) : Int) < (((x.length) : Nat) : Int) := by omega
    have w1 : IntKind.i64.wrap ((i : Int) + 1) = ((i + 1 : Nat) : Int) := by rw [i64_wrap (by omega) (by omega)]; omega
    by_cases hly : i < y.length
    · have hlj : ¬ ((i : Nat) : Int) ≥ ((y.length : Nat) : Int) := by omega
      have hlj2 : ¬ ((y.length : Nat) : Int) ≤ ((i : Nat) : Int) := by omega
      have hlj3 : ((i : Nat) : Int) < ((y.length : Nat) : Int) := by omega
      rw [lexV_step hlt hly] at hC
      have fx : vF x i = vC (x.getD i v0) := rfl
      have fy : vF y i = vC (y.getD i v0) := rfl
      have cc := compare_p (x.getD i v0) (y.getD i v0)
      generalize cmp3 (x.getD i v0) (y.getD i v0) = z at *
      generalize x.getD i v0 = v at *
      generalize y.getD i v0 = w at *
      obtain ⟨v1, v2, v3⟩ := v
      obtain ⟨u1, u2, u3⟩ := w
      by_cases hz : z = 0
      · rw [if_pos hz] at hC
        repeat' first | (refine SW.seq_k fun K hK => ?_) | (refine SW.block ?_) | ((first | refine SW.region ?_ | refine SW.cond ?_ | refine SW.skip ?_ | refine Call.of_pure (cc) ?_ | (refine allF_i fun b hb => ?_; replace hD := And.intro hb hD; clear hb; try simp only [fresh_cons, fresh_nil, and_true, ne_eq, neF] at hD)); try simp only [go_sem, hD, hli, ie, i0, w1, hlj, hlj2, hlj3, fx, fy, hz, true_implies]) | (apply hK; clear hK K)
        refine Rnd.le St.le_drop ?_
        refine Rnd.sub (x.length - (i + 1)) (by omega) ((hI _ _).2 ⟨i + 1, rfl, by omega, hC, by omega, rfl⟩) (by repeat' (first | exact rfl | exact trivial | constructor))
      · rw [if_neg hz] at hC
        subst hC
        repeat' first | (refine SW.seq_k fun K hK => ?_) | (refine SW.block ?_) | ((first | refine SW.region ?_ | refine SW.cond ?_ | refine SW.skip ?_ | refine SW.ret ?_ | refine Call.of_pure (cc) ?_ | (refine allF_i fun b hb => ?_; replace hD := And.intro hb hD; clear hb; try simp only [fresh_cons, fresh_nil, and_true, ne_eq, neF] at hD)); try simp only [go_sem, hD, hli, ie, i0, w1, hlj, hlj2, hlj3, fx, fy, hz, true_implies]) | (apply hK; clear hK K)
        refine ret_pure ?_; simp only [resL_tmp, resL_nil, tupOf, go_sem, hD]
    · have hlj : ((i : Nat) : Int) ≥ ((y.length : Nat) : Int) := by omega
      have hlj2 : ((y.length : Nat) : Int) ≤ ((i : Nat) : Int) := by omega
      rw [lexV_end (by omega) (by omega) (by omega)] at hC
      have h1 : R = 1 := by
        rw [hC]
        unfold sgn
        rw [if_neg (by omega), if_pos (by omega)]
      subst h1
      have fx : vF x i = vC (x.getD i v0) := rfl
      generalize x.getD i v0 = v at *
      obtain ⟨v1, v2, v3⟩ := v
      repeat' first | (refine SW.seq_k fun K hK => ?_) | (refine SW.block ?_) | ((first | refine SW.region ?_ | refine SW.cond ?_ | refine SW.skip ?_ | refine SW.ret ?_ | (refine allF_i fun b hb => ?_; replace hD := And.intro hb hD; clear hb; try simp only [fresh_cons, fresh_nil, and_true, ne_eq, neF] at hD)); try simp only [go_sem, hD, hli, ie, i0, w1, hlj, hlj2, fx, true_implies]) | (apply hK; clear hK K)
      refine ret_pure ?_; simp only [resL_tmp, resL_nil, tupOf, go_sem, hD]
  · have hli : ¬ ((i : Nat) : Int) < (((x.length) : Nat) : Int) := by omega
    obtain rfl : i = x.length := by omega
    rw [lexV_end (by omega) hiy (by omega)] at hC
    by_cases hxy : x.length < y.length
    · have hab : ((x.length : Nat) : Int) < ((y.length : Nat) : Int) := by omega
      have h1 : R = -1 := by
        rw [hC]
        unfold sgn
        rw [if_pos hab]
      subst h1
      repeat' first | (refine SW.seq_k fun K hK => ?_) | ((first | refine SW.region ?_ | refine SW.cond ?_ | refine SW.exit ?_ | refine SW.ret ?_); try simp only [go_sem, hD, hli, hab, true_implies]) | (apply hK; clear hK K) | (clear hK K; apply hK; clear hK K)
      refine ret_pure ?_; simp only [resL_tmp, resL_nil, tupOf, go_sem, hD]
    · have hab : ¬ ((x.length : Nat) : Int) < ((y.length : Nat) : Int) := by omega
      have h1 : R = 0 := by
        rw [hC]
        unfold sgn
        rw [if_neg hab, if_neg (by omega)]
      subst h1
      repeat' first | (refine SW.seq_k fun K hK => ?_) | ((first | refine SW.region ?_ | refine SW.cond ?_ | refine SW.skip ?_ | refine SW.exit ?_ | refine SW.ret ?_); try simp only [go_sem, hD, hli, hab, true_implies]) | (apply hK; clear hK K) | (clear hK K; apply hK; clear hK K)
      refine ret_pure ?_; simp only [resL_tmp, resL_nil, tupOf, go_sem, hD]
theorem ord_v (x y : List V3) (hx : x.length ≤ 1000) (hy : y.length ≤ 1000) : PCall Tryz.prog 72 [VL x, VL y] (I64 (lexV x y)) := by
  have c := compF_v x y hx hy
  generalize lexV x y = z at *
  refine Call.enter' (N := 8) (rs := [.tmp 4]) Tryz.func72 rfl rfl rfl (by decide) rfl ?_; simp only [argT]; have hD : (0 : Nat) = 0 := rfl
  repeat' first | (refine SW.seq_k fun K hK => ?_) | ((first | refine SW.region ?_ | refine SW.ret ?_ | refine Call.of_pure (c) ?_); try simp only [go_sem, hD, true_implies]) | (apply hK; clear hK K)
  refine ret_pure ?_; simp only [resL_tmp, resL_nil, tupOf, go_sem, hD]
theorem ord_e (x y : List V3) (hx : x.length ≤ 1000) (hy : y.length ≤ 1000) : PCall Tryz.prog 77 [VL x, VL y, .fp [.fn (.func 72) [] []]] (SB (decide (lexV x y = 0))) := by
  have c := ord_v x y hx hy
  generalize lexV x y = z at *
  refine Call.enter' (N := 11) (rs := [.tmp 5]) Tryz.func77 rfl rfl rfl (by decide) rfl ?_; simp only [argT]; have hD : (0 : Nat) = 0 := rfl
  repeat' first | (refine SW.seq_k fun K hK => ?_) | ((first | refine SW.region ?_ | refine SW.ret ?_ | refine Call.of_pure (c) ?_); try simp only [go_sem, hD, true_implies]) | (apply hK; clear hK K)
  refine ret_pure ?_; simp only [resL_tmp, resL_nil, tupOf, go_sem, hD]
  try rfl
end Go.Proofs.YtpidncgibgiidaaGreat
namespace Go.Ab.A15
open Go Go.Ab Go.Ab.A34 Go.Ab.A01 Go.Sort Go.Proofs
abbrev LV := List V3
theorem cmp3_swap (a b : V3) : cmp3 b a = -cmp3 a b := cmp_swap _ _ _ _ _ _
theorem cmp3_tr (a b c : V3) : Tr (cmp3 a b) (cmp3 b c) (cmp3 a c) := cmp_tr _ _ _ _ _ _ _ _ _
theorem lexV_cons (a b : V3) (x y : LV) : lexV (a :: x) (b :: y) = lex (cmp3 a b) (lexV x y) := by rw [lexV]; rfl
theorem lexV_swap : ∀ x y : LV, lexV y x = -lexV x y
  | [], y => by rw [lexV_nil, lexV_nil', sgn_swap]
  | a :: x, [] => by rw [lexV_nil, lexV_nil', sgn_swap]
  | a :: x, b :: y => by rw [lexV_cons, lexV_cons, cmp3_swap a b, lexV_swap x y, lex_neg]
theorem sgn_0s (n : Nat) : sgn 0 ((n + 1 : Nat) : Int) = -1 := by unfold sgn; rw [if_pos (by omega)]
theorem sgn_s0 (n : Nat) : sgn ((n + 1 : Nat) : Int) 0 = 1 := by unfold sgn; rw [if_neg (by omega), if_pos (by omega)]
theorem lexV_0s (b : V3) (y : LV) : lexV [] (b :: y) = -1 := by rw [lexV_nil, List.length_cons, sgn_0s]
theorem lexV_s0 (a : V3) (x : LV) : lexV (a :: x) [] = 1 := by rw [lexV_nil', List.length_cons, sgn_s0]
theorem lexV_00 : lexV [] [] = 0 := rfl
theorem lexV_tr : ∀ x y z : LV, Tr (lexV x y) (lexV y z) (lexV x z)
  | [], [], [] => by rw [lexV_00]; unfold Tr; decide
  | [], [], c :: z => by rw [lexV_00, lexV_0s]; unfold Tr; decide
  | [], b :: y, [] => by rw [lexV_00, lexV_0s, lexV_s0]; unfold Tr; decide
  | a :: x, [], [] => by rw [lexV_00, lexV_s0]; unfold Tr; decide
  | [], b :: y, c :: z => by rw [lexV_0s, lexV_0s]; unfold Tr; omega
  | a :: x, [], c :: z => by rw [lexV_s0, lexV_0s]; unfold Tr; omega
  | a :: x, b :: y, [] => by rw [lexV_s0, lexV_s0]; unfold Tr; omega
  | a :: x, b :: y, c :: z => by
    rw [lexV_cons, lexV_cons, lexV_cons]
    exact (cmp3_tr a b c).lex (lexV_tr x y z)
def LtV (a b : LV) : Prop := lexV a b < 0
theorem LtV.irr (a : LV) : ¬ LtV a a := fun h => by unfold LtV at h; have := lexV_swap a a; omega
theorem LtV.tr {a b c : LV} (h1 : LtV a b) (h2 : LtV b c) : LtV a c := by
  unfold LtV at *
  obtain ⟨h3, _⟩ := lexV_tr a b c
  obtain ⟨h4, h5⟩ := h3 (by omega) (by omega)
  rcases Int.lt_or_eq_of_le h4 with h | h
  · exact h
  · have := (h5 h).1
    omega
theorem swo_V : SWO (ltOf lexV) where
  irrefl := fun x => by
    have := lexV_swap x x
    simp only [ltOf, decide_eq_false_iff_not]
    omega
  trans := fun x y z h1 h2 => by
    simp only [ltOf, decide_eq_true_eq] at *
    exact LtV.tr h1 h2
  ntrans := fun x y z h1 h2 => by
    simp only [ltOf, decide_eq_false_iff_not] at *
    have n1 := lexV_swap x y
    have n2 := lexV_swap y z
    have n3 := lexV_swap x z
    have := (lexV_tr z y x).1 (by omega) (by omega)
    omega
theorem pwV_eq : ∀ {L M : List LV}, L.Pairwise LtV → M.Pairwise LtV → (∀ x, x ∈ L ↔ x ∈ M) → L = M
  | [], [], _, _, _ => rfl
  | [], b :: M, _, _, h => by have := (h b).2 List.mem_cons_self; cases this
  | a :: L, [], _, _, h => by have := (h a).1 List.mem_cons_self; cases this
  | a :: L, b :: M, h1, h2, h => by
    rw [List.pairwise_cons] at h1 h2
    have hab : a = b := by
      rcases List.mem_cons.1 ((h a).1 List.mem_cons_self) with e | e
      · exact e
      · rcases List.mem_cons.1 ((h b).2 List.mem_cons_self) with e2 | e2
        · exact e2.symm
        · exact absurd (LtV.tr (h1.1 b e2) (h2.1 a e)) (LtV.irr a)
    subst hab
    rw [pwV_eq h1.2 h2.2 fun x => ⟨fun hx => ?_, fun hx => ?_⟩]
    · rcases List.mem_cons.1 ((h x).1 (List.mem_cons_of_mem _ hx)) with e | e
      · subst e; exact absurd (h1.1 x hx) (LtV.irr x)
      · exact e
    · rcases List.mem_cons.1 ((h x).2 (List.mem_cons_of_mem _ hx)) with e | e
      · subst e; exact absurd (h2.1 x hx) (LtV.irr x)
      · exact e
def lvC (L : List LV) : List SV := L.map fun x => VL x
theorem lvC_len (L : List LV) : (lvC L).length = L.length := List.length_map _
theorem lvC_get {L : List LV} {j : Nat} (h : j < L.length) : (lvC L).getD j .any = VL (L.getD j []) := by
  unfold lvC
  simp [List.getD_eq_getElem?_getD, h]
theorem lvC_set (L : List LV) (j : Nat) (v : LV) : (lvC L).set j (VL v) = lvC (L.set j v) := by
  unfold lvC
  rw [List.map_set]
theorem lvC_take (L : List LV) (j : Nat) : (lvC L).take j = lvC (L.take j) := by
  unfold lvC
  rw [List.map_take]
theorem lvC_snoc (L : List LV) (v : LV) : lvC L ++ [VL v] = lvC (L ++ [v]) := by
  unfold lvC
  rw [List.map_append]
  rfl
def IsOrd (A W : List LV) : Prop := A.Pairwise LtV ∧ ∀ x, x ∈ A ↔ x ∈ W
theorem IsOrd.uniq {A B W : List LV} (h1 : IsOrd A W) (h2 : IsOrd B W) : A = B := pwV_eq h1.1 h2.1 fun x => (h1.2 x).trans (h2.2 x).symm
def newV (l : List LV) (i : Nat) : Bool := decide (i = 0) || !(decide (lexV (l.getD i []) (l.getD (i - 1) []) = 0))
def cptI (l : List LV) : Nat → List LV
  | 0 => []
  | i + 1 => cptI l i ++ if newV l i = true then [l.getD i []] else []
theorem cptI_len (l : List LV) : ∀ i, (cptI l i).length ≤ i
  | 0 => Nat.le_refl _
  | i + 1 => by
    have := cptI_len l i
    unfold cptI
    rw [List.length_append]
    split
    · simp; omega
    · simp; omega
theorem takeV_succ {l : List LV} {i : Nat} (h : i < l.length) : l.take (i + 1) = l.take i ++ [l.getD i []] := by
  rw [List.take_succ_eq_append_getElem h, show l.getD i [] = l[i] by simp [List.getD_eq_getElem?_getD, h]]
theorem cptI_ord {l : List LV} (hs : l.Pairwise fun x y => ltOf lexV y x = false) : ∀ i, i ≤ l.length → IsOrd (cptI l i) (l.take i)
  | 0, _ => ⟨.nil, fun x => by simp [cptI]⟩
  | i + 1, hi => by
    obtain ⟨h1, h2⟩ := cptI_ord hs i (by omega)
    have hil : i < l.length := by omega
    have g : l.getD i [] = l[i] := by simp [List.getD_eq_getElem?_getD, hil]
    unfold cptI
    rw [takeV_succ hil]
    by_cases hn : newV l i = true
    · rw [if_pos hn]
      refine ⟨?_, fun x => by rw [List.mem_append, List.mem_append, h2 x]⟩
      rw [List.pairwise_append]
      refine ⟨h1, by simp, fun x hx y hy => ?_⟩
      rw [List.mem_singleton] at hy
      subst hy
      have hx2 := (h2 x).1 hx
      obtain ⟨j, hj, rfl⟩ := List.mem_take_iff_getElem.1 hx2
      have hi0 : 0 < i := by omega
      have hil2 : i - 1 < l.length := by omega
      have g1 : l.getD (i - 1) [] = l[i - 1] := by simp [List.getD_eq_getElem?_getD, hil2]
      unfold newV at hn
      rw [decide_eq_false (by omega), Bool.false_or, g, g1] at hn
      simp only [Bool.not_eq_true', decide_eq_false_iff_not] at hn
      rw [List.pairwise_iff_getElem] at hs
      have k1 := hs (i - 1) i hil2 hil (by omega)
      have k2 : ¬ lexV l[i - 1] l[j] < 0 := by
        rcases Nat.lt_or_ge j (i - 1) with h | h
        · have := hs j (i - 1) (by omega) hil2 h
          simpa [ltOf] using this
        · obtain rfl : j = i - 1 := by omega
          exact LtV.irr _
      simp only [ltOf, decide_eq_false_iff_not] at k1
      unfold LtV
      rw [g]
      have n1 := lexV_swap l[i - 1] l[i]
      have n2 := lexV_swap l[i - 1] l[j]
      obtain ⟨k3, k4⟩ := (lexV_tr l[j] l[i - 1] l[i]).1 (by omega) (by omega)
      rcases Int.lt_or_eq_of_le k3 with h | h
      · exact h
      · have := (k4 h).2
        omega
    · rw [if_neg hn, List.append_nil]
      refine ⟨h1, fun x => ?_⟩
      rw [h2 x, List.mem_append, List.mem_singleton]
      refine ⟨.inl, fun h => ?_⟩
      rcases h with h | rfl
      · exact h
      · rw [Bool.not_eq_true] at hn
        unfold newV at hn
        rw [Bool.or_eq_false_iff] at hn
        obtain ⟨h3, h4⟩ := hn
        simp only [Bool.not_eq_false', decide_eq_true_eq, decide_eq_false_iff_not] at h3 h4
        have e := lexV_zero.1 h4
        rw [e]
        have hil2 : i - 1 < l.length := by omega
        have g1 : l.getD (i - 1) [] = l[i - 1] := by simp [List.getD_eq_getElem?_getD, hil2]
        rw [g1]
        exact List.mem_take_iff_getElem.2 ⟨i - 1, by omega, rfl⟩
theorem cpt_ord {l W : List LV} (hs : l.Pairwise fun x y => ltOf lexV y x = false) (hp : l.Perm W) : IsOrd (cptI l l.length) W := by
  obtain ⟨h1, h2⟩ := cptI_ord hs l.length (Nat.le_refl _)
  rw [List.take_length] at h2
  exact ⟨h1, fun x => (h2 x).trans hp.mem_iff⟩
def ordV (W : List LV) : List LV := cptI (W.mergeSort fun x y => !(ltOf lexV) y x) (W.mergeSort fun x y => !(ltOf lexV) y x).length
theorem ordV_ord (W : List LV) : IsOrd (ordV W) W := by
  refine cpt_ord ?_ (List.mergeSort_perm W _)
  have h1 := List.pairwise_mergeSort (le := fun x y => !(ltOf lexV) y x) (fun a b c h1 h2 => by
    simp only [Bool.not_eq_true'] at *
    exact swo_V.ntrans c b a h2 h1) (fun a b => by
    have n1 := lexV_swap a b
    simp only [ltOf, Bool.or_eq_true, Bool.not_eq_true', decide_eq_false_iff_not]
    omega) W
  exact h1.imp fun h => by simpa using h
theorem IsOrd.eq {A W : List LV} (h : IsOrd A W) : A = ordV W := h.uniq (ordV_ord W)
end Go.Ab.A15
namespace Go.Proofs.YtpidncgibgiidaaGreat
open Go Go.Ab Go.Ab.A34 Go.Ab.A15 Go.Ab.A01 Go.Sort Go.Shelf Go.RowKit
variable [Gl] [Tabs]
theorem fl_one1 {E : Env} {v : Value} {n sz : Nat} {f : Nat → List SV} (hr : Rep E v (.fl n sz f)) : v.oneCell' = true := by cases hr <;> rfl
theorem sort_v (b : Nat) (l : List LV) (hne : l ≠ []) (hl : l.length ≤ 1000000000) (hs : ∀ r ∈ l, r.length ≤ 1000) :
    Ab.Call Tryz.prog 75 [.os b 0 l.length 1, .fn (.func 72) [] []] [(b, .svs (lvC l))] (fun r h' => r = .tup [] ∧ ∃ s : List LV, s.Perm l ∧ s.Pairwise (fun x y => ltOf lexV y x = false) ∧ h' = [(b, .svs (lvC s))]) :=
  Call.sortP (P := Tryz.prog) (ρ := Tryz.sortM_ren) Tryz.sortM ⟨_, Tryz.func75, by kernel_rfl, by kernel_rfl⟩ (fun r => VL r) (fun x E v hr => fl_one1 hr) lexV swo_V 72 (Go.Proofs.enters_of Tryz.func72 (by kernel_rfl) rfl) b l hne (by omega) (fun x hx y hy => ord_v x y (hs x hx) (hs y hy))
theorem sort_vn : PCall Tryz.prog 75 [SN, .fn (.func 72) [] []] (.tup []) :=
  Call.sortQ0 (P := Tryz.prog) (ρ := Tryz.sortM_ren) { Tryz.sortM with } ⟨_, Tryz.func75, by kernel_rfl, by kernel_rfl⟩ 72
end Go.Proofs.YtpidncgibgiidaaGreat
namespace Go.Ab.A15
open Go Go.Ab Go.Ab.A34
theorem posF_tab (x : ByteArray) : ∀ (l : List Tb) (i : Nat), posF (fun t => decide (t.name = x)) i l = tabI x i l
  | [], i => rfl
  | t :: l, i => by
    unfold posF tabI
    by_cases h : t.name = x
    · rw [if_pos h, if_pos (decide_eq_true h)]
    · rw [if_neg h, if_neg (by rw [decide_eq_false h]; simp), posF_tab x l (i + 1)]
def tabAt (db : List Tb) (x : ByteArray) : Tb := db.getD (idxN x (nmsOf db)) t0
def covS (db : List Tb) (d : Dp) : Int × Int × Int := if (rowsAt db d.f).length = 0 then (1, 1, 0) else mkR (((rowsAt db d.f).length : Int) - ((violS (rowsAt db d.f) (rowsAt db d.t) d.l d.r).length : Int)) ((rowsAt db d.f).length : Int)
theorem mkR_one : mkR 1 1 = (1, 1, 0) := by decide
theorem viol_le (F T : List R3) (a b : List Int) : (violS F T a b).length ≤ F.length := violP_len F T a b F.length
end Go.Ab.A15
namespace Go.Proofs.YtpidncgibgiidaaGreat
open Go Go.Ab Go.Ab.A34 Go.Ab.A15 Go.Ab.A01
variable [Gl] [Tabs]
theorem nm_f (nm : ByteArray) (d : Tb) : PCall Tryz.prog 108 (TB d :: [.fp [Str nm]]) (SB (decide (d.name = nm))) := by
  obtain ⟨dn, da, dr⟩ := d
  have h1 := @barr_eq dn nm
  have h2 : (dn.toList == nm.toList) = decide (dn = nm) := by rw [Bool.eq_iff_iff, decide_eq_true_eq]; exact h1
  refine Call.enter' (N := 8) (rs := [.tmp 3]) Tryz.func108 rfl rfl rfl (by decide) rfl ?_; simp only [argT]; have hD : (0 : Nat) = 0 := rfl
  repeat' first | (refine SW.seq_k fun K hK => ?_) | ((first | refine SW.region ?_ | refine SW.ret ?_ | (refine allF_i fun b hb => ?_; replace hD := And.intro hb hD; clear hb; try simp only [fresh_cons, fresh_nil, and_true, ne_eq, neF] at hD)); try simp only [go_sem, hD, h2, true_implies]) | (apply hK; clear hK K)
  refine ret_pure ?_; simp only [resL_tmp, resL_nil, tupOf, go_sem, hD]
theorem named_p (db : List Tb) (nm : ByteArray) (hn : db.length ≤ 1000000) (hm : nm ∈ nmsOf db) : PCall Tryz.prog 69 [DB db, Str nm] (TB (tabAt db nm)) := by
  have cf := indexF_t 108 [.fp [Str nm]] (fun t => decide (t.name = nm)) db db.length (tF db) rfl (fun _ _ => rfl) hn (fun d _ => nm_f nm d)
  rw [posF_tab, tabI_idx hm, Nat.zero_add] at cf
  have hl := idxN_lt hm
  have hl2 : idxN nm (nmsOf db) < db.length := by unfold nmsOf at hl; rwa [List.length_map] at hl
  unfold tabAt
  generalize idxN nm (nmsOf db) = j at *
  have j0 : ¬ ((j : Nat) : Int) < 0 := by omega
  have j1 : (0 : Int) ≤ ((j : Nat) : Int) := by omega
  have j2 : ((j : Nat) : Int) < ((db.length : Nat) : Int) := by omega
  have j3 : ((j : Nat) : Int).toNat = j := Int.toNat_natCast _
  have fj : tF db j = tC (db.getD j t0) := rfl
  generalize db.getD j t0 = t at *
  obtain ⟨tn, ta, tr⟩ := t
  refine Call.enter' (N := 18) (rs := [.cell 4 72]) Tryz.func69 rfl rfl rfl (by decide) rfl ?_; simp only [argT]; have hD : (0 : Nat) = 0 := rfl
  repeat' first | ((refine Ab.SW.le (St.le_freezeP (i := 3) (n := 1) rfl (by simp [find_cons, hD]; rfl) (by exact Nat.le_refl 1)) ?_); (simp only [getN, Blk.get, go_sem, hD])) | (refine SW.seq_k fun K hK => ?_) | ((first | refine SW.region ?_ | refine SW.cond ?_ | refine SW.skip ?_ | refine SW.ret ?_ | refine Call.of_pure (cf) ?_ | (refine allF_i fun b hb => ?_; replace hD := And.intro hb hD; clear hb; try simp only [fresh_cons, fresh_nil, and_true, ne_eq, neF] at hD)); try simp only [go_sem, hD, j0, j1, j2, j3, fj, true_implies]) | (apply hK; clear hK K)
  all_goals
    apply ret_cell (i := 4) (n := 3); exact rfl; (simp only [go_sem, hD]; try rfl); (first | exact Nat.le_refl _ | decide); simp only [resL_tmp, resL_cellE, resC_ok, resL_nil, tupOf, getN, go_sem, hD]
theorem coverage_p (db : List Tb) (d : Dp) (hdb : db.length ≤ 1000000) (hd : OkD d) (hn : OkN db) (h : vE db d = 0) : PCall Tryz.prog 31 [DB db, DV d] (FR (covS db d)) := by
  have cv := viol_p db d (by omega) hd hn h
  obtain ⟨V, F⟩ := vE_ok h
  have kf := (rows_k V F.f).n
  have cn := named_p db d.f hdb F.f
  have hvl := viol_le (rowsAt db d.f) (rowsAt db d.t) d.l d.r
  have hr : (tabAt db d.f).rows = rowsAt db d.f := rfl
  have c1 := make_p 1 1 (by omega) (by omega) (by omega) (by omega)
  rw [mkR_one] at c1
  have c2 := make_p (((rowsAt db d.f).length : Int) - ((violS (rowsAt db d.f) (rowsAt db d.t) d.l d.r).length : Int)) ((rowsAt db d.f).length : Int) (by omega) (by omega) (by omega) (by omega)
  unfold covS
  have wk : IntKind.i64.wrap (((rowsAt db d.f).length : Int) - ((violS (rowsAt db d.f) (rowsAt db d.t) d.l d.r).length : Int)) = ((rowsAt db d.f).length : Int) - ((violS (rowsAt db d.f) (rowsAt db d.t) d.l d.r).length : Int) := by rw [i64_wrap (by omega) (by omega)]
  have wk2 : IntKind.i64.wrap ((rowsAt db d.f).length : Int) = ((rowsAt db d.f).length : Int) := by rw [i64_wrap (by omega) (by omega)]
  generalize violS (rowsAt db d.f) (rowsAt db d.t) d.l d.r = W at *
  rw [← hr] at *
  clear hr
  generalize tabAt db d.f = t at *
  obtain ⟨tn, ta, tr⟩ := t
  obtain ⟨df, dl, dt, dr⟩ := d
  simp only at *
  by_cases h0 : tr.length = 0
  · rw [if_pos h0]
    have z0 : ((tr.length : Nat) : Int) = 0 := by omega
    refine Call.enter' (N := 42) (rs := [.cell 4 61, .tmp 5]) Tryz.func31 rfl rfl rfl (by decide) rfl ?_; simp only [argT]; have hD : (0 : Nat) = 0 := rfl
    repeat' first | (refine SW.seq_k fun K hK => ?_) | ((first | refine SW.region ?_ | refine SW.cond ?_ | refine SW.skip ?_ | refine SW.ret ?_ | refine Call.of_pure (cv) ?_ | refine Call.of_pure (cn) ?_ | refine Call.of_pure (c1) ?_ | (refine allF_i fun b hb => ?_; replace hD := And.intro hb hD; clear hb; try simp only [fresh_cons, fresh_nil, and_true, ne_eq, neF] at hD)); try simp only [go_sem, hD, z0, true_implies]) | (apply hK; clear hK K)
    all_goals
      apply ret_cell (i := 4) (n := 2); exact rfl; (simp only [go_sem, hD]; try rfl); (first | exact Nat.le_refl _ | decide); simp only [resL_tmp, resL_cellE, resC_ok, resL_nil, tupOf, getN, go_sem, hD]
  · rw [if_neg h0]
    have z0 : ¬ ((tr.length : Nat) : Int) = 0 := by omega
    generalize mkR (((tr.length : Nat) : Int) - ((W.length : Nat) : Int)) ((tr.length : Nat) : Int) = M at *
    obtain ⟨m1, m2, m3⟩ := M
    refine Call.enter' (N := 42) (rs := [.cell 4 61, .tmp 5]) Tryz.func31 rfl rfl rfl (by decide) rfl ?_; simp only [argT]; have hD : (0 : Nat) = 0 := rfl
    repeat' first | (refine SW.seq_k fun K hK => ?_) | ((first | refine SW.region ?_ | refine SW.cond ?_ | refine SW.skip ?_ | refine SW.ret ?_ | refine Call.of_pure (cv) ?_ | refine Call.of_pure (cn) ?_ | refine Call.of_pure (c2) ?_ | (refine allF_i fun b hb => ?_; replace hD := And.intro hb hD; clear hb; try simp only [fresh_cons, fresh_nil, and_true, ne_eq, neF] at hD)); try simp only [go_sem, hD, z0, wk, wk2, true_implies]) | (apply hK; clear hK K)
    all_goals
      apply ret_cell (i := 4) (n := 2); exact rfl; (simp only [go_sem, hD]; try rfl); (first | exact Nat.le_refl _ | decide); simp only [resL_tmp, resL_cellE, resC_ok, resL_nil, tupOf, getN, go_sem, hD]
end Go.Proofs.YtpidncgibgiidaaGreat
namespace Go.Ab.A15
open Go Go.Ab Go.Ab.A34
def woL (l : List Int) (p : Nat) : List Int := l.take p ++ l.drop (p + 1)
abbrev iC (l : List Int) : List SV := l.map fun x => I64 x
theorem iC_all (l : List Int) : (iC l).all single = true := by
  rw [List.all_eq_true]
  intro x hx
  obtain ⟨y, _, rfl⟩ := List.mem_map.1 hx
  rfl
theorem fl_take (l : List Int) (p : Nat) (hp : p ≤ l.length) : flCells (fun i => iF l i) p = iC (l.take p) := by
  have h := fl_map (l.take p)
  rw [List.length_take, Nat.min_eq_left hp] at h
  rw [iC, ← h]
  unfold flCells
  have : ∀ m, m ≤ p → (List.range m).flatMap (fun i => iF l i) = (List.range m).flatMap (iF (l.take p)) := fun m hm => by
    refine congrArg List.flatten (List.map_congr_left fun i hi => ?_)
    rw [List.mem_range] at hi
    unfold iF
    rw [List.getD_eq_getElem?_getD, List.getD_eq_getElem?_getD, List.getElem?_take_of_lt (by omega)]
  exact this p (Nat.le_refl _)
theorem fl_drop (l : List Int) (p n : Nat) (hn : n = l.length - p) : flCells (fun i => iF l (p + i)) n = iC (l.drop p) := by
  subst hn
  have h := fl_map (l.drop p)
  rw [List.length_drop] at h
  rw [iC, ← h]
  unfold flCells
  refine congrArg List.flatten (List.map_congr_left fun i hi => ?_)
  unfold iF
  rw [List.getD_eq_getElem?_getD, List.getD_eq_getElem?_getD, List.getElem?_drop]
end Go.Ab.A15
namespace Go.Proofs.YtpidncgibgiidaaGreat
open Go Go.Ab Go.Ab.A34 Go.Ab.A15
variable [Gl] [Tabs]
end Go.Proofs.YtpidncgibgiidaaGreat
namespace Go.Ab
open Go Go.RowKit
theorem Call.nd [Gl] {P : Program} {f : FuncId} {args : List SV} {h : Heap} {Q : SV → Heap → Prop} (hc : (h.map (·.1)).Nodup → Call P f args h Q) : Call P f args h Q := ⟨fun M w vs own hr => (hc own.nodup).out M w vs own hr⟩
theorem Call.permN [Gl] {P : Program} {f : FuncId} {args : List SV} {h h' : Heap} {Q : SV → Heap → Prop} (hc : Call P f args h' Q) (hp : h'.Perm h) : Call P f args h Q := Call.perm hc (fun x => hp.mem_iff) (fun hn => (hp.map _).nodup_iff.2 hn)
theorem SW.nd [Gl] {P : Program} {N : Nat} {c : Code} {Q : Exit → St → Prop} {S : St} (h : (S.h.map (·.1)).Nodup → SW P N c Q S) : SW P N c Q S := ⟨fun M w0 D a w hr => (h hr.own.nodup).run M w0 D a w hr⟩
end Go.Ab
namespace Go.Ab.A15
open Go Go.Ab Go.Ab.A34
def canB (same : Bool) (l r : List Int) : Bool := decide (l ≠ [] ∧ l.length = r.length ∧ l.Pairwise (· < ·) ∧ r.Nodup) && (!same || (l.zip r).all fun p => !(p.1 == p.2))
theorem canB_iff {same : Bool} {l r : List Int} : canB same l r = true ↔ l ≠ [] ∧ l.length = r.length ∧ l.Pairwise (· < ·) ∧ r.Nodup ∧ (same = true → ∀ p ∈ l.zip r, p.1 ≠ p.2) := by
  unfold canB
  rw [Bool.and_eq_true, decide_eq_true_eq, Bool.or_eq_true, Bool.not_eq_true', List.all_eq_true]
  constructor
  · rintro ⟨⟨h1, h2, h3, h4⟩, h5⟩
    refine ⟨h1, h2, h3, h4, fun hs p hp => ?_⟩
    rcases h5 with h5 | h5
    · rw [hs] at h5; cases h5
    · simpa using h5 p hp
  · rintro ⟨h1, h2, h3, h4, h5⟩
    refine ⟨⟨h1, h2, h3, h4⟩, ?_⟩
    cases same with
    | false => exact .inl rfl
    | true => exact .inr fun p hp => by simpa using h5 rfl p hp
theorem pw_last {l : List Int} (h : l.Pairwise (· < ·)) {x : Int} (hx : l.getLast? = some x) : ∀ y ∈ l, y ≤ x := by
  induction l with
  | nil => simp at hx
  | cons a l ih =>
    rw [List.pairwise_cons] at h
    intro y hy
    cases l with
    | nil =>
      simp at hx hy
      omega
    | cons b l =>
      rw [List.getLast?_cons_cons] at hx
      have h2 := ih h.2 hx
      rcases List.mem_cons.1 hy with rfl | hy
      · have := h.1 b List.mem_cons_self
        have := h2 b List.mem_cons_self
        omega
      · exact h2 y hy
theorem pw_snoc {l : List Int} {a : Int} (h : l.Pairwise (· < ·)) (h0 : ∀ x ∈ l, 0 ≤ x) (ha : (fstX l : Int) ≤ a) : (l ++ [a]).Pairwise (· < ·) := by
  rw [List.pairwise_append]
  refine ⟨h, by simp, fun x hx y hy => ?_⟩
  rw [List.mem_singleton] at hy
  subst hy
  unfold fstX at ha
  cases hl : l.getLast? with
  | none =>
    rw [List.getLast?_eq_none_iff] at hl
    rw [hl] at hx
    cases hx
  | some z =>
    rw [hl] at ha
    have h1 := pw_last h hl x hx
    have h2 := h0 x hx
    simp only at ha
    omega
theorem nodup_snoc {r : List Int} {b : Int} : (r ++ [b]).Nodup ↔ r.Nodup ∧ b ∉ r := by
  rw [List.nodup_append]
  constructor
  · rintro ⟨h1, _, h3⟩
    exact ⟨h1, fun hm => h3 b hm b (by simp) rfl⟩
  · rintro ⟨h1, h2⟩
    refine ⟨h1, by simp, fun x hx y hy e => ?_⟩
    rw [List.mem_singleton] at hy
    rw [hy] at e
    exact h2 (e ▸ hx)
def okP (same : Bool) (l r : List Int) : Prop := (l = [] ∧ r = []) ∨ canB same l r = true
theorem canB_snoc {same : Bool} {l r : List Int} {a b : Int} (h : okP same l r) (h0 : ∀ x ∈ l, 0 ≤ x) (ha : (fstX l : Int) ≤ a) : canB same (l ++ [a]) (r ++ [b]) = true ↔ b ∉ r ∧ ¬ (same = true ∧ a = b) := by
  have hb : l.length = r.length ∧ l.Pairwise (· < ·) ∧ r.Nodup ∧ (same = true → ∀ p ∈ l.zip r, p.1 ≠ p.2) := by
    rcases h with ⟨rfl, rfl⟩ | h
    · simp
    · exact (canB_iff.1 h).2
  obtain ⟨h1, h2, h3, h4⟩ := hb
  have hz : (l ++ [a]).zip (r ++ [b]) = l.zip r ++ [(a, b)] := List.zip_append h1
  rw [canB_iff, nodup_snoc, hz]
  constructor
  · rintro ⟨_, _, _, ⟨_, q1⟩, q2⟩
    exact ⟨q1, fun ⟨s, e⟩ => q2 s (a, b) (by simp) e⟩
  · rintro ⟨q1, q2⟩
    refine ⟨by simp, by simp [h1], pw_snoc h2 h0 ha, ⟨h3, q1⟩, fun s p hp => ?_⟩
    rw [List.mem_append, List.mem_singleton] at hp
    rcases hp with hp | rfl
    · exact h4 s p hp
    · exact fun e => q2 ⟨s, e⟩
theorem canB_pre {same : Bool} {l r a b : List Int} (h : canB same (l ++ a) (r ++ b) = true) (hl : l.length = r.length) (h0 : 0 < l.length) : canB same l r = true := by
  rw [canB_iff] at h ⊢
  obtain ⟨_, _, h3, h4, h5⟩ := h
  refine ⟨fun e => by rw [e] at h0; simp at h0, hl, (List.pairwise_append.1 h3).1, (List.nodup_append.1 h4).1, fun s p hp => h5 s p ?_⟩
  rw [List.zip_append hl]
  exact List.mem_append_left _ hp
theorem hM_pre {F T : List R3} {l r a b : List Int} (h : hM F T (l ++ a) (r ++ b) = true) (hl : l.length = r.length) : hM F T l r = true := by
  unfold hM at h ⊢
  rw [Bool.not_eq_true', List.any_eq_false] at h ⊢
  intro x hx
  have h1 := h x hx
  rw [Bool.not_eq_true, Bool.not_eq_false', List.any_eq_true] at h1 ⊢
  obtain ⟨y, hy, e⟩ := h1
  refine ⟨y, hy, ?_⟩
  unfold agB at e ⊢
  rw [List.all_eq_true] at e ⊢
  intro i hi
  rw [List.mem_range] at hi
  have h2 := e i (by rw [List.mem_range, List.length_append]; omega)
  rw [getD_app hi, getD_app (show i < r.length by omega)] at h2
  exact h2
def qB (f t : Tb) (same : Bool) (l r : List Int) : Bool := canB same l r && (l.all fun x => decide (0 ≤ x ∧ x < (f.attrs.length : Int))) && (r.all fun x => decide (0 ≤ x ∧ x < (t.attrs.length : Int))) && hM f.rows t.rows l r
theorem qB_iff {f t : Tb} {same : Bool} {l r : List Int} : qB f t same l r = true ↔ canB same l r = true ∧ InA f.attrs.length l ∧ InA t.attrs.length r ∧ hM f.rows t.rows l r = true := by
  unfold qB InA
  simp only [Bool.and_eq_true, List.all_eq_true, decide_eq_true_eq, and_assoc]
theorem qB_pq (f t : Tb) (same : Bool) : Pq (qB f t same) f.attrs.length t.attrs.length where
  len := fun h => (canB_iff.1 (qB_iff.1 h).1).2.1
  pre := fun h hl h0 => by
    obtain ⟨h1, h2, h3, h4⟩ := qB_iff.1 h
    exact qB_iff.2 ⟨canB_pre h1 hl h0, fun x hx => h2 x (List.mem_append_left _ hx), fun x hx => h3 x (List.mem_append_left _ hx), hM_pre h4 hl⟩
  inl := fun h => (qB_iff.1 h).2.1
  inr := fun h => (qB_iff.1 h).2.2.1
  asc := fun h => (canB_iff.1 (qB_iff.1 h).1).2.2.1
theorem qB_nil (f t : Tb) (same : Bool) : qB f t same [] [] = false := by
  unfold qB canB
  simp
def okQ (f t : Tb) (same : Bool) (l r : List Int) : Prop := (l = [] ∧ r = []) ∨ qB f t same l r = true
theorem okQ.len {f t : Tb} {same : Bool} {l r : List Int} (h : okQ f t same l r) : l.length = r.length := by
  rcases h with ⟨rfl, rfl⟩ | h
  · rfl
  · exact (qB_pq f t same).len h
theorem okQ.inl {f t : Tb} {same : Bool} {l r : List Int} (h : okQ f t same l r) : InA f.attrs.length l := by
  rcases h with ⟨rfl, rfl⟩ | h
  · exact fun x hx => by cases hx
  · exact (qB_iff.1 h).2.1
theorem okQ.inr {f t : Tb} {same : Bool} {l r : List Int} (h : okQ f t same l r) : InA t.attrs.length r := by
  rcases h with ⟨rfl, rfl⟩ | h
  · exact fun x hx => by cases hx
  · exact (qB_iff.1 h).2.2.1
theorem okQ.okP {f t : Tb} {same : Bool} {l r : List Int} (h : okQ f t same l r) : okP same l r := h.imp id fun h => (qB_iff.1 h).1
theorem okQ.fst_le {f t : Tb} {same : Bool} {l r : List Int} (h : okQ f t same l r) : fstX l ≤ f.attrs.length := by
  unfold fstX
  cases hl : l.getLast? with
  | none => exact Nat.zero_le _
  | some x =>
    have := h.inl x (List.mem_of_getLast? hl)
    simp only
    omega
theorem qB_snoc {f t : Tb} {same : Bool} {l r : List Int} {a b : Nat} (h : okQ f t same l r) (ha : fstX l ≤ a) (ha2 : a < f.attrs.length) (hb : b < t.attrs.length) : qB f t same (l ++ [(a : Int)]) (r ++ [(b : Int)]) = true ↔ ((b : Int) ∉ r ∧ ¬ (same = true ∧ (a : Int) = b)) ∧ hM f.rows t.rows (l ++ [(a : Int)]) (r ++ [(b : Int)]) = true := by
  rw [qB_iff, canB_snoc h.okP (fun x hx => (h.inl x hx).1) (by omega)]
  constructor
  · rintro ⟨h1, _, _, h4⟩
    exact ⟨h1, h4⟩
  · rintro ⟨h1, h4⟩
    refine ⟨h1, fun x hx => ?_, fun x hx => ?_, h4⟩
    · rcases List.mem_append.1 hx with hx | hx
      · exact h.inl x hx
      · rw [List.mem_singleton.1 hx]; omega
    · rcases List.mem_append.1 hx with hx | hx
      · exact h.inr x hx
      · rw [List.mem_singleton.1 hx]; omega
def FH (X : SV) (hx : Heap) (ds : List Dp) : Prop := (ds = [] ∧ X = SN ∧ hx = []) ∨ ∃ b, X = .os b 0 ds.length 4 ∧ hx = [(b, .svs (dCs ds))] ∧ ds ≠ []
def mkD (f t : Tb) (p : Pr) : Dp := ⟨f.name, p.1, t.name, p.2⟩
def stX (q : List Int → List Int → Bool) (nf nt k : Nat) (l r : List Int) (a b : Nat) : List Pr := if q (l ++ [(a : Int)]) (r ++ [(b : Int)]) then (l ++ [(a : Int)], r ++ [(b : Int)]) :: exS q nf nt k (l ++ [(a : Int)]) (r ++ [(b : Int)]) else []
def stY (q : List Int → List Int → Bool) (nf nt k : Nat) (l r : List Int) (a b : Nat) : List Pr := (rg b nt).flatMap (stX q nf nt k l r a)
def stZ (q : List Int → List Int → Bool) (nf nt k : Nat) (l r : List Int) (a : Nat) : List Pr := (rg a nf).flatMap fun a => stY q nf nt k l r a 0
theorem exS_eq {q : List Int → List Int → Bool} {nf nt k : Nat} {l r : List Int} : exS q nf nt (k + 1) l r = stZ q nf nt k l r (fstX l) := rfl
theorem stZ_step {q : List Int → List Int → Bool} {nf nt k : Nat} {l r : List Int} {a : Nat} (h : a < nf) : stZ q nf nt k l r a = stY q nf nt k l r a 0 ++ stZ q nf nt k l r (a + 1) := by
  unfold stZ
  rw [rg_step h, List.flatMap_cons]
theorem stZ_end {q : List Int → List Int → Bool} {nf nt k : Nat} {l r : List Int} {a : Nat} (h : nf ≤ a) : stZ q nf nt k l r a = [] := by
  unfold stZ
  rw [rg_end h]
  rfl
theorem stY_step {q : List Int → List Int → Bool} {nf nt k : Nat} {l r : List Int} {a b : Nat} (h : b < nt) : stY q nf nt k l r a b = stX q nf nt k l r a b ++ stY q nf nt k l r a (b + 1) := by
  unfold stY
  rw [rg_step h, List.flatMap_cons]
theorem stY_end {q : List Int → List Int → Bool} {nf nt k : Nat} {l r : List Int} {a b : Nat} (h : nt ≤ b) : stY q nf nt k l r a b = [] := by
  unfold stY
  rw [rg_end h]
  rfl
end Go.Ab.A15
