/- Several texts in one: OD, OF, UH, YD, YE, VA, VB, VC, YF, YG, YH, VD, VE, VF. -/
import Derived.Test.YtpidncgibgiidaaGreatQ6
import Derived.Test.YtpidncgibgiidaaGreatQ2
import Derived.Test.YtpidncgibgiidaaGreatQ3
import Derived.Test.YtpidncgibgiidaaGreatQ5
set_option linter.unusedSimpArgs false
set_option linter.unusedVariables false
set_option linter.unusedSectionVars false
set_option maxHeartbeats 8000000
set_option maxRecDepth 20000
namespace Go.Proofs.YtpidncgibgiidaaGreat
open Go Go.Ab Go.Ab.A34 Go.Ab.A15 Go.Ab.A01
variable [Gl] [Tabs]
theorem exE_fo2 (kb : Nat) (H : Heap) : Ab.Call Tryz.prog 24 [DB exT, .os kb 0 1 2] ((kb, .svs [Str ⟨#[115]⟩, U32 1]) :: H) (fun r h' => r = .tup [DpL [⟨⟨#[114]⟩, [0], ⟨#[115]⟩, [0]⟩, ⟨⟨#[114]⟩, [1], ⟨#[115]⟩, [0]⟩], I64 0] ∧ h' = H) :=
  Call.give (args := [DB exT, .os kb 0 1 2]) 1 (kyF keyE1) (by simp) rfl (by show 0 + 1 * 2 ≤ 2; omega) (fun j hj => by
    obtain rfl : j = 0 := by omega
    rfl) exE_fo
theorem le_i1 (i : Nat) (v : Int) {t : List (Nat × SV)} {h : Heap} {b : Nat} (hi : Ab.look t i = SV.os b 0 1 1) : (St.mk t ((b, .svs [I64 v]) :: h)).le ⟨(i, IL [v]) :: t, h⟩ := by
  refine (St.le_freeze (i := i) (b := b) (off := 0) (len := 1) (sz := 1) (k := .svs [I64 v]) hi (by rw [find_cons, if_pos rfl]) (by exact Nat.le_refl 1) (iF [v]) (fun j hj => ?_)).trans ?_
  · obtain rfl : j = 0 := by omega
    rfl
  · rw [del_head]
    exact St.le.refl _
theorem le_w4 {t : List (Nat × SV)} {h : Heap} {b : Nat} (hi : Ab.look t 4 = SV.os b 0 3 4) : (St.mk t ((b, .svs (dCs wantE)) :: h)).le ⟨(4, DpL wantE) :: t, h⟩ := by
  refine (St.le_freeze (i := 4) (b := b) (off := 0) (len := 3) (sz := 4) (k := .svs (dCs wantE)) hi (by rw [find_cons, if_pos rfl]) (by exact Nat.le_refl 12) (dpF wantE) (fun j hj => dCs_get wantE hj)).trans ?_
  rw [del_head]
  exact St.le.refl _
theorem awake_c : PCall Tryz.prog 11 [] (SB true) := by
  have e := ex_c
  have un := exE_un
  have mx := exE_mx
  have fo := exE_fo2
  have co := exE_co
  have sm := same_d wantE wantE (by decide) (by decide) wantE_s wantE_s
  rw [decide_eq_true rfl] at sm
  have s2 : ∀ d ∈ [(⟨⟨#[114]⟩, [0], ⟨#[115]⟩, [0]⟩ : Dp), ⟨⟨#[114]⟩, [1], ⟨#[115]⟩, [0]⟩], OkS d := fun d hd => wantE_s d (List.mem_cons_of_mem _ hd)
  have sm2 := same_d [(⟨⟨#[114]⟩, [0], ⟨#[115]⟩, [0]⟩ : Dp), ⟨⟨#[114]⟩, [1], ⟨#[115]⟩, [0]⟩] [(⟨⟨#[114]⟩, [0], ⟨#[115]⟩, [0]⟩ : Dp), ⟨⟨#[114]⟩, [1], ⟨#[115]⟩, [0]⟩] (by decide) (by decide) s2 s2
  rw [decide_eq_true rfl] at sm2
  generalize hT : exT = T at *
  clear hT
  refine Call.enter' (N := 86) (rs := [.tmp 0]) Tryz.func11 rfl rfl rfl (by decide) rfl ?_; simp only [argT]; have hD : (0 : Nat) = 0 := rfl
  repeat' first | ((refine Ab.SW.le (le_i1 3 0 (by rfl)) ?_)) | ((refine Ab.SW.le (le_i1 2 1 (by rfl)) ?_)) | ((refine Ab.SW.le (le_i1 1 0 (by rfl)) ?_)) | ((refine Ab.SW.le (le_w4 (by rfl)) ?_)) | ((with_reducible refine Call.mono (fo _ _) ?_); (intro rr h' hx); (obtain ⟨rfl, rfl⟩ := hx); (try simp only [go_sem, hD])) | (refine SW.seq_k fun K hK => ?_) | ((first | refine SW.region ?_ | refine Call.of_pure (e) ?_ | refine Call.of_pure (un) ?_ | refine Call.of_pure (mx) ?_ | refine Call.of_pure (co) ?_ | refine Call.of_pure (sm) ?_ | (refine allF_i fun b hb => ?_; replace hD := And.intro hb hD; clear hb; try simp only [fresh_cons, fresh_nil, and_true, ne_eq, neF] at hD)); try simp only [go_sem, hD, true_implies]) | (apply hK; clear hK K)
  refine ⟨⟨by decide, by decide⟩, ?_⟩
  have ew : (SV.fl (((wantE.length : Nat) : Int) - 1).toNat 4 fun i => dpF wantE (1 + i)) = DpL [(⟨⟨#[114]⟩, [0], ⟨#[115]⟩, [0]⟩ : Dp), ⟨⟨#[114]⟩, [1], ⟨#[115]⟩, [0]⟩] := by
    have ef : (fun i => dpF wantE (1 + i)) = dpF [(⟨⟨#[114]⟩, [0], ⟨#[115]⟩, [0]⟩ : Dp), ⟨⟨#[114]⟩, [1], ⟨#[115]⟩, [0]⟩] := by
      funext i
      rw [Nat.add_comm]
      rfl
    rw [ef]
    rfl
  rw [ew]
  repeat' first | ((first | refine SW.ret ?_ | refine Call.of_pure (sm2) ?_); try simp only [go_sem, hD, true_implies]) | (apply hK; clear hK K)
  refine ret_pure ?_; simp only [resL_tmp, resL_nil, tupOf, go_sem, hD]
end Go.Proofs.YtpidncgibgiidaaGreat
namespace Go.Ab.A15
open Go Go.Ab Go.Ab.A34 Go.Ab.A01
theorem code_in (c : Int) : inV (codeV c) := by
  unfold codeV inV
  repeat' split
  all_goals (constructor <;> decide)
theorem ofT_okn (d : List Rc) : OkN (ofT d) := fun t ht r hr v hv => by
  obtain ⟨i, _, rfl⟩ := List.mem_map.1 ht
  obtain ⟨k, _, rfl⟩ := List.mem_map.1 hr
  unfold rowS at hv
  obtain ⟨j, _, rfl⟩ := List.mem_map.1 hv
  exact code_in _
structure Sm (db : List Tb) : Prop where
  chk : chkS db = 0
  n3 : db.length ≤ 3
  a3 : ∀ t ∈ db, t.attrs.length ≤ 3
  okn : OkN db
  okdb : OkDb db
theorem sm_dra {d : List Rc} (h : goodD d) : Sm (ofT d) := by
  have Dr := ofT_dra h
  exact ⟨chkS_of Dr.vd (by have := Dr.n3; omega), Dr.n3, Dr.a3, ofT_okn d, dra_okdb Dr⟩
theorem Sm.chkD {db : List Tb} (h : Sm db) : chkD db = 0 := by
  unfold A15.chkD
  rw [if_pos h.chk, if_neg]
  rintro (h1 | h1)
  · have := h.n3; omega
  · obtain ⟨t, ht, h2⟩ := List.any_eq_true.1 h1
    have := h.a3 t ht
    have := of_decide_eq_true h2
    omega
open Classical in
theorem all_mem {db : List Tb} (h : Sm db) {ar : Nat} {d : Dp} (hd : d ∈ allP db ar 0) : CanD d ∧ vE db d = 0 ∧ hldB db d = true ∧ d.l.length ≤ ar ∧ d.l.length ≤ 3 ∧ d.l.length = d.r.length := by
  unfold allP rowP at hd
  obtain ⟨i, hi, hd⟩ := List.mem_flatMap.1 hd
  obtain ⟨k, hk, hd⟩ := List.mem_flatMap.1 hd
  have hi := (mem_rg.1 hi).2
  have hk := (mem_rg.1 hk).2
  unfold pairP at hd
  rw [(srtD_perm _).mem_iff, List.mem_map] at hd
  obtain ⟨p, hp, rfl⟩ := hd
  obtain ⟨h1, h2⟩ := (mem_ex (qB_pq _ _ _) (qB_nil _ _ _) ar p).1 hp
  have hl := q_len (qB_pq _ _ _) h1
  have hlr := (qB_pq _ _ _).len h1
  rw [← qR_iff h.chk hi hk] at h1
  unfold qR at h1
  rw [Bool.and_eq_true, decide_eq_true_eq] at h1
  have h5 := h1.2
  unfold hldB at h5
  rw [Bool.and_eq_true, decide_eq_true_eq] at h5
  have := h.a3 _ (getD_mem' t0 hi)
  exact ⟨h1.1, h5.1, h1.2, h2, by show p.1.length ≤ 3; omega, hlr⟩
end Go.Ab.A15
namespace Go.Proofs.YtpidncgibgiidaaGreat
open Go Go.Ab Go.Ab.A34 Go.Ab.A15 Go.Ab.A01
variable [Gl] [Tabs]
end Go.Proofs.YtpidncgibgiidaaGreat
namespace Go.Ab.A15
open Go Go.Ab Go.Ab.A34 Go.Ab.A01
theorem mkR_nat {a n : Nat} (hn : 0 < n) (ha : a ≤ n) (hb : n ≤ 1000000) : mkR (a : Int) (n : Int) = (((a / Nat.gcd a n : Nat) : Int), ((n / Nat.gcd a n : Nat) : Int), 0) := by
  have h1 := Nat.div_le_self a (Nat.gcd a n)
  have h2 := Nat.div_le_self n (Nat.gcd a n)
  have e1 : decide ((a : Int) < 0) = false := decide_eq_false (by omega)
  have e2 : decide ((n : Int) < 0) = false := decide_eq_false (by omega)
  unfold mkR bldR ofR
  rw [if_neg (by omega), e1, e2, Int.natAbs_natCast, Int.natAbs_natCast, if_pos (by omega)]
  rfl
end Go.Ab.A15
namespace Go.Proofs.YtpidncgibgiidaaGreat
open Go Go.Ab Go.Ab.A34 Go.Ab.A15 Go.Ab.A01
variable [Gl] [Tabs]
end Go.Proofs.YtpidncgibgiidaaGreat
namespace Go.Proofs.YtpidncgibgiidaaGreat
open Go Go.Ab Go.Ab.A34 Go.Ab.A15 Go.Ab.A01
variable [Gl] [Tabs]
end Go.Proofs.YtpidncgibgiidaaGreat
namespace Go.Ab.A15
open Go Go.Ab Go.Ab.A34 Go.Ab.A01
theorem posR_find (p : R3 → Bool) : ∀ (l : List R3) (k : Nat), (posF p k l = -1 ∧ ∀ x ∈ l, p x = false) ∨ ∃ n, n < l.length ∧ posF p k l = ((k + n : Nat) : Int) ∧ p (l.getD n r0) = true
  | [], k => .inl ⟨rfl, fun x hx => by cases hx⟩
  | y :: l, k => by
    unfold posF
    by_cases h : p y = true
    · rw [if_pos h]
      exact .inr ⟨0, by simp, rfl, h⟩
    · rw [if_neg h]
      rcases posR_find p l (k + 1) with ⟨h1, h2⟩ | ⟨n, h1, h2, h3⟩
      · refine .inl ⟨h1, fun x hx => ?_⟩
        rcases List.mem_cons.1 hx with rfl | hx
        · exact Bool.eq_false_iff.2 h
        · exact h2 x hx
      · exact .inr ⟨n + 1, by rw [List.length_cons]; omega, by rw [h2]; congr 1; omega, h3⟩
def fndI (R : List R3) (id : Int) (i : Nat) : Int := posF (fun r => decide (r.1 = id)) i (R.drop i)
theorem fndI_step {R : List R3} {id : Int} {i : Nat} (h : i < R.length) : fndI R id i = if (R.getD i r0).1 = id then (i : Int) else fndI R id (i + 1) := by
  unfold fndI
  rw [posF_step r0 h]
  by_cases e : (R.getD i r0).1 = id
  · rw [if_pos e, if_pos (decide_eq_true e)]
  · rw [if_neg e, if_neg (by rw [decide_eq_true_eq]; exact e)]
theorem fndI_end {R : List R3} {id : Int} {i : Nat} (h : R.length ≤ i) : fndI R id i = -1 := by
  unfold fndI
  rw [List.drop_eq_nil_of_le h]
  rfl
def fndV (z : Int) : SV := if z < 0 then .tup [I64 0, SB false] else .tup [I64 z, SB true]
theorem fnd_at {F : List R3} (h : F.Pairwise fun a b => a.1 < b.1) {x : R3} (hx : x ∈ F) : ∃ n, n < F.length ∧ fndI F x.1 0 = ((n : Nat) : Int) ∧ F.getD n r0 = x := by
  unfold fndI
  rw [List.drop_zero]
  rcases posR_find (fun r => decide (r.1 = x.1)) F 0 with ⟨_, h2⟩ | ⟨n, h1, h2, h3⟩
  · have := h2 x hx
    simp at this
  · rw [Nat.zero_add] at h2
    refine ⟨n, h1, h2, ids_inj h (getD_mem r0 h1) hx (of_decide_eq_true h3)⟩
end Go.Ab.A15
namespace Go.Proofs.YtpidncgibgiidaaGreat
open Go Go.Ab Go.Ab.A34 Go.Ab.A15 Go.Ab.A01
variable [Gl] [Tabs]
theorem find_rr (t : Tb) (id : Int) (hl : t.rows.length ≤ 1000000) : PCall Tryz.prog 79 [TB t, I64 id] (fndV (fndI t.rows id 0)) := by
  obtain ⟨R, hR⟩ : ∃ R, R = fndI t.rows id 0 := ⟨_, rfl⟩
  rw [← hR]
  obtain ⟨tn, ta, tr⟩ := t
  simp only at hl hR
  refine Call.enter' (N := 23) (rs := [.tmp 4, .tmp 5]) Tryz.func79 rfl rfl rfl (by decide) rfl ?_; simp only [argT]; have hD : (0 : Nat) = 0 := rfl
  repeat' first | (refine SW.seq_k fun K hK => ?_) | ((first | refine SW.region ?_ | (refine allF_i fun b hb => ?_; replace hD := And.intro hb hD; clear hb; try simp only [fresh_cons, fresh_nil, and_true, ne_eq, neF] at hD)); try simp only [go_sem, hD, true_implies]) | (apply hK; clear hK K)
  obtain ⟨xb, rfl⟩ : ∃ x, x = b := ⟨_, rfl⟩
  refine Ab.SW.le (S' := ⟨[(1, I64 id), (2, .fp [Str tn, SL ta, RL tr]), (6, I64 (0 : Nat))], []⟩) ?_ ?_
  · refine St.le.trans (St.le_freezeP (i := 2) (b := xb) (off := 0) (n := 3) (k := .svs [Str tn, SL ta, RL tr]) rfl (by rw [find_cons, if_pos rfl]) (by exact Nat.le_refl 3)) ?_
    rw [del_head]
    simp only [getN, Blk.get, go_sem, hD]
    exact St.le_sub (by repeat' (first | exact rfl | exact trivial | constructor))
  clear hD
  have hD : (0 : Nat) = 0 := rfl
  refine SW.block ?_
  obtain ⟨I, hI⟩ : ∃ I : Nat → St → Prop, ∀ k S, I k S ↔ (∃ (i : Nat) , k = tr.length - i ∧ i ≤ tr.length ∧ R = fndI tr id i ∧ S = ⟨[(1, I64 id), (2, .fp [Str tn, SL ta, RL tr]), (6, I64 i)], []⟩) := ⟨fun k S => _, fun _ _ => Iff.rfl⟩
  refine SW.loop' I (tr.length) ((hI _ _).2 ⟨0, rfl, Nat.zero_le _, hR, rfl⟩) (by repeat' (first | exact rfl | exact trivial | constructor)) ?_
  intro k S hIn
  obtain ⟨i, rfl, hi, hC, rfl⟩ := (hI _ _).1 hIn
  clear hIn
  have ie : ((i : Nat) : Int).toNat = i := Int.toNat_natCast _
  have i0 : (0 : Int) ≤ ((i : Nat) : Int) := by omega
  clear hR
  by_cases hlt : i < tr.length
  · have hli : ((i : Nat) : Int) < (((tr.length) : Nat) : Int) := by omega
    have w1 : IntKind.i64.wrap ((i : Int) + 1) = ((i + 1 : Nat) : Int) := by rw [i64_wrap (by omega) (by omega)]; omega
    rw [fndI_step hlt] at hC
    have fi : rF tr i = rC (tr.getD i r0) := rfl
    generalize tr.getD i r0 = r at *
    obtain ⟨r1, r2⟩ := r
    have fr : ∀ a b, rC (a, b) = [I64 a, VL b] := fun _ _ => rfl
    simp only at hC
    by_cases he : r1 = id
    · rw [if_pos he] at hC
      subst hC
      repeat' first | (refine SW.seq_k fun K hK => ?_) | (refine SW.block ?_) | ((first | refine SW.region ?_ | refine SW.cond ?_ | refine SW.skip ?_ | refine SW.ret ?_); try simp only [go_sem, hD, hli, ie, i0, w1, fi, fr, he, true_implies]) | (apply hK; clear hK K)
      refine ret_pure ?_; simp only [resL_tmp, resL_nil, tupOf, go_sem, hD]
      unfold fndV
      rw [if_neg (by omega)]
    · rw [if_neg he] at hC
      repeat' first | (refine SW.seq_k fun K hK => ?_) | (refine SW.block ?_) | ((first | refine SW.region ?_ | refine SW.cond ?_ | refine SW.skip ?_); try simp only [go_sem, hD, hli, ie, i0, w1, fi, fr, he, true_implies]) | (apply hK; clear hK K)
      refine Rnd.sub (tr.length - (i + 1)) (by omega) ((hI _ _).2 ⟨i + 1, rfl, by omega, hC, rfl⟩) (by repeat' (first | exact rfl | exact trivial | constructor))
  · have hli : ¬ ((i : Nat) : Int) < (((tr.length) : Nat) : Int) := by omega
    rw [fndI_end (by omega)] at hC
    subst hC
    repeat' first | (refine SW.seq_k fun K hK => ?_) | ((first | refine SW.region ?_ | refine SW.cond ?_ | refine SW.exit ?_ | refine SW.ret ?_); try simp only [go_sem, hD, hli, true_implies]) | (apply hK; clear hK K) | (clear hK K; apply hK; clear hK K)
    refine ret_pure ?_; simp only [resL_tmp, resL_nil, tupOf, go_sem, hD]
    unfold fndV
    rw [if_pos (by decide)]
end Go.Proofs.YtpidncgibgiidaaGreat
namespace Go.Ab
open Go Go.RowKit
theorem Call.frzG [Gl] {P : Program} {f : FuncId} {args : List SV} {h : Heap} {Q : SV → Heap → Prop} {r' : SV} (hc : Call P f args h Q) (hq : ∀ r h1, Q r h1 → ∃ a b x y, r = .agg [a, b, x] ∧ (St.mk [(2, x), (0, a), (1, b)] h1).le ⟨[(2, y), (0, a), (1, b)], []⟩ ∧ r' = .agg [a, b, y]) : Call P f args h (fun r h' => r = r' ∧ h' = []) :=
  ⟨fun M w vs own hr => (hc.out M w vs own hr).mono fun e w' ⟨v, r, h', he, hQ, hv, own', frm, hh⟩ => by
    obtain ⟨a, b, x, y, rfl, hle, rfl⟩ := hq _ _ hQ
    cases hv with
    | agg c _ hl hr2 =>
      have r1 : Rel M w' (fun _ => True) c.size (St.mk [(2, x), (0, a), (1, b)] h') ⟨c, []⟩ w' := by
        refine ⟨rfl, rfl, fun i => ?_, own', Frm.refl _ _, fun _ _ _ => trivial⟩
        match i with
        | 0 => exact hr2 0 (by simp)
        | 1 => exact hr2 1 (by simp)
        | 2 => exact hr2 2 (by simp)
        | i + 3 => exact .any _
      have r2 := hle M w' (fun _ => True) c.size ⟨c, []⟩ w' r1
      refine ⟨_, _, [], he, ⟨rfl, rfl⟩, .agg c _ (by simpa using hl) (fun j hj => ?_), r2.own, frm, fun b hb => by obtain ⟨k, hk⟩ := hb; cases hk⟩
      have : j = 0 ∨ j = 1 ∨ j = 2 := by have h : j < 3 := hj; omega
      rcases this with rfl | rfl | rfl
      · exact r2.t 0
      · exact r2.t 1
      · exact r2.t 2⟩
end Go.Ab
def Go.Ab.zVA_1 : Go.Ab.OZ := (.one 0 [0, 1, 8, 9, 10] (.one 1 [1, 8, 9, 10] (.one 2 [2, 4, 5, 6, 7, 8, 9, 10] (.one 3 [3, 4, 5, 6, 7, 8, 9, 10] (.one 4 [4, 5, 6, 7, 8, 9, 10] (.one 5 [5, 6, 7, 8, 9, 10] (.one 6 [6, 7, 8, 9, 10] (.alt 7 (.alt 8 (.one 9 [9, 10] (.alt 10 .done .nil)) .nil) .nil))))))))
namespace Go.Proofs.YtpidncgibgiidaaGreat
open Go Go.Ab Go.Ab.A34 Go.Ab.A15 Go.Ab.A01
variable [Gl] [Tabs]
theorem cp_r (r : R3) (hl : r.2.length ≤ 1000) : PCall Tryz.prog 84 [.agg (rC r)] (.agg (rC r)) := by
  have hfm := fl_vCs r.2
  have hvl := vCs_len r.2
  have hva := vCs_all r.2
  obtain ⟨r1, r2⟩ := r
  simp only at hl hfm hvl hva
  show PCall Tryz.prog 84 [.agg [I64 r1, VL r2]] (.agg [I64 r1, VL r2])
  have ba : (vCs r2).length * 32 ≤ 140737488355328 := by omega
  have ba2 : r2.length * 32 ≤ 140737488355328 := by omega
  refine Call.enter' (N := 10) (rs := [.cell 2 78]) Tryz.func84 rfl rfl rfl (by decide) rfl ?_; simp only [argT]; have hD : (0 : Nat) = 0 := rfl
  repeat' first | (refine SW.seq_k fun K hK => ?_) | ((first | refine SW.region ?_ | (refine allF_i fun b hb => ?_; replace hD := And.intro hb hD; clear hb; try simp only [fresh_cons, fresh_nil, and_true, ne_eq, neF] at hD)); try simp only [go_sem, hD, true_implies]) | (apply hK; clear hK K)
  obtain ⟨cb, rfl⟩ : ∃ x, x = b := ⟨_, rfl⟩
  obtain ⟨b1, rfl⟩ : ∃ x, x = b := ⟨_, rfl⟩
  refine Ab.SW.le (S' := ⟨[(1, .fp [I64 r1, VL r2]), (2, .op cb 0)], [(cb, .svs [I64 0, SN])]⟩) ?_ ?_
  · refine St.le.trans (St.le_freezeP (i := 1) (b := b1) (off := 0) (n := 2) (k := .svs [I64 r1, VL r2]) rfl (by simp [find_cons, hD]) (by exact Nat.le_refl 2)) ?_
    simp only [getN, Blk.get, go_sem, hD]
    exact St.le_sub (by repeat' (first | exact rfl | exact trivial | constructor))
  clear hD
  have hD : (0 : Nat) = 0 := rfl
  repeat' first | (with_reducible refine And.intro (by omega) ?_) | ((first | refine SW.regionX (id := 1) (Checked.mixed Tryz.checked) ((.one 3 [3, 4, 5, 6, 7] (.one 4 [4, 5, 6, 7] (.fre 0 [0, 1, 6, 7] (.fre 1 [1, 6, 7] (.alt 2 (.alt 5 (.one 6 [6, 7] (.alt 7 .done .nil)) .nil) .nil))))) : OX) (by kernel_rfl) ?_ | refine SW.ret ?_ | (refine allF_i fun b hb => ?_; replace hD := And.intro hb hD; clear hb; try simp only [fresh_cons, fresh_nil, and_true, ne_eq, neF] at hD) | simp only [appK, appOsK]); try simp only [go_sem, hD, hfm, hva, ba, ba2, true_implies]) | (apply hK; clear hK K)
  all_goals
    obtain ⟨nb, rfl⟩ : ∃ x, x = b := ⟨_, rfl⟩
    refine retQ_le (S' := ⟨[(2, .fp [I64 r1, VL r2])], []⟩) ?_ ?_
    · refine St.le.trans (St.le_freezeC (c := cb) (j := 1) (b := nb) (off := 0) (len := r2.length) (sz := 3) (k := .svs (vCs r2)) (cs := [I64 r1, .os nb 0 r2.length 3]) (by simp [find_cons, hD]) (by simp [hD]) (by show 1 < 2; omega) rfl (by rw [find_cons, if_pos rfl]) (by rw [Blk.len_svs, ← hvl]; omega) (vF r2) (fun p hp => by
        rw [getN_take _ _ _ (by rw [Blk.len_svs, ← hvl]; omega), Nat.zero_add]
        exact vCs_at r2 p hp)) ?_
      simp only [go_sem, hD]
      refine St.le.trans (St.le_freezeP (i := 2) (b := cb) (off := 0) (n := 2) rfl (by rw [find_cons, if_pos rfl]) (by exact Nat.le_refl 2)) ?_
      rw [del_head]
      simp only [getN, Blk.get, go_sem, hD]
      exact St.le_sub (by repeat' (first | exact rfl | exact trivial | constructor))
    · simp only [resL_tmp, resL_cellE, resC_ok, resL_nil, tupOf, getN, go_sem, hD]
      try exact ⟨rfl, rfl⟩
theorem with_ro (t : Tb) (R : List R3) (ha : t.attrs.length ≤ 1000) (hr : R.length ≤ 1000) (hv : ∀ r ∈ R, r.2.length ≤ 1000) : Ab.Call Tryz.prog 80 [TB t, RL R] [] (fun r h' => (R = [] ∧ r = .agg [Str t.name, SL t.attrs, SN] ∧ h' = []) ∨ ∃ g, r = .agg [Str t.name, SL t.attrs, .os g 0 R.length 2] ∧ h' = [(g, .svs (fC rC R))]) := by
  have hfm := fl_str t.attrs
  have cp := fun (r : R3) (h : r ∈ R) => cp_r r (hv r h)
  obtain ⟨tn, ta, tr⟩ := t
  simp only at ha hfm ⊢
  have ba : ta.length * 16 ≤ 140737488355328 := by omega
  have hsg : (ta.map Str).all single = true := by
    rw [List.all_eq_true]
    intro x hx
    obtain ⟨r, _, rfl⟩ := List.mem_map.1 hx
    rfl
  have hml : (ta.map Str).length = ta.length := List.length_map _
  refine Call.enter' (N := 31) (rs := [.cell 4 72]) Tryz.func80 rfl rfl rfl (by decide) rfl ?_; simp only [argT]; have hD : (0 : Nat) = 0 := rfl
  repeat' first | (refine SW.seq_k fun K hK => ?_) | ((first | refine SW.region ?_ | (refine allF_i fun b hb => ?_; replace hD := And.intro hb hD; clear hb; try simp only [fresh_cons, fresh_nil, and_true, ne_eq, neF] at hD)); try simp only [go_sem, hD, true_implies]) | (apply hK; clear hK K)
  obtain ⟨rb, rfl⟩ : ∃ x, x = b := ⟨_, rfl⟩
  obtain ⟨b2, rfl⟩ : ∃ x, x = b := ⟨_, rfl⟩
  refine Ab.SW.le (S' := ⟨[(1, RL R), (2, .fp [Str tn, SL ta, RL tr]), (4, .op rb 0)], [(rb, .svs [Str ⟨#[]⟩, SN, SN])]⟩) ?_ ?_
  · refine St.le.trans (St.le_freezeP (i := 2) (b := b2) (off := 0) (n := 3) (k := .svs [Str tn, SL ta, RL tr]) rfl (by simp [find_cons, hD]) (by exact Nat.le_refl 3)) ?_
    simp only [getN, Blk.get, go_sem, hD]
    exact St.le_sub (by repeat' (first | exact rfl | exact trivial | constructor))
  clear hD
  have hD : (0 : Nat) = 0 := rfl
  have key : ∃ C Q', (∀ S, Ab.SW Tryz.prog 31 C Q' S → K S) ∧ ∀ tb, ¬ tb = rb → ¬ rb = tb → Ab.SW Tryz.prog 31 C Q' ⟨[(1, RL R), (4, .op rb 0), (5, .op tb 0)], [(tb, .svs [Str tn, SL ta, SN]), (rb, .svs [Str ⟨#[]⟩, SN, SN])]⟩ := by
    refine ⟨_, _, hK, fun tb t1 t2 => ?_⟩
    clear hK K hD
    have hT := And.intro (eq_false t1) (eq_false t2)
    have hD := hT
    repeat' first | (refine SW.seq_k fun K hK => ?_) | (refine SW.region ?_; try simp only [go_sem, hD, true_implies]) | (apply hK; clear hK K)
    refine SW.block ?_
    clear hD
    obtain ⟨I, hI⟩ : ∃ I : Nat → St → Prop, ∀ k S, I k S ↔ (∃ (i : Nat) (h : Heap), k = R.length - i ∧ i ≤ R.length ∧ WB tb rb tn ta (R.take i) h ∧ S = ⟨[(1, RL R), (4, .op rb 0), (5, .op tb 0), (6, I64 i)], h⟩) := ⟨fun k S => _, fun _ _ => Iff.rfl⟩
    refine SW.loop' I (R.length) ((hI _ _).2 ⟨0, _, rfl, Nat.zero_le _, .inl ⟨rfl, rfl⟩, rfl⟩) (by repeat' (first | exact rfl | exact trivial | constructor)) ?_
    intro k S hIn
    obtain ⟨i, h, rfl, hi, hB, rfl⟩ := (hI _ _).1 hIn
    clear hIn
    have ie : ((i : Nat) : Int).toNat = i := Int.toNat_natCast _
    have i0 : (0 : Int) ≤ ((i : Nat) : Int) := by omega
    by_cases hlt : i < R.length
    · have hli : ((i : Nat) : Int) < (((R.length) : Nat) : Int) := by omega
      have w1 : IntKind.i64.wrap ((i : Int) + 1) = ((i + 1 : Nat) : Int) := by rw [i64_wrap (by omega) (by omega)]; omega
      have fi : rF R i = rC (R.getD i r0) := rfl
      have cc := cp _ (getD_mem r0 hlt)
      have hsn := takeR_succ hlt
      have hsl := takeR_len (l := R) hi
      have hBB : ∀ h, WB tb rb tn ta (R.take i ++ [R.getD i r0]) h → WB tb rb tn ta (R.take (i + 1)) h := fun h x => by rw [hsn]; exact x
      clear hsn
      generalize R.getD i r0 = r at *
      generalize R.take i = L at *
      obtain ⟨r1, r2⟩ := r
      have fr : rC (r1, r2) = [I64 r1, VL r2] := rfl
      have ba2 : (L.length + 1) * 32 ≤ 140737488355328 := by omega
      have hfc : (fC rC L).length = L.length * 2 := by rw [← fC_len (k := 2) (fun _ => rfl)]
      rcases hB with ⟨hL0, rfl⟩ | ⟨hi0, g, u1, u2, u3, u4, rfl⟩
      · have hD := hT
        subst hL0
        repeat' first | (with_reducible refine And.intro (by omega) ?_) | (refine SW.seq_k fun K hK => ?_) | (refine SW.block ?_) | ((first | refine SW.region ?_ | refine SW.regionZ (id := 5) (Checked.mixed Tryz.checked) Go.Ab.zVA_1 (by kernel_rfl) ?_ | refine SW.cond ?_ | refine SW.skip ?_ | refine ⟨_, cc, ?_⟩ | (refine allF_i fun b hb => ?_; replace hD := And.intro hb hD; clear hb; try simp only [fresh_cons, fresh_nil, and_true, ne_eq, neF] at hD) | simp only [appK, appOsK]); try simp only [Go.Ab.zVA_1, go_sem, hD, hli, ie, i0, w1, fi, fr, ba2, true_implies]) | (refine And.intro (by omega) ?_) | (apply hK; clear hK K)
        all_goals
          refine Rnd.le (St.le_pick [(b, .svs [I64 r1, VL r2]), (tb, .svs [Str tn, SL ta, .os b 0 1 2]), (rb, .svs [Str ⟨#[]⟩, SN, SN])] ?_ ?_) ?_
          · repeat' (first | exact (fun x hx => (List.not_mem_nil hx).elim) | refine List.forall_mem_cons.2 ⟨?_, ?_⟩ | exact List.mem_cons_self | apply List.mem_cons_of_mem)
          · simp [fresh_cons, fresh_nil, hD]
          refine Rnd.sub (R.length - (i + 1)) (by omega) ((hI _ _).2 ⟨i + 1, _, rfl, by omega, hBB _ (.inr ⟨Nat.succ_pos _, b, by simp [hD], by simp [hD], by simp [hD], by simp [hD], rfl⟩), rfl⟩) (by repeat' (first | exact rfl | exact trivial | constructor))
      · have hD := And.intro (And.intro (eq_false u1) (eq_false u2)) (And.intro (And.intro (eq_false u3) (eq_false u4)) hT)
        repeat' first | (with_reducible refine And.intro (by omega) ?_) | (refine SW.seq_k fun K hK => ?_) | (refine SW.block ?_) | ((first | refine SW.region ?_ | refine SW.regionZ (id := 5) (Checked.mixed Tryz.checked) Go.Ab.zVA_1 (by kernel_rfl) ?_ | refine SW.cond ?_ | refine SW.skip ?_ | refine ⟨_, cc, ?_⟩ | (refine allF_i fun b hb => ?_; replace hD := And.intro hb hD; clear hb; try simp only [fresh_cons, fresh_nil, and_true, ne_eq, neF] at hD) | simp only [appK, appOsK]); try simp only [Go.Ab.zVA_1, go_sem, hD, hli, ie, i0, w1, fi, fr, ba2, hfc, true_implies]) | (apply hK; clear hK K)
        all_goals
          refine Rnd.le (St.le_pick [(b, .svs (fC rC L ++ [I64 r1, VL r2])), (tb, .svs [Str tn, SL ta, .os b 0 (L.length + 1) 2]), (rb, .svs [Str ⟨#[]⟩, SN, SN])] ?_ ?_) ?_
          · repeat' (first | exact (fun x hx => (List.not_mem_nil hx).elim) | refine List.forall_mem_cons.2 ⟨?_, ?_⟩ | exact List.mem_cons_self | apply List.mem_cons_of_mem)
          · simp [fresh_cons, fresh_nil, hD]
          refine Rnd.sub (R.length - (i + 1)) (by omega) ((hI _ _).2 ⟨i + 1, _, rfl, by omega, hBB _ (.inr ⟨by simp, b, by simp [hD], by simp [hD], by simp [hD], by simp [hD], by rw [List.length_append, ← fC_snoc]; rfl⟩), rfl⟩) (by repeat' (first | exact rfl | exact trivial | constructor))
    · have hli : ¬ ((i : Nat) : Int) < (((R.length) : Nat) : Int) := by omega
      obtain rfl : i = R.length := by omega
      rw [List.take_length] at hB
      have hD := hT
      rcases hB with ⟨hL0, rfl⟩ | ⟨h0, g, u1, u2, u3, u4, rfl⟩
      · subst hL0
        repeat' first | (refine SW.seq_k fun K hK => ?_) | ((first | refine SW.region ?_ | refine SW.cond ?_ | refine SW.exit ?_ | refine SW.ret ?_); try simp only [go_sem, hD, hli, true_implies]) | (apply hK; clear hK K) | (clear hK K; apply hK; clear hK K)
        refine retQ_le (S' := ⟨[(4, .fp [Str tn, SL ta, SN])], []⟩) ?_ ?_
        · refine St.le.trans (St.le_freezeP (i := 4) (b := rb) (off := 0) (n := 3) (k := .svs [Str tn, SL ta, SN]) rfl (by simp [find_cons, hD]) (by exact Nat.le_refl 3)) ?_
          refine St.le_drop.trans ?_
          simp only [getN, Blk.get, go_sem, hD]
          exact St.le_sub (by repeat' (first | exact rfl | exact trivial | constructor))
        · simp only [resL_tmp, resL_cellE, resC_ok, resL_nil, tupOf, getN, go_sem, hD]
          all_goals exact .inl ⟨rfl, rfl, rfl⟩
      · have hD := And.intro (And.intro (eq_false u1) (eq_false u2)) (And.intro (And.intro (eq_false u3) (eq_false u4)) hT)
        repeat' first | (refine SW.seq_k fun K hK => ?_) | ((first | refine SW.region ?_ | refine SW.cond ?_ | refine SW.exit ?_ | refine SW.ret ?_); try simp only [go_sem, hD, hli, true_implies]) | (apply hK; clear hK K) | (clear hK K; apply hK; clear hK K)
        refine retQ_le (S' := ⟨[(4, .fp [Str tn, SL ta, .os g 0 R.length 2])], [(g, .svs (fC rC R))]⟩) ?_ ?_
        · refine St.le.trans (St.le_freezeP (i := 4) (b := rb) (off := 0) (n := 3) (k := .svs [Str tn, SL ta, .os g 0 R.length 2]) rfl (by simp [find_cons, hD]) (by exact Nat.le_refl 3)) ?_
          refine (St.le_pick [(g, .svs (fC rC R))] (fun x hx => by rw [List.mem_singleton.1 hx]; simp [Heap.del, hD]) (by simp)).trans ?_
          simp only [getN, Blk.get, go_sem, hD]
          exact St.le_sub (by repeat' (first | exact rfl | exact trivial | constructor))
        · simp only [resL_tmp, resL_cellE, resC_ok, resL_nil, tupOf, getN, go_sem, hD]
          all_goals exact .inr ⟨g, rfl, rfl⟩
  obtain ⟨C, Q', hK2, key⟩ := key
  clear hK
  repeat' first | (with_reducible refine And.intro (by omega) ?_) | ((first | refine SW.regionP (id := 1) (Checked.mixed Tryz.checked) ((.fre 0 [0, 1, 6, 8] (.fre 1 [1, 6, 8] (.fre 3 [3, 4, 5, 6, 8] (.fre 4 [4, 5, 6, 8] (.fst 2 [2, 5, 6, 8] (.fst 5 [5, 6, 8] (.fre 6 [6, 8] (.fst 7 [7, 8] (.alt 8 .done .nil))))))))) : OP) (by kernel_rfl) ?_ | (refine allF_i fun b hb => ?_; replace hD := And.intro hb hD; clear hb; try simp only [fresh_cons, fresh_nil, and_true, ne_eq, neF] at hD) | simp only [appK, appOsK]); try simp only [go_sem, hD, hfm, ba, hsg, hml, true_implies])
  all_goals
    obtain ⟨tb, rfl⟩ : ∃ x, x = b := ⟨_, rfl⟩
    obtain ⟨ab, rfl⟩ : ∃ x, x = b := ⟨_, rfl⟩
    have h1 : ¬ tb = ab := by simp [hD]
    refine hK2 _ (Ab.SW.le ?_ (key tb (by simp [hD]) (by simp [hD])))
    refine St.le.trans (St.le_freezeC (c := tb) (j := 1) (b := ab) (off := 0) (len := ta.length) (sz := 1) (k := .svs (ta.map Str)) (cs := [Str tn, .os ab 0 ta.length 1, SN]) (by rw [find_cons, if_pos rfl]) h1 (by show 1 < 3; omega) rfl (by rw [find_cons, if_neg h1, find_cons, if_pos rfl]) (by rw [Blk.len_svs, hml]; omega) (sF ta) (fun p hp => by
      rw [getN_take _ _ _ (by rw [Blk.len_svs, hml]; omega), Nat.zero_add, Nat.mul_one]
      exact str_at hp)) ?_
    rw [del_cons, if_neg h1, del_cons, if_pos rfl, upd_cons, if_pos rfl]
    exact St.le_sub (by repeat' (first | exact rfl | exact trivial | constructor))
theorem with_rr (t : Tb) (R : List R3) (ha : t.attrs.length ≤ 1000) (hr : R.length ≤ 1000) (hv : ∀ r ∈ R, r.2.length ≤ 1000) : PCall Tryz.prog 80 [TB t, RL R] (TB ⟨t.name, t.attrs, R⟩) :=
  Call.frzG (Q := fun r h' => ∃ x, r = .agg [Str t.name, SL t.attrs, x] ∧ Acc 2 x h' [] R.length (fC rC R)) (Call.mono (with_ro t R ha hr hv) fun r h' hx => by
    rcases hx with ⟨h1, h2, h3⟩ | ⟨g, h2, h3⟩
    · subst h1 h3
      exact ⟨SN, h2, .nil 2 []⟩
    · subst h3
      exact ⟨_, h2, .inr ⟨g, _, by simp [fresh_nil], rfl, fC_len (enc := rC) (k := 2) (fun _ => rfl) R, rfl, rfl, rfl⟩⟩) fun r h1 ⟨x, e, hA⟩ => ⟨_, _, x, RL R, e, (St.le_acc_fl (i := 2) rfl hA (rF R) (fun j hj => fC_at (enc := rC) (k := 2) (fun _ => rfl) r0 R j hj)).trans (St.le_sub (by repeat' (first | exact rfl | exact trivial | constructor))), rfl⟩
end Go.Proofs.YtpidncgibgiidaaGreat
namespace Go.Ab.A15
open Go Go.Ab Go.Ab.A34
theorem fC_app (L M : List R3) : fC rC L ++ fC rC M = fC rC (L ++ M) := by
  unfold fC
  rw [List.flatMap_append]
theorem rC_all (L : List R3) : (fC rC L).all single = true := by
  rw [List.all_eq_true]
  intro x hx
  obtain ⟨r, _, hr⟩ := List.mem_flatMap.1 hx
  simp only [rC, List.mem_cons, List.not_mem_nil, or_false] at hr
  rcases hr with rfl | rfl <;> rfl
theorem fl_rC (L : List R3) : flCells (rF L) L.length = fC rC L := by
  have e : L = (List.range L.length).map fun i => L.getD i r0 := by
    refine List.ext_getElem (by simp) fun i h1 h2 => ?_
    simp [List.getD_eq_getElem?_getD, h1]
  unfold flCells
  conv => rhs; rw [e]
  unfold fC
  rw [List.flatMap_map]
  rfl
theorem fl_congr {f g : Nat → List SV} {n : Nat} (h : ∀ i, i < n → f i = g i) : flCells f n = flCells g n := by
  unfold flCells
  induction n with
  | zero => rfl
  | succ n ih =>
    rw [List.range_succ, List.flatMap_append, List.flatMap_append, ih fun i hi => h i (by omega)]
    congr 1
    simp [h n (by omega)]
theorem fl_rtk {tr : List R3} {k : Nat} (hk : k ≤ tr.length) : flCells (fun i => rF tr i) k = fC rC (tr.take k) := by
  have hl : (tr.take k).length = k := by rw [List.length_take]; omega
  have := fl_rC (tr.take k)
  rw [hl] at this
  rw [← this]
  refine fl_congr fun i hi => ?_
  unfold rF
  congr 1
  simp only [List.getD_eq_getElem?_getD]
  rw [List.getElem?_take, if_pos hi]
theorem fl_rdp {tr : List R3} {k : Nat} (hk : k ≤ tr.length) : flCells (fun i => rF tr (k + i)) (tr.length - k) = fC rC (tr.drop k) := by
  have hl : (tr.drop k).length = tr.length - k := List.length_drop
  have := fl_rC (tr.drop k)
  rw [hl] at this
  rw [← this]
  refine fl_congr fun i hi => ?_
  unfold rF
  congr 1
  simp only [List.getD_eq_getElem?_getD]
  rw [List.getElem?_drop]
end Go.Ab.A15
namespace Go.Proofs.YtpidncgibgiidaaGreat
open Go Go.Ab Go.Ab.A34 Go.Ab.A15 Go.Ab.A01
variable [Gl] [Tabs]
theorem delete_r (t : Tb) (k : Nat) (hk : k < t.rows.length) (hv : validS t = 0) (hid : t.rows.Pairwise fun a b => a.1 < b.1) : PCall Tryz.prog 35 [TB t, I64 (t.rows.getD k r0).1] (.tup [TB ⟨t.name, t.attrs, t.rows.take k ++ t.rows.drop (k + 1)⟩, I64 0]) := by
  obtain ⟨a1, a2, a3⟩ := valid_rows hv
  have cv := valid_tr t (fun r hr => by rw [(a3 r hr).1]; omega)
  rw [hv] at cv
  have cf : PCall Tryz.prog 79 [TB t, I64 (t.rows.getD k r0).1] (.tup [I64 (k : Nat), SB true]) := by
    have c := find_rr t (t.rows.getD k r0).1 (by omega)
    obtain ⟨z, hz1, hz2, hz3⟩ := fnd_at hid (getD_mem r0 hk)
    rw [hz2] at c
    unfold fndV at c
    rw [if_neg (by omega)] at c
    have e : z = k := by
      refine Classical.byContradiction fun hne => ?_
      rw [List.pairwise_iff_getElem] at hid
      have g1 : t.rows.getD z r0 = t.rows[z] := by simp [List.getD_eq_getElem?_getD, hz1]
      have g2 : t.rows.getD k r0 = t.rows[k] := by simp [List.getD_eq_getElem?_getD, hk]
      rw [g1, g2] at hz3
      rcases Nat.lt_or_gt_of_ne hne with h | h
      · have := hid z k hz1 hk h
        rw [hz3] at this
        omega
      · have := hid k z hk hz1 h
        rw [hz3] at this
        omega
    rw [e] at c
    exact c
  obtain ⟨tn, ta, tr⟩ := t
  simp only at *
  generalize (tr.getD k r0).1 = id at *
  have k0 : (0 : Int) ≤ ((k : Nat) : Int) := by omega
  have k1 : ((k : Nat) : Int) ≤ ((tr.length : Nat) : Int) := by omega
  have k2 : ((k : Nat) : Int).toNat = k := Int.toNat_natCast _
  have wk : IntKind.i64.wrap (((k : Nat) : Int) + 1) = ((k + 1 : Nat) : Int) := by rw [i64_wrap (by omega) (by omega)]; omega
  have k3 : ((k + 1 : Nat) : Int) ≤ ((tr.length : Nat) : Int) := by omega
  have k4 : (0 : Int) ≤ ((k + 1 : Nat) : Int) := by omega
  have k5 : ((k + 1 : Nat) : Int).toNat = k + 1 := Int.toNat_natCast _
  have s0 : (((k : Nat) : Int) - 0).toNat = k := by omega
  have s1 : (((tr.length : Nat) : Int) - ((k + 1 : Nat) : Int)).toNat = tr.length - (k + 1) := by omega
  have f1 := fl_rtk (tr := tr) (k := k) (by omega)
  have f2 := fl_rdp (tr := tr) (k := k + 1) (by omega)
  have al1 := rC_all (tr.take k)
  have al2 := rC_all (tr.drop (k + 1))
  have ln1 : (fC rC (tr.take k)).length = k * 2 := by rw [← fC_len (k := 2) (fun _ => rfl), List.length_take]; congr 1; omega
  have ln2 : (fC rC (tr.drop (k + 1))).length = (tr.length - (k + 1)) * 2 := by rw [← fC_len (k := 2) (fun _ => rfl), List.length_drop]
  have hln : (tr.take k ++ tr.drop (k + 1)).length = k + (tr.length - (k + 1)) := by rw [List.length_append, List.length_take, List.length_drop]; omega
  have cw : ∀ ob H, Ab.Call Tryz.prog 80 [.agg [Str tn, SL ta, RL tr], .os ob 0 (k + (tr.length - (k + 1))) 2] ((ob, .svs (fC rC (tr.take k) ++ fC rC (tr.drop (k + 1)))) :: H) (fun r h' => r = TB ⟨tn, ta, tr.take k ++ tr.drop (k + 1)⟩ ∧ h' = H) := fun ob H => by
    have c := with_rr ⟨tn, ta, tr⟩ (tr.take k ++ tr.drop (k + 1)) (by simp only; omega) (by omega) (fun r hr => by
      have hr2 : r ∈ tr := by
        rcases List.mem_append.1 hr with h | h
        · exact List.mem_of_mem_take h
        · exact List.mem_of_mem_drop h
      rw [(a3 r hr2).1]
      omega)
    simp only at c
    rw [fC_app]
    refine Call.give (args := [.agg [Str tn, SL ta, RL tr], .os ob 0 (k + (tr.length - (k + 1))) 2]) 1 (off := 0) (sz := 2) (rF (tr.take k ++ tr.drop (k + 1))) (by simp) rfl (by rw [Blk.len_svs, ← fC_len (k := 2) (fun _ => rfl), hln]; omega) (fun j hj => ?_) ?_
    · rw [getN_take _ _ _ (by rw [Blk.len_svs, ← fC_len (k := 2) (fun _ => rfl), hln]; omega), Nat.zero_add]
      exact fC_at (enc := rC) (k := 2) (fun _ => rfl) r0 _ j (by omega)
    · show PCall Tryz.prog 80 [.agg [Str tn, SL ta, RL tr], .fl (k + (tr.length - (k + 1))) 2 (rF (tr.take k ++ tr.drop (k + 1)))] _
      rw [← hln]
      exact c
  refine Call.enter' (N := 38) (rs := [.cell 4 72, .tmp 5]) Tryz.func35 rfl rfl rfl (by decide) rfl ?_; simp only [argT]; have hD : (0 : Nat) = 0 := rfl
  repeat' first | (refine SW.seq_k fun K hK => ?_) | ((first | refine SW.region ?_ | refine SW.cond ?_ | refine SW.skip ?_ | refine Call.of_pure (cv) ?_ | refine Call.of_pure (cf) ?_ | (refine allF_i fun b hb => ?_; replace hD := And.intro hb hD; clear hb; try simp only [fresh_cons, fresh_nil, and_true, ne_eq, neF] at hD)); try simp only [go_sem, hD, true_implies]) | (apply hK; clear hK K)
  obtain ⟨rb, rfl⟩ : ∃ x, x = b := ⟨_, rfl⟩
  obtain ⟨b2, rfl⟩ : ∃ x, x = b := ⟨_, rfl⟩
  refine Ab.SW.le (S' := ⟨[(2, .fp [Str tn, SL ta, RL tr]), (4, .op rb 0), (5, I64 0), (7, I64 k)], [(rb, .svs [Str ⟨#[]⟩, SN, SN])]⟩) ?_ ?_
  · refine St.le.trans (St.le_freezeP (i := 2) (b := b2) (off := 0) (n := 3) (k := .svs [Str tn, SL ta, RL tr]) rfl (by simp [find_cons, hD]) (by exact Nat.le_refl 3)) ?_
    simp only [getN, Blk.get, go_sem, hD]
    exact St.le_sub (by repeat' (first | exact rfl | exact trivial | constructor))
  clear hD
  have hD : (0 : Nat) = 0 := rfl
  repeat' first | ((with_reducible refine Call.mono (cw _ _) ?_); (intro rr h' hx); (obtain ⟨rfl, rfl⟩ := hx); (try simp only [go_sem, hD])) | (with_reducible refine And.intro (by omega) ?_) | ((first | refine SW.regionW [13] (id := 7) (Checked.mixed Tryz.checked) ((.fre 0 [0, 13, 14, 15] (.fre 2 [2, 3, 5, 6, 12, 13, 14, 15] (.fre 3 [3, 5, 6, 12, 13, 14, 15] (.fre 4 [4, 5, 6, 12, 13, 14, 15] (.fre 5 [5, 6, 12, 13, 14, 15] (.fre 7 [7, 8, 11, 12, 13, 14, 15] (.fre 8 [8, 11, 12, 13, 14, 15] (.fre 9 [9, 10, 11, 12, 13, 14, 15] (.fre 10 [10, 11, 12, 13, 14, 15] (.fre 11 [11, 12, 13, 14, 15] (.alt 1 false (.alt 6 false (.alt 12 false (.alt 13 true (.alt 14 false (.fre 15 [15] .done) .nil) .nil) .nil) .nil) .nil))))))))))) : OW) (by kernel_rfl) ?_ | refine SW.ret ?_ | (refine allF_i fun b hb => ?_; replace hD := And.intro hb hD; clear hb; try simp only [fresh_cons, fresh_nil, and_true, ne_eq, neF] at hD) | simp only [appK, appOsK]); try simp only [go_sem, hD, k0, k1, k2, k3, k4, k5, wk, s0, s1, f1, f2, al1, al2, ln1, ln2, true_implies]) | (apply hK; clear hK K)
  all_goals
    apply ret_cell (i := 4) (n := 3); exact rfl; (simp only [go_sem, hD]; try rfl); (first | exact Nat.le_refl _ | decide); simp only [resL_tmp, resL_cellE, resC_ok, resL_nil, tupOf, getN, go_sem, hD]
end Go.Proofs.YtpidncgibgiidaaGreat
namespace Go.Ab.A15
open Go Go.Ab Go.Ab.A34
theorem fnd_none {F : List R3} {id : Int} (h : ∀ r ∈ F, r.1 ≠ id) : fndI F id 0 = -1 := by
  unfold fndI
  rw [List.drop_zero]
  rcases posR_find (fun r => decide (r.1 = id)) F 0 with ⟨h1, _⟩ | ⟨n, h1, _, h3⟩
  · exact h1
  · exact absurd (of_decide_eq_true h3) (h _ (getD_mem r0 h1))
end Go.Ab.A15
def Go.Ab.zVC_1 : Go.Ab.OZ := (.one 0 [0, 1, 2, 3, 4, 5, 6, 7, 8, 9, 10, 11, 12, 13, 14, 15, 16, 17] (.one 1 [1, 2, 3, 4, 5, 6, 7, 8, 9, 10, 11, 12, 13, 14, 15, 16, 17] (.one 2 [2, 3, 4, 5, 6, 7, 8, 9, 10, 11, 12, 13, 14, 15, 16, 17] (.one 3 [3, 4, 6, 7, 8, 16, 17] (.one 4 [4, 6, 7, 8, 16, 17] (.one 5 [5, 6, 7, 8, 16, 17] (.one 6 [6, 7, 8, 16, 17] (.one 7 [7, 8, 16, 17] (.one 8 [8, 16, 17] (.one 9 [9, 10, 13, 14, 15, 16, 17] (.one 10 [10, 13, 14, 15, 16, 17] (.one 11 [11, 12, 13, 14, 15, 16, 17] (.one 12 [12, 13, 14, 15, 16, 17] (.one 13 [13, 14, 15, 16, 17] (.one 14 [14, 15, 16, 17] (.one 15 [15, 16, 17] (.one 16 [16, 17] (.one 17 [17] .done))))))))))))))))))
def Go.Ab.zVC_2 : Go.Ab.OZ := (.one 0 [0, 1, 5, 6, 7] (.one 1 [1, 5, 6, 7] (.one 2 [2, 3, 4, 5, 6, 7] (.one 3 [3, 4, 5, 6, 7] (.alt 4 (.alt 5 (.one 6 [6, 7] (.alt 7 .done .nil)) .nil) .nil)))))
namespace Go.Proofs.YtpidncgibgiidaaGreat
open Go Go.Ab Go.Ab.A34 Go.Ab.A15 Go.Ab.A01
variable [Gl] [Tabs]
theorem ins_b (tn : ByteArray) (ta : List ByteArray) (R : List R3) (n : Nat) (hn : R.length = n + 1) (hl : n ≤ 1000) (hs : ∀ m, n = m + 1 → (R.getD m r0).1 < (R.getD (m + 1) r0).1) (tb rb : Nat) (h1 : ¬ tb = rb) (h2 : ¬ rb = tb) (B : Blk) :
    Ab.SW Tryz.prog 105 (blk 0 Tryz.f39) (nrm fun S => S.le ⟨[(4, .op rb 0), (5, I64 0), (9, .op tb 0)], [(tb, .svs [Str tn, SL ta, RL R]), (rb, B)]⟩)
      ⟨[(4, .op rb 0), (5, I64 0), (9, .op tb 0), (10, I64 n)], [(tb, .svs [Str tn, SL ta, RL R]), (rb, B)]⟩ := by
  have hD := And.intro (eq_false h1) (eq_false h2)
  conv => arg 3; whnf
  refine SW.block ?_
  obtain ⟨J, hJ⟩ : ∃ J : Nat → St → Prop, ∀ m S, J m S ↔ S = ⟨[(4, .op rb 0), (5, I64 0), (9, .op tb 0), (10, I64 n)], [(tb, .svs [Str tn, SL ta, RL R]), (rb, B)]⟩ := ⟨fun m S => _, fun _ _ => Iff.rfl⟩
  refine SW.loop' J 0 ((hJ _ _).2 rfl) (by repeat' (first | exact rfl | exact trivial | constructor)) ?_
  intro m S hIn
  obtain rfl := (hJ _ _).1 hIn
  clear hIn hJ
  by_cases h0 : n = 0
  · subst h0
    have z0 : ¬ (0 : Int) < ((0 : Nat) : Int) := by omega
    repeat' first | (refine SW.seq_k fun K hK => ?_) | ((first | refine SW.regionZ (id := 16) (Checked.mixed Tryz.checked) Go.Ab.zVC_1 (by kernel_rfl) ?_ | refine SW.cond ?_ | refine SW.exit ?_); try simp only [Go.Ab.zVC_1, go_sem, hD, z0, true_implies]) | (refine ifI (fun hc => ?_) (fun hc => ?_) <;> first | (exfalso; omega) | skip) | (apply hK; clear hK K)
    all_goals
      exact St.le_sub (by repeat' (first | exact rfl | exact trivial | constructor))
  · obtain ⟨m, rfl⟩ : ∃ m, n = m + 1 := ⟨n - 1, by omega⟩
    have z0 : (0 : Int) < ((m + 1 : Nat) : Int) := by omega
    have wk : IntKind.i64.wrap (((m + 1 : Nat) : Int) - 1) = ((m : Nat) : Int) := by rw [i64_wrap (by omega) (by omega)]; omega
    have k1 : (0 : Int) ≤ ((m + 1 : Nat) : Int) := by omega
    have k2 : ((m + 1 : Nat) : Int) < ((R.length : Nat) : Int) := by omega
    have k3 : (0 : Int) ≤ ((m : Nat) : Int) := by omega
    have k4 : ((m : Nat) : Int) < ((R.length : Nat) : Int) := by omega
    have k5 : ((m + 1 : Nat) : Int).toNat = m + 1 := Int.toNat_natCast _
    have k6 : ((m : Nat) : Int).toNat = m := Int.toNat_natCast _
    have f1 : rF R (m + 1) = rC (R.getD (m + 1) r0) := rfl
    have f2 : rF R m = rC (R.getD m r0) := rfl
    have hlt := hs m rfl
    have fr : ∀ a b, rC (a, b) = [I64 a, VL b] := fun _ _ => rfl
    generalize R.getD (m + 1) r0 = u at *
    generalize R.getD m r0 = w at *
    obtain ⟨u1, u2⟩ := u
    obtain ⟨w1, w2⟩ := w
    have hng : ¬ u1 < w1 := by simp only at hlt; omega
    repeat' first | (refine SW.seq_k fun K hK => ?_) | ((first | refine SW.regionZ (id := 16) (Checked.mixed Tryz.checked) Go.Ab.zVC_1 (by kernel_rfl) ?_ | refine SW.cond ?_ | refine SW.exit ?_); try simp only [Go.Ab.zVC_1, go_sem, hD, z0, wk, k1, k2, k3, k4, k5, k6, f1, f2, fr, hng, true_implies]) | (apply hK; clear hK K)
    all_goals
      exact St.le_sub (by repeat' (first | exact rfl | exact trivial | constructor))
theorem insert_r (t : Tb) (id : Int) (vs : LV) (hv : validS t = 0) (hl : vs.length = t.attrs.length) (hok : ∀ v ∈ vs, okV v = true) (h0 : 0 < id) (hid : ∀ r ∈ t.rows, r.1 < id) (hn : t.rows.length < 1000) :
    PCall Tryz.prog 39 [TB t, .agg [I64 id, VL vs]] (.tup [TB ⟨t.name, t.attrs, t.rows ++ [(id, vs)]⟩, I64 0]) := by
  obtain ⟨a1, a2, a3⟩ := valid_rows hv
  have cv := valid_tr t (fun r hr => by rw [(a3 r hr).1]; omega)
  rw [hv] at cv
  have cs := valids_r vs (by omega)
  rw [List.all_eq_true.2 hok] at cs
  have cf : PCall Tryz.prog 79 [TB t, I64 id] (.tup [I64 0, SB false]) := by
    have c := find_rr t id (by omega)
    rw [fnd_none fun r hr e => by have := hid r hr; omega] at c
    unfold fndV at c
    rw [if_pos (by decide)] at c
    exact c
  have cw := with_ro t t.rows (by omega) (by omega) (fun r hr => by rw [(a3 r hr).1]; omega)
  have cc := cp_r (id, vs) (by simp only; omega)
  obtain ⟨tn, ta, tr⟩ := t
  simp only at *
  have e1 : ¬ ¬ ((vs.length : Nat) : Int) = ((ta.length : Nat) : Int) := fun h => h (by omega)
  have e1p : ((vs.length : Nat) : Int) = ((ta.length : Nat) : Int) := by omega
  have e2 : ¬ id ≤ 0 := by omega
  have e3 : ¬ ((tr.length : Nat) : Int) ≥ 1000 := by omega
  have e3p : ¬ (1000 : Int) ≤ ((tr.length : Nat) : Int) := by omega
  change PCall Tryz.prog 84 [.agg [I64 id, VL vs]] (.agg [I64 id, VL vs]) at cc
  obtain ⟨R, hR⟩ : ∃ R, R = tr ++ [(id, vs)] := ⟨_, rfl⟩
  rw [← hR]
  have hRl : R.length = tr.length + 1 := by rw [hR, List.length_append]; rfl
  have hRs : ∀ m, tr.length = m + 1 → (R.getD m r0).1 < (R.getD (m + 1) r0).1 := fun m hm => by
    have g1 : R.getD (m + 1) r0 = (id, vs) := by
      rw [hR, ← hm]
      simp [List.getD_eq_getElem?_getD]
    have g2 : R.getD m r0 ∈ tr := by
      have hm2 : m < tr.length := by omega
      have : R.getD m r0 = tr.getD m r0 := by
        rw [hR]
        simp [List.getD_eq_getElem?_getD, List.getElem?_append_left hm2]
      rw [this]
      exact getD_mem r0 hm2
    rw [g1]
    exact hid _ g2
  have hb := ins_b tn ta R tr.length hRl (by omega) hRs
  refine Call.enter' (N := 105) (rs := [.cell 4 72, .tmp 5]) Tryz.func39 rfl rfl rfl (by decide) rfl ?_; simp only [argT]; have hD : (0 : Nat) = 0 := rfl
  repeat' first | ((refine Ab.SW.le (St.le_freezeP (i := 3) (n := 2) (k := .svs [I64 id, VL vs]) rfl (by simp [find_cons, hD]) (by exact Nat.le_refl 2)) ?_); (simp only [getN, Blk.get, go_sem, hD])) | ((refine Ab.SW.le (St.le_freezeP (i := 2) (n := 3) (k := .svs [Str tn, SL ta, RL tr]) rfl (by simp [find_cons, hD]) (by exact Nat.le_refl 3)) ?_); (simp only [getN, Blk.get, go_sem, hD])) | ((with_reducible refine Call.mono (Call.frameN (h1 := []) cw) ?_); (intro rr h' hx); (obtain ⟨h1, rfl, hx, hnd⟩ := hx); (refine stop_i ?_)) | (refine SW.seq_k fun K hK => ?_) | ((first | refine SW.region ?_ | refine SW.cond ?_ | refine SW.skip ?_ | refine Call.of_pure (cv) ?_ | refine Call.of_pure (cs) ?_ | refine Call.of_pure (cf) ?_ | (refine allF_i fun b hb => ?_; replace hD := And.intro hb hD; clear hb; try simp only [fresh_cons, fresh_nil, and_true, ne_eq, neF] at hD)); try simp only [go_sem, hD, e1p, e2, e3p, true_implies]) | (apply hK; clear hK K)
  refine ⟨?_⟩
  obtain ⟨rb, rfl⟩ : ∃ x, x = b := ⟨_, rfl⟩
  have ba : (tr.length + 1) * 32 ≤ 140737488355328 := by omega
  clear cw cv cs cf hRs hok hid hv a3
  rcases hx with ⟨rfl, rfl, rfl⟩ | ⟨g, rfl, rfl⟩
  · simp only [List.nil_append]
    clear hnd
    have w0 : IntKind.i64.wrap (((1 : Nat) : Int) - 1) = ((0 : Nat) : Int) := by decide
    repeat' first | (with_reducible refine And.intro (by omega) ?_) | (refine SW.seq_k fun K hK => ?_) | ((first | refine SW.region ?_ | refine SW.regionZ (id := 14) (Checked.mixed Tryz.checked) Go.Ab.zVC_2 (by kernel_rfl) ?_ | refine ⟨_, cc, ?_⟩ | (refine allF_i fun b hb => ?_; replace hD := And.intro hb hD; clear hb; try simp only [fresh_cons, fresh_nil, and_true, ne_eq, neF] at hD) | simp only [appK, appOsK]); try simp only [Go.Ab.zVC_2, go_sem, hD, ba, w0, true_implies]) | (refine And.intro (by omega) ?_) | (apply hK; clear hK K)
    all_goals
      obtain ⟨gb, rfl⟩ : ∃ x, x = b := ⟨_, rfl⟩
      obtain ⟨eb, rfl⟩ : ∃ x, x = b := ⟨_, rfl⟩
      obtain ⟨tb, rfl⟩ : ∃ x, x = b := ⟨_, rfl⟩
      refine Ab.SW.le (S' := ⟨[(4, .op rb 0), (5, I64 0), (9, .op tb 0), (10, I64 (([] : List R3).length : Nat))], [(tb, .svs [Str tn, SL ta, RL R]), (rb, .svs [Str ⟨#[]⟩, SN, SN])]⟩) ?_ ?_
      · refine St.le.trans (St.le_freezeC (c := tb) (j := 2) (b := gb) (off := 0) (len := R.length) (sz := 2) (k := .svs (fC rC R)) (cs := [Str tn, SL ta, .os gb 0 R.length 2]) (by rw [hRl]; simp [find_cons, hD]) (by simp [hD]) (by show 2 < 3; omega) (by rw [hRl]; rfl) (by rw [hR]; simp [find_cons, hD]; rfl) (by rw [Blk.len_svs, ← fC_len (k := 2) (fun _ => rfl)]; omega) (rF R) (fun p hp => by
          rw [getN_take _ _ _ (by rw [Blk.len_svs, ← fC_len (k := 2) (fun _ => rfl)]; omega), Nat.zero_add]
          exact fC_at (enc := rC) (k := 2) (fun _ => rfl) r0 R p hp)) ?_
        simp only [go_sem, hD]
        refine (St.le_pick [(tb, .svs [Str tn, SL ta, RL R]), (rb, .svs [Str ⟨#[]⟩, SN, SN])] ?_ ?_).trans ?_
        · repeat' (first | exact (fun x hx => (List.not_mem_nil hx).elim) | refine List.forall_mem_cons.2 ⟨?_, ?_⟩ | exact List.mem_cons_self | apply List.mem_cons_of_mem)
        · simp [fresh_cons, fresh_nil, hD]
        exact St.le_sub (by repeat' (first | exact rfl | exact trivial | constructor))
      · refine Ab.SW.cut _ (hb tb rb (by simp [hD]) (by simp [hD]) _) ?_
        intro S' hle
        try simp only [go_sem, hD]
        (first | apply hK | (clear hK K; apply hK) | (clear hK K; clear hK K; apply hK)); clear hK K
        refine Ab.SW.le hle ?_
        have hT1 : (tb = rb) = False := by simp [hD]
        have hT2 : (rb = tb) = False := by simp [hD]
        clear hD
        have hD := And.intro hT1 hT2
        repeat' first | (refine SW.seq_k fun K hK => ?_) | ((first | refine SW.region ?_ | refine SW.ret ?_); try simp only [go_sem, hD, true_implies]) | (apply hK; clear hK K)
        apply ret_cell (i := 4) (n := 3); exact rfl; (simp only [go_sem, hD]; try rfl); (first | exact Nat.le_refl _ | decide); simp only [resL_tmp, resL_cellE, resC_ok, resL_nil, tupOf, getN, go_sem, hD]
  · have hne : ¬ g = rb := by simpa using hnd
    have hne2 : ¬ rb = g := fun e => hne e.symm
    simp only [List.cons_append, List.nil_append]
    replace hD := And.intro (And.intro (eq_false hne) (eq_false hne2)) hD
    have hfc : (fC rC tr).length = tr.length * 2 := by rw [← fC_len (k := 2) (fun _ => rfl)]
    have w0 : IntKind.i64.wrap (((tr.length + 1 : Nat) : Int) - 1) = ((tr.length : Nat) : Int) := by rw [i64_wrap (by omega) (by omega)]; omega
    clear hnd
    repeat' first | (with_reducible refine And.intro (by omega) ?_) | (refine SW.seq_k fun K hK => ?_) | ((first | refine SW.region ?_ | refine SW.regionZ (id := 14) (Checked.mixed Tryz.checked) Go.Ab.zVC_2 (by kernel_rfl) ?_ | refine ⟨_, cc, ?_⟩ | (refine allF_i fun b hb => ?_; replace hD := And.intro hb hD; clear hb; try simp only [fresh_cons, fresh_nil, and_true, ne_eq, neF] at hD) | simp only [appK, appOsK]); try simp only [Go.Ab.zVC_2, go_sem, hD, ba, w0, hfc, true_implies]) | (apply hK; clear hK K)
    all_goals
      obtain ⟨gb, rfl⟩ : ∃ x, x = b := ⟨_, rfl⟩
      obtain ⟨eb, rfl⟩ : ∃ x, x = b := ⟨_, rfl⟩
      obtain ⟨tb, rfl⟩ : ∃ x, x = b := ⟨_, rfl⟩
      refine Ab.SW.le (S' := ⟨[(4, .op rb 0), (5, I64 0), (9, .op tb 0), (10, I64 tr.length)], [(tb, .svs [Str tn, SL ta, RL R]), (rb, .svs [Str ⟨#[]⟩, SN, SN])]⟩) ?_ ?_
      · refine St.le.trans (St.le_freezeC (c := tb) (j := 2) (b := gb) (off := 0) (len := R.length) (sz := 2) (k := .svs (fC rC R)) (cs := [Str tn, SL ta, .os gb 0 R.length 2]) (by rw [hRl]; simp [find_cons, hD]) (by simp [hD]) (by show 2 < 3; omega) (by rw [hRl]; rfl) (by rw [hR, ← fC_snoc]; simp [find_cons, hD]; rfl) (by rw [Blk.len_svs, ← fC_len (k := 2) (fun _ => rfl)]; omega) (rF R) (fun p hp => by
          rw [getN_take _ _ _ (by rw [Blk.len_svs, ← fC_len (k := 2) (fun _ => rfl)]; omega), Nat.zero_add]
          exact fC_at (enc := rC) (k := 2) (fun _ => rfl) r0 R p hp)) ?_
        simp only [go_sem, hD]
        refine (St.le_pick [(tb, .svs [Str tn, SL ta, RL R]), (rb, .svs [Str ⟨#[]⟩, SN, SN])] ?_ ?_).trans ?_
        · repeat' (first | exact (fun x hx => (List.not_mem_nil hx).elim) | refine List.forall_mem_cons.2 ⟨?_, ?_⟩ | exact List.mem_cons_self | apply List.mem_cons_of_mem)
        · simp [fresh_cons, fresh_nil, hD]
        exact St.le_sub (by repeat' (first | exact rfl | exact trivial | constructor))
      · refine Ab.SW.cut _ (hb tb rb (by simp [hD]) (by simp [hD]) _) ?_
        intro S' hle
        try simp only [go_sem, hD]
        (first | apply hK | (clear hK K; apply hK) | (clear hK K; clear hK K; apply hK)); clear hK K
        refine Ab.SW.le hle ?_
        have hT1 : (tb = rb) = False := by simp [hD]
        have hT2 : (rb = tb) = False := by simp [hD]
        clear hD
        have hD := And.intro hT1 hT2
        repeat' first | (refine SW.seq_k fun K hK => ?_) | ((first | refine SW.region ?_ | refine SW.ret ?_); try simp only [go_sem, hD, true_implies]) | (apply hK; clear hK K)
        apply ret_cell (i := 4) (n := 3); exact rfl; (simp only [go_sem, hD]; try rfl); (first | exact Nat.le_refl _ | decide); simp only [resL_tmp, resL_cellE, resC_ok, resL_nil, tupOf, getN, go_sem, hD]
end Go.Proofs.YtpidncgibgiidaaGreat
namespace Go.Ab.A15
open Go Go.Ab Go.Ab.A34 Go.Ab.A01
end Go.Ab.A15
namespace Go.Proofs.YtpidncgibgiidaaGreat
open Go Go.Ab Go.Ab.A34 Go.Ab.A15 Go.Ab.A01
variable [Gl] [Tabs]
end Go.Proofs.YtpidncgibgiidaaGreat
namespace Go.Ab.A15
open Go Go.Ab Go.Ab.A34 Go.Ab.A01
end Go.Ab.A15
namespace Go.Proofs.YtpidncgibgiidaaGreat
open Go Go.Ab Go.Ab.A34 Go.Ab.A15 Go.Ab.A01
variable [Gl] [Tabs]
end Go.Proofs.YtpidncgibgiidaaGreat
namespace Go.Ab.A15
open Go Go.Ab Go.Ab.A34 Go.Ab.A01
theorem miss_sz {db : List Tb} {d : Dp} (h : vE db d = 0) : (missS db d).length ≤ 1000 ∧ ∀ x ∈ missS db d, SzV x := by
  obtain ⟨V, F⟩ := vE_ok h
  have kf := rows_k V F.f
  have b16 := in16_len F.nl (F.in16l V)
  have hGl : (noP (rowsAt db d.f) (rowsAt db d.t) d.l d.r).length ≤ 1000 := Nat.le_trans (List.length_filter_le _ _) kf.n
  unfold missS
  refine ⟨?_, fun x hx => ?_⟩
  · unfold ordV
    refine Nat.le_trans (cptI_len _ _) ?_
    rw [List.length_mergeSort]
    unfold valK
    rw [List.length_map]
    exact hGl
  · have hx2 := ((ordV_ord _).2 x).1 hx
    unfold valK at hx2
    obtain ⟨r, hr, rfl⟩ := List.mem_map.1 hx2
    have hr2 := (List.mem_filter.1 hr).1
    refine ⟨by rw [valR_len]; omega, fun v hv => ?_⟩
    obtain ⟨a, ha, rfl⟩ := List.mem_map.1 hv
    have hb := F.l a ha
    have hl := kf.l r hr2
    have := okV_size (kf.v r hr2 _ (getD_mem v0 (show a.toNat < r.2.length by omega)))
    omega
end Go.Ab.A15
namespace Go.Proofs.YtpidncgibgiidaaGreat
open Go Go.Ab Go.Ab.A34 Go.Ab.A15 Go.Ab.A01
variable [Gl] [Tabs]
end Go.Proofs.YtpidncgibgiidaaGreat
namespace Go.Ab.A15
open Go Go.Ab Go.Ab.A34 Go.Ab.A01
theorem getD_setT {db : List Tb} {p j : Nat} {t : Tb} (hp : p < db.length) : (db.set p t).getD j t0 = if j = p then t else db.getD j t0 := by
  simp only [List.getD_eq_getElem?_getD, List.getElem?_set]
  by_cases h : p = j
  · subst h
    rw [if_pos rfl, if_pos hp, if_pos rfl]
    rfl
  · rw [if_neg h, if_neg (Ne.symm h)]
theorem nms_set {db : List Tb} {p : Nat} {t : Tb} (hp : p < db.length) (hn : t.name = (db.getD p t0).name) : nmsOf (db.set p t) = nmsOf db := by
  unfold nmsOf
  rw [List.map_set, hn]
  refine List.ext_getElem (by simp) fun i h1 h2 => ?_
  rw [List.getElem_set]
  by_cases h : p = i
  · subst h
    rw [if_pos rfl]
    simp [List.getD_eq_getElem?_getD, hp]
  · rw [if_neg h]
theorem ns_set {db : List Tb} {p : Nat} {t : Tb} (hp : p < db.length) (hn : t.attrs = (db.getD p t0).attrs) : nsOf (db.set p t) = nsOf db := by
  unfold nsOf
  rw [List.map_set, hn]
  refine List.ext_getElem (by simp) fun i h1 h2 => ?_
  rw [List.getElem_set]
  by_cases h : p = i
  · subst h
    rw [if_pos rfl]
    simp [List.getD_eq_getElem?_getD, hp]
  · rw [if_neg h]
structure Like (t u : Tb) : Prop where
  n : t.name = u.name
  a : t.attrs = u.attrs
  v : validS t = 0
theorem vdb_set {db : List Tb} (V : Vdb db) {p : Nat} {t : Tb} (hp : p < db.length) (h : Like t (db.getD p t0)) : Vdb (db.set p t) where
  v := fun u hu => by
    rcases List.mem_or_eq_of_mem_set hu with h1 | rfl
    · exact V.v u h1
    · exact h.v
  n := by
    rw [nms_set hp h.n]
    exact V.n
theorem okn_set {db : List Tb} (V : OkN db) {p : Nat} {t : Tb} (h : ∀ r ∈ t.rows, ∀ v ∈ r.2, inV v) : OkN (db.set p t) := fun u hu => by
  rcases List.mem_or_eq_of_mem_set hu with h1 | rfl
  · exact V u h1
  · exact h
theorem vE_set {db : List Tb} {d : Dp} (hv : vE db d = 0) (h50 : db.length ≤ 50) {p : Nat} {t : Tb} (hp : p < db.length) (h : Like t (db.getD p t0)) : vE (db.set p t) d = 0 := by
  obtain ⟨V, F⟩ := vE_ok hv
  have hc := chkS_of (vdb_set V hp h) (by rw [List.length_set]; exact h50)
  refine (vE_fit hc).2 ?_
  rw [nms_set hp h.n, ns_set hp h.a]
  exact F
theorem rowsAt_set {db : List Tb} {x : ByteArray} {p : Nat} {t : Tb} (hp : p < db.length) (hn : t.name = (db.getD p t0).name) : rowsAt (db.set p t) x = if idxN x (nmsOf db) = p then t.rows else rowsAt db x := by
  unfold rowsAt
  rw [nms_set hp hn, getD_setT hp]
  split <;> rfl
/-! a row taken out, a row behind the others -/
theorem rowsV_mono {n : Nat} : ∀ {p q : Int} {l : List R3}, q ≤ p → rowsV n p l = 0 → rowsV n q l = 0
  | p, q, [], _, _ => rfl
  | p, q, r :: l, hq, h => by
    unfold rowsV at h ⊢
    split at h
    · cases h
    · rw [if_neg (by omega)]
      exact h
theorem rowsV_cut {n : Nat} : ∀ {p : Int} {l : List R3} (k : Nat), rowsV n p l = 0 → rowsV n p (l.take k ++ l.drop (k + 1)) = 0
  | p, [], k, _ => by simp [rowsV]
  | p, r :: l, 0, h => by
    rw [List.take_zero, List.nil_append, List.drop_succ_cons, List.drop_zero]
    unfold rowsV at h
    split at h
    · cases h
    · split at h
      · cases h
      · split at h
        · exact rowsV_mono (by omega) h
        · cases h
  | p, r :: l, k + 1, h => by
    rw [List.take_succ_cons, List.drop_succ_cons, List.cons_append]
    unfold rowsV at h ⊢
    split at h
    · cases h
    · rename_i h1
      split at h
      · cases h
      · rename_i h2
        split at h
        · rename_i h3
          rw [if_neg h1, if_neg h2, if_pos h3]
          exact rowsV_cut k h
        · cases h
theorem rowsV_add {n : Nat} {x : R3} (hl : x.2.length = n) (ho : x.2.all okV = true) : ∀ {p : Int} {l : List R3}, rowsV n p l = 0 → p < x.1 → (∀ r ∈ l, r.1 < x.1) → rowsV n p (l ++ [x]) = 0
  | p, [], _, hp, _ => by
    rw [List.nil_append]
    unfold rowsV
    rw [if_neg (by omega), if_neg (fun h => h hl), if_pos ho]
    rfl
  | p, r :: l, h, hp, hx => by
    rw [List.cons_append]
    unfold rowsV at h ⊢
    split at h
    · cases h
    · rename_i h1
      split at h
      · cases h
      · rename_i h2
        split at h
        · rename_i h3
          rw [if_neg h1, if_neg h2, if_pos h3]
          exact rowsV_add hl ho h (hx r List.mem_cons_self) fun y hy => hx y (List.mem_cons_of_mem _ hy)
        · cases h
theorem valid_parts {t : Tb} (h : validS t = 0) : nameB t.name.data.toList = true ∧ ¬ (16 < t.attrs.length ∨ 1000 < t.rows.length) ∧ namesB t.attrs = true ∧ rowsV t.attrs.length 0 t.rows = 0 := by
  unfold validS at h
  split at h
  · rename_i h1
    split at h
    · cases h
    · rename_i h2
      split at h
      · rename_i h3
        exact ⟨h1, h2, h3, h⟩
      · cases h
  · cases h
theorem valid_of {t : Tb} (h1 : nameB t.name.data.toList = true) (h2 : ¬ (16 < t.attrs.length ∨ 1000 < t.rows.length)) (h3 : namesB t.attrs = true) (h4 : rowsV t.attrs.length 0 t.rows = 0) : validS t = 0 := by
  unfold validS
  rw [if_pos h1, if_neg h2, if_pos h3]
  exact h4
theorem like_cut {t : Tb} (h : validS t = 0) (k : Nat) : Like ⟨t.name, t.attrs, t.rows.take k ++ t.rows.drop (k + 1)⟩ t := by
  obtain ⟨h1, h2, h3, h4⟩ := valid_parts h
  refine ⟨rfl, rfl, valid_of h1 ?_ h3 (rowsV_cut k h4)⟩
  simp only [List.length_append, List.length_take, List.length_drop]
  omega
theorem like_add {t : Tb} {x : R3} (h : validS t = 0) (hn : t.rows.length < 1000) (hl : x.2.length = t.attrs.length) (ho : ∀ v ∈ x.2, okV v = true) (h0 : 0 < x.1) (hx : ∀ r ∈ t.rows, r.1 < x.1) : Like ⟨t.name, t.attrs, t.rows ++ [x]⟩ t := by
  obtain ⟨h1, h2, h3, h4⟩ := valid_parts h
  refine ⟨rfl, rfl, valid_of h1 ?_ h3 (rowsV_add hl (List.all_eq_true.2 ho) h4 h0 hx)⟩
  simp only [List.length_append, List.length_singleton]
  omega
theorem mem_cut {l : List R3} {k : Nat} {r : R3} (h : r ∈ l.take k ++ l.drop (k + 1)) : r ∈ l := by
  rcases List.mem_append.1 h with h | h
  · exact List.mem_of_mem_take h
  · exact List.mem_of_mem_drop h
/-! what is missing, shares -/
theorem miss_sub {db db1 : List Tb} {d : Dp} (h : ∀ r ∈ rowsAt db1 d.f, r ∈ rowsAt db d.f) (ht : rowsAt db1 d.t = rowsAt db d.t) : ∀ x ∈ missS db1 d, x ∈ missS db d := by
  intro x hx
  unfold missS at hx ⊢
  have h1 := ((ordV_ord _).2 x).1 hx
  refine ((ordV_ord _).2 x).2 ?_
  unfold valK at h1 ⊢
  obtain ⟨r, hr, rfl⟩ := List.mem_map.1 h1
  refine List.mem_map.2 ⟨r, ?_, rfl⟩
  unfold noP at hr ⊢
  obtain ⟨h2, h3⟩ := List.mem_filter.1 hr
  rw [ht] at h3
  exact List.mem_filter.2 ⟨h _ h2, h3⟩
theorem noP_le (F T : List R3) (x : R3) (a b : List Int) : (noP F (T ++ [x]) a b).length ≤ (noP F T a b).length := by
  unfold noP
  rw [← List.countP_eq_length_filter, ← List.countP_eq_length_filter]
  refine List.countP_mono_left fun y _ hy => ?_
  rw [List.any_append, Bool.not_or, Bool.and_eq_true] at hy
  exact hy.1
theorem cross {n v w : Nat} (hn : 0 < n) (hv : v ≤ n) (hw : w ≤ v) : ((n - v) / Nat.gcd (n - v) n) * (n / Nat.gcd (n - w) n) ≤ ((n - w) / Nat.gcd (n - w) n) * (n / Nat.gcd (n - v) n) := by
  have g1 : 0 < Nat.gcd (n - v) n := Nat.gcd_pos_of_pos_right _ hn
  have g2 : 0 < Nat.gcd (n - w) n := Nat.gcd_pos_of_pos_right _ hn
  have a1 := Nat.div_mul_cancel (Nat.gcd_dvd_left (n - v) n)
  have a2 := Nat.div_mul_cancel (Nat.gcd_dvd_right (n - v) n)
  have b1 := Nat.div_mul_cancel (Nat.gcd_dvd_left (n - w) n)
  have b2 := Nat.div_mul_cancel (Nat.gcd_dvd_right (n - w) n)
  generalize Nat.gcd (n - v) n = p at *
  generalize Nat.gcd (n - w) n = q at *
  generalize (n - v) / p = A at *
  generalize n / p = N1 at *
  generalize (n - w) / q = B at *
  generalize n / q = N2 at *
  have h1 : A * N2 * (p * q) = (n - v) * n := by
    have e : A * N2 * (p * q) = (A * p) * (N2 * q) := by
      simp only [Nat.mul_assoc, Nat.mul_comm, Nat.mul_left_comm]
    rw [e, a1, b2]
  have h2 : B * N1 * (p * q) = (n - w) * n := by
    have e : B * N1 * (p * q) = (B * q) * (N1 * p) := by
      simp only [Nat.mul_assoc, Nat.mul_comm, Nat.mul_left_comm]
    rw [e, b1, a2]
  have h3 : (n - v) * n ≤ (n - w) * n := Nat.mul_le_mul_right n (by omega)
  rw [← h1, ← h2] at h3
  exact Nat.le_of_mul_le_mul_right h3 (Nat.mul_pos g1 g2)
theorem cov_nat {db : List Tb} {d : Dp} (h0 : 0 < (rowsAt db d.f).length) (hn : (rowsAt db d.f).length ≤ 1000) : covS db d = (((((rowsAt db d.f).length - (noP (rowsAt db d.f) (rowsAt db d.t) d.l d.r).length) / Nat.gcd ((rowsAt db d.f).length - (noP (rowsAt db d.f) (rowsAt db d.t) d.l d.r).length) (rowsAt db d.f).length : Nat) : Int), (((rowsAt db d.f).length / Nat.gcd ((rowsAt db d.f).length - (noP (rowsAt db d.f) (rowsAt db d.t) d.l d.r).length) (rowsAt db d.f).length : Nat) : Int), (0 : Int)) := by
  have hv := viol_le (rowsAt db d.f) (rowsAt db d.t) d.l d.r
  unfold covS
  rw [viol_noP, List.length_map] at *
  generalize (noP (rowsAt db d.f) (rowsAt db d.t) d.l d.r).length = v at *
  generalize (rowsAt db d.f).length = n at *
  rw [if_neg (by omega)]
  have e : ((n : Nat) : Int) - ((v : Nat) : Int) = ((n - v : Nat) : Int) := by omega
  rw [e, mkR_nat (by omega) (by omega) (by omega)]
theorem ofT_ids {d : List Rc} (h : goodD d) : ∀ t ∈ ofT d, ∀ r ∈ t.rows, r.1 < 999 := fun t ht r hr => by
  obtain ⟨i, hi, rfl⟩ := List.mem_map.1 ht
  have hi2 := h i (List.mem_range.1 hi)
  obtain ⟨k, hk, rfl⟩ := List.mem_map.1 hr
  have hk2 : k < (d.getD i rc0).rows.length := List.mem_range.1 hk
  show 1 + (k : Int) * (1 + (d.getD i rc0).gap % 3) < 999
  have h3 : (d.getD i rc0).gap % 3 = 0 ∨ (d.getD i rc0).gap % 3 = 1 ∨ (d.getD i rc0).gap % 3 = 2 := by omega
  rcases h3 with h3 | h3 | h3 <;> rw [h3] <;> omega
end Go.Ab.A15
namespace Go.Ab.A15
open Go Go.Ab Go.Ab.A34
theorem fl_tC (l : List Tb) : flCells (tF l) l.length = fC tC l := by
  have e : l = (List.range l.length).map fun i => l.getD i t0 := by
    refine List.ext_getElem (by simp) fun i h1 h2 => ?_
    simp [List.getD_eq_getElem?_getD, h1]
  unfold flCells
  conv => rhs; rw [e]
  unfold fC
  rw [List.flatMap_map]
  rfl
theorem tC_all (l : List Tb) : (fC tC l).all single = true := by
  rw [List.all_eq_true]
  intro x hx
  obtain ⟨r, _, hr⟩ := List.mem_flatMap.1 hx
  simp only [tC, List.mem_cons, List.not_mem_nil, or_false] at hr
  rcases hr with rfl | rfl | rfl <;> rfl
theorem tC_set : ∀ (L : List Tb) (j : Nat) (v : Tb), j < L.length → (((fC tC L).set (j * 3) (Str v.name)).set (j * 3 + 1) (SL v.attrs)).set (j * 3 + 1 + 1) (RL v.rows) = fC tC (L.set j v)
  | [], j, v, h => absurd h (Nat.not_lt_zero _)
  | x :: L, 0, v, h => rfl
  | x :: L, j + 1, v, h => by
    have := tC_set L j v (by simpa using h)
    unfold fC at *
    rw [List.set_cons_succ, List.flatMap_cons, List.flatMap_cons, ← this]
    rw [show (j + 1) * 3 = j * 3 + 1 + 1 + 1 by omega]
    rfl
theorem posL_step {p : LV → Bool} {l : List LV} {i : Nat} (h : i < l.length) : posF p i (l.drop i) = if p (l.getD i []) = true then (i : Int) else posF p (i + 1) (l.drop (i + 1)) := posF_step [] h
theorem posL_end {p : LV → Bool} {l : List LV} {i : Nat} (h : l.length ≤ i) : posF p i (l.drop i) = -1 := by
  rw [List.drop_eq_nil_of_le h]
  rfl
end Go.Ab.A15
namespace Go.Proofs.YtpidncgibgiidaaGreat
open Go Go.Ab Go.Ab.A34 Go.Ab.A15 Go.Ab.A01
variable [Gl] [Tabs]
theorem clone_t (l : List Tb) (h0 : l ≠ []) (hl : l.length ≤ 1000) : Ab.Call Tryz.prog 34 [TL l] [] (fun r h' => ∃ b, r = .os b 0 l.length 3 ∧ h' = [(b, .svs (fC tC l))]) := by
  have hfm := fl_tC l
  have hlp : 0 < l.length := List.length_pos_iff.2 h0
  refine Call.enter' (N := 8) (rs := [.tmp 2]) Tryz.func34 rfl rfl rfl (by decide) rfl ?_; simp only [argT]; have hD : (0 : Nat) = 0 := rfl
  refine SW.seq_k fun K0 hK0 => ?_
  refine SW.region ?_
  simp only [go_sem, hD]
  refine hK0 _ ?_
  clear hK0 K0
  refine SW.seq_k fun K hK => ?_
  refine SW.seq_k fun K2 hK2 => ?_
  refine SW.region_nil (i := 0) (j := 3) (k := 4) rfl rfl rfl rfl rfl rfl Tryz.underlying24 rfl (by decide) (by decide) (fun hn => ?_) ?_
  · omega
  · refine hK2 _ ?_
    clear hK2 K2
    repeat' first | (refine SW.seq_k fun K hK => ?_) | ((first | refine SW.region ?_ | refine SW.cond ?_ | refine SW.skip ?_ | (refine allF_i fun b hb => ?_; replace hD := And.intro hb hD; clear hb; try simp only [fresh_cons, fresh_nil, and_true, ne_eq, neF] at hD) | simp only [appK, appOsK]); try simp only [go_sem, hD]) | (apply hK; clear hK K)
    rw [hfm]
    refine ⟨tC_all l, by omega, by omega, allF_i fun b' hb' => ?_⟩
    apply hK
    clear hK K
    repeat' (refine SW.ret ?_; try simp only [go_sem, hD])
    refine retQ_le (fun M w0 D N a w r => r) ?_
    simp only [resL_tmp, resL_nil, tupOf, go_sem, hD]
    exact ⟨_, rfl, rfl⟩
theorem same_d2 (y v : LV) (hy : SzV y) (hv : SzV v) : PCall Tryz.prog 37 [VL y, .fp [VL v]] (SB (decide (y = v))) := by
  have c := same_v y v hy hv
  generalize decide (y = v) = z at *
  refine Call.enter' (N := 7) (rs := [.tmp 3]) Tryz.func37 rfl rfl rfl (by decide) rfl ?_; simp only [argT]; have hD : (0 : Nat) = 0 := rfl
  repeat' first | (refine SW.seq_k fun K hK => ?_) | ((first | refine SW.region ?_ | refine SW.ret ?_ | refine Call.of_pure (c) ?_); try simp only [go_sem, hD, true_implies]) | (apply hK; clear hK K)
  refine ret_pure ?_; simp only [resL_tmp, resL_nil, tupOf, go_sem, hD]
  try rfl
theorem indexF_lv (g : FuncId) (caps : List SV) (p : LV → Bool) (l : List LV) (hl : l.length ≤ 1000000) (hg : ∀ x ∈ l, PCall Tryz.prog g (VL x :: caps) (SB (p x))) : PCall Tryz.prog 81 [VVL l, .fn (.func g) [] caps] (I64 (posF p 0 l)) := by
  obtain ⟨R, hR⟩ : ∃ R, R = posF p 0 l := ⟨_, rfl⟩
  rw [← hR]
  refine Call.enter' (N := 19) (rs := [.tmp 4]) Tryz.func81 rfl rfl rfl (by decide) rfl ?_; simp only [argT]; have hD : (0 : Nat) = 0 := rfl
  repeat' first | (refine SW.seq_k fun K hK => ?_) | (refine SW.region ?_; try simp only [go_sem, hD, true_implies]) | (apply hK; clear hK K)
  refine SW.block ?_
  obtain ⟨I, hI⟩ : ∃ I : Nat → St → Prop, ∀ k S, I k S ↔ (∃ (i : Nat) , k = l.length - i ∧ i ≤ l.length ∧ R = posF p i (l.drop i) ∧ S = ⟨[(0, VVL l), (1, .fn (.func g) [] caps), (6, VVL l), (7, I64 l.length), (8, I64 i)], []⟩) := ⟨fun k S => _, fun _ _ => Iff.rfl⟩
  refine SW.loop' I (l.length) ((hI _ _).2 ⟨0, rfl, Nat.zero_le _, hR, rfl⟩) (by repeat' (first | exact rfl | exact trivial | constructor)) ?_
  intro k S hIn
  obtain ⟨i, rfl, hi, hC, rfl⟩ := (hI _ _).1 hIn
  clear hIn
  have ie : ((i : Nat) : Int).toNat = i := Int.toNat_natCast _
  have i0 : (0 : Int) ≤ ((i : Nat) : Int) := by omega
  clear hR
  by_cases hlt : i < l.length
  · have hli : ((i : Nat) : Int) < (((l.length) : Nat) : Int) := by omega
    have w1 : IntKind.i64.wrap ((i : Int) + 1) = ((i + 1 : Nat) : Int) := by rw [i64_wrap (by omega) (by omega)]; omega
    rw [posL_step hlt] at hC
    have fi : vlF l i = [VL (l.getD i [])] := rfl
    have c := hg _ (getD_mem' [] hlt)
    generalize l.getD i [] = v at *
    cases hp : p v with
    | true =>
      rw [if_pos hp] at hC
      rw [hp] at c
      subst hC
      repeat' first | (refine SW.seq_k fun K hK => ?_) | (refine SW.block ?_) | ((first | refine SW.region ?_ | refine SW.cond ?_ | refine SW.skip ?_ | refine SW.ret ?_ | refine Call.of_pure (c) ?_); try simp only [go_sem, hD, hli, ie, i0, w1, fi, true_implies]) | (apply hK; clear hK K)
      refine ret_pure ?_; simp only [resL_tmp, resL_nil, tupOf, go_sem, hD]
    | false =>
      rw [if_neg (by rw [hp]; simp)] at hC
      rw [hp] at c
      repeat' first | (refine SW.seq_k fun K hK => ?_) | (refine SW.block ?_) | ((first | refine SW.region ?_ | refine SW.cond ?_ | refine SW.skip ?_ | refine Call.of_pure (c) ?_); try simp only [go_sem, hD, hli, ie, i0, w1, fi, true_implies]) | (apply hK; clear hK K)
      refine Rnd.sub (l.length - (i + 1)) (by omega) ((hI _ _).2 ⟨i + 1, rfl, by omega, hC, rfl⟩) (by repeat' (first | exact rfl | exact trivial | constructor))
  · have hli : ¬ ((i : Nat) : Int) < (((l.length) : Nat) : Int) := by omega
    rw [posL_end (by omega)] at hC
    subst hC
    repeat' first | (refine SW.seq_k fun K hK => ?_) | ((first | refine SW.region ?_ | refine SW.cond ?_ | refine SW.exit ?_ | refine SW.ret ?_); try simp only [go_sem, hD, hli, true_implies]) | (apply hK; clear hK K) | (clear hK K; apply hK; clear hK K)
    refine ret_pure ?_; simp only [resL_tmp, resL_nil, tupOf, go_sem, hD]
theorem contF_lv (v : LV) (l : List LV) (hl : l.length ≤ 1000000) (hs : ∀ x ∈ l, SzV x) (hv : SzV v) (hm : v ∈ l) : PCall Tryz.prog 36 [VVL l, .fn (.func 37) [] [.fp [VL v]]] (SB true) := by
  have ix := indexF_lv 37 [.fp [VL v]] (fun y => decide (y = v)) l hl (fun x hx => same_d2 x v (hs x hx) hv)
  have ha : l.any (fun y => decide (y = v)) = true := List.any_eq_true.2 ⟨v, hm, decide_eq_true rfl⟩
  have hz := (posF_any (fun y => decide (y = v)) l 0).2 ha
  generalize posF (fun y => decide (y = v)) 0 l = z at *
  have hz2 : z ≥ 0 := hz
  refine Call.enter' (N := 9) (rs := [.tmp 4]) Tryz.func36 rfl rfl rfl (by decide) rfl ?_; simp only [argT]; have hD : (0 : Nat) = 0 := rfl
  repeat' first | (refine SW.seq_k fun K hK => ?_) | ((first | refine SW.region ?_ | refine SW.ret ?_ | refine Call.of_pure (ix) ?_); try simp only [go_sem, hD, hz, hz2, true_implies]) | (apply hK; clear hK K)
  refine ret_pure ?_; simp only [resL_tmp, resL_nil, tupOf, go_sem, hD]
  try rfl
end Go.Proofs.YtpidncgibgiidaaGreat
namespace Go.Proofs.YtpidncgibgiidaaGreat
open Go Go.Ab Go.Ab.A34 Go.Ab.A15 Go.Ab.A01
variable [Gl] [Tabs]
theorem rows_ins (db : List Tb) (S : Sm db) (g : Dp) (hv : vE db g = 0) (hok : OkD g) (hpq : ¬ idxN g.f (nmsOf db) = idxN g.t (nmsOf db)) (h0 : 0 < (rowsAt db g.f).length) (h6 : ∀ t ∈ db, t.rows.length ≤ 6) (h9 : ∀ t ∈ db, ∀ r ∈ t.rows, r.1 < 999) (vs : LV)
    (hl : vs.length = (db.getD (idxN g.t (nmsOf db)) t0).attrs.length) (ho : ∀ v ∈ vs, okV v = true) (hin : ∀ v ∈ vs, inV v) :
    ∃ (u1 : Tb) (db2 : List Tb) (a1 a2 b1 b2 : Int), PCall Tryz.prog 39 [TB (db.getD (idxN g.t (nmsOf db)) t0), .agg [I64 999, VL vs]] (.tup [TB u1, I64 0]) ∧ db2 = db.set (idxN g.t (nmsOf db)) u1 ∧ PCall Tryz.prog 31 [DB db, DV g] (FR (a1, a2, 0)) ∧ PCall Tryz.prog 31 [DB db2, DV g] (FR (b1, b2, 0)) ∧ IntKind.i64.wrap (a1 * b2) = a1 * b2 ∧ IntKind.i64.wrap (b1 * a2) = b1 * a2 ∧ a1 * b2 ≤ b1 * a2 := by
  obtain ⟨V, F⟩ := vE_ok hv
  have hn3 := S.n3
  have l2 := idxN_lt F.t
  have nl : (nmsOf db).length = db.length := by unfold nmsOf; rw [List.length_map]
  rw [nl] at l2
  have mq : db.getD (idxN g.t (nmsOf db)) t0 ∈ db := getD_mem' t0 l2
  have hvu := V.v _ mq
  have h6q := h6 _ mq
  have lk := like_add (x := (999, vs)) hvu (by omega) hl ho (show (0 : Int) < 999 by decide) (h9 _ mq)
  have ci := insert_r (db.getD (idxN g.t (nmsOf db)) t0) 999 vs hvu hl ho (by decide) (h9 _ mq) (by omega)
  have hv2 := vE_set hv (by omega) l2 lk
  have kf := (rows_k V F.f).n
  have cc0 := coverage_p db g (by omega) hok S.okn hv
  have cc2 := coverage_p _ g (by rw [List.length_set]; omega) hok (okn_set S.okn (fun r hr v hv3 => by
    rcases List.mem_append.1 hr with h | h
    · exact S.okn _ mq r h v hv3
    · rw [List.mem_singleton.1 h] at hv3
      exact hin v hv3)) hv2
  have e1 : rowsAt (db.set (idxN g.t (nmsOf db)) ⟨(db.getD (idxN g.t (nmsOf db)) t0).name, (db.getD (idxN g.t (nmsOf db)) t0).attrs, (db.getD (idxN g.t (nmsOf db)) t0).rows ++ [(999, vs)]⟩) g.f = rowsAt db g.f := by
    rw [rowsAt_set l2 lk.n, if_neg hpq]
  have e2 : rowsAt (db.set (idxN g.t (nmsOf db)) ⟨(db.getD (idxN g.t (nmsOf db)) t0).name, (db.getD (idxN g.t (nmsOf db)) t0).attrs, (db.getD (idxN g.t (nmsOf db)) t0).rows ++ [(999, vs)]⟩) g.t = rowsAt db g.t ++ [(999, vs)] := by
    rw [rowsAt_set l2 lk.n, if_pos rfl]
    rfl
  have c1 := cov_nat (d := g) h0 kf
  have c2 := cov_nat (db := db.set (idxN g.t (nmsOf db)) ⟨(db.getD (idxN g.t (nmsOf db)) t0).name, (db.getD (idxN g.t (nmsOf db)) t0).attrs, (db.getD (idxN g.t (nmsOf db)) t0).rows ++ [(999, vs)]⟩) (d := g) (by rw [e1]; exact h0) (by rw [e1]; exact kf)
  rw [e1, e2] at c2
  have hle := noP_le (rowsAt db g.f) (rowsAt db g.t) (999, vs) g.l g.r
  have hvl : (noP (rowsAt db g.f) (rowsAt db g.t) g.l g.r).length ≤ (rowsAt db g.f).length := List.length_filter_le _ _
  generalize (noP (rowsAt db g.f) (rowsAt db g.t) g.l g.r).length = v at *
  generalize (noP (rowsAt db g.f) (rowsAt db g.t ++ [(999, vs)]) g.l g.r).length = w at *
  generalize (rowsAt db g.f).length = n at *
  rw [c1] at cc0
  rw [c2] at cc2
  have hx := cross h0 hvl hle
  have b1 := Nat.div_le_self (n - v) (Nat.gcd (n - v) n)
  have b2 := Nat.div_le_self n (Nat.gcd (n - v) n)
  have b3 := Nat.div_le_self (n - w) (Nat.gcd (n - w) n)
  have b4 := Nat.div_le_self n (Nat.gcd (n - w) n)
  generalize (n - v) / Nat.gcd (n - v) n = A at *
  generalize n / Nat.gcd (n - v) n = B at *
  generalize (n - w) / Nat.gcd (n - w) n = C at *
  generalize n / Nat.gcd (n - w) n = E at *
  have m1 : A * E ≤ 1000 * 1000 := Nat.mul_le_mul (by omega) (by omega)
  have m2 : C * B ≤ 1000 * 1000 := Nat.mul_le_mul (by omega) (by omega)
  have z1 : (A : Int) * (E : Int) = ((A * E : Nat) : Int) := (Int.natCast_mul A E).symm
  have z2 : (C : Int) * (B : Int) = ((C * B : Nat) : Int) := (Int.natCast_mul C B).symm
  refine ⟨_, _, (A : Int), (B : Int), (C : Int), (E : Int), ci, rfl, cc0, cc2, ?_, ?_, ?_⟩
  · rw [z1, i64_wrap (by omega) (by omega)]
  · rw [z2, i64_wrap (by omega) (by omega)]
  · rw [z1, z2]
    omega
theorem rows_m (d : List Rc) (db : List Tb) (x : Lk) (iz : Int) (of : PCall Tryz.prog 10 [RcL d] (.tup [DB db, SB true])) (S : Sm db) (Dr : Dra db) (hI9 : ∀ t ∈ db, ∀ r ∈ t.rows, r.1 < 999) (h2 : 2 ≤ db.length) (h3 : x.l.length ≤ 8) (h4 : x.r.length ≤ 8) (hx : OkK x) (hiz : 0 ≤ iz ∧ iz < 256) : PCall Tryz.prog 8 [RcL d, LkV x, U8 iz] (SB true) := by
  have e2 : ¬ ((db.length : Nat) : Int) < 2 := by omega
  have e3 : ¬ (8 : Int) < ((x.l.length : Nat) : Int) := by omega
  have e4 : ¬ (8 : Int) < ((x.r.length : Nat) : Int) := by omega
  have hn3 := S.n3
  have aw := awake_c
  have ci := ind_r db x hx (by omega) (by omega) (fun t ht => by have := S.a3 t ht; omega)
  have hF := ind_fit Dr (by omega) x
  have hv := (vE_fit S.chk).2 hF
  have hl3 := fit_len3 Dr hF
  have hok : OkD (indS db x) := ⟨by omega, by omega⟩
  obtain ⟨V, _⟩ := vE_ok hv
  have r6 := Dr.r6
  generalize indS db x = g at *
  have nl : (nmsOf db).length = db.length := by unfold nmsOf; rw [List.length_map]
  have l1 := idxN_lt hF.f
  have l2 := idxN_lt hF.t
  rw [nl] at l1 l2
  have ctf := table_r g.f db db.length (by omega) rfl (tF db) (fun i hi => rfl)
  rw [tabI_idx (i := 0) hF.f, Nat.zero_add] at ctf
  have ctt := table_r g.t db db.length (by omega) rfl (tF db) (fun i hi => rfl)
  rw [tabI_idx (i := 0) hF.t, Nat.zero_add] at ctt
  have cm0 := missing_p db g (by omega) hok S.okn hv
  obtain ⟨m0l, m0s⟩ := miss_sz hv
  have hra : ∀ y, (db.getD (idxN y (nmsOf db)) t0).rows = rowsAt db y := fun y => rfl
  have mp : db.getD (idxN g.f (nmsOf db)) t0 ∈ db := getD_mem' t0 l1
  have mq : db.getD (idxN g.t (nmsOf db)) t0 ∈ db := getD_mem' t0 l2
  have p1 : ((idxN g.f (nmsOf db) : Nat) : Int) < ((db.length : Nat) : Int) := by omega
  have p0 : (0 : Int) ≤ ((idxN g.f (nmsOf db) : Nat) : Int) := by omega
  have pe : ((idxN g.f (nmsOf db) : Nat) : Int).toNat = idxN g.f (nmsOf db) := Int.toNat_natCast _
  have ffp : tF db (idxN g.f (nmsOf db)) = tC (db.getD (idxN g.f (nmsOf db)) t0) := rfl
  obtain ⟨xf, xt, xl, xr⟩ := x
  simp only at h3 h4 e3 e4
  by_cases hft : g.f = g.t
  · have hfb : (g.f.toList == g.t.toList) = true := barr_eq.2 hft
    obtain ⟨gf, gl, gt, gr⟩ := g
    simp only at *
    refine Call.enter' (N := 221) (rs := [.tmp 6]) Tryz.func8 rfl rfl rfl (by decide) rfl ?_; simp only [argT]; have hD : (0 : Nat) = 0 := rfl
    repeat' first | (refine SW.seq_k fun K hK => ?_) | ((first | refine SW.region ?_ | refine SW.cond ?_ | refine SW.skip ?_ | refine SW.ret ?_ | refine Call.of_pure (of) ?_ | refine Call.of_pure (aw) ?_ | refine Call.of_pure (ci) ?_ | refine Call.of_pure (ctf) ?_ | refine Call.of_pure (cm0) ?_ | (refine allF_i fun b hb => ?_; replace hD := And.intro hb hD; clear hb; try simp only [fresh_cons, fresh_nil, and_true, ne_eq, neF] at hD)); try simp only [go_sem, hD, e2, e3, e4, hfb, true_implies]) | (apply hK; clear hK K)
    refine ret_pure ?_; simp only [resL_tmp, resL_nil, tupOf, go_sem, hD]
  · have hfb : (g.f.toList == g.t.toList) = false := by rw [Bool.eq_false_iff]; exact fun h => hft (barr_eq.1 h)
    by_cases hr0 : (rowsAt db g.f).length = 0
    · have hr0i : (((rowsAt db g.f).length : Nat) : Int) = 0 := by omega
      rw [← hra] at hr0i
      generalize missS db g = M0 at *
      generalize db.getD (idxN g.f (nmsOf db)) t0 = t at *
      generalize idxN g.f (nmsOf db) = p at *
      obtain ⟨tn, ta, tr⟩ := t
      obtain ⟨gf, gl, gt, gr⟩ := g
      have ft2 : tC ⟨tn, ta, tr⟩ = [Str tn, SL ta, RL tr] := rfl
      simp only at *
      refine Call.enter' (N := 221) (rs := [.tmp 6]) Tryz.func8 rfl rfl rfl (by decide) rfl ?_; simp only [argT]; have hD : (0 : Nat) = 0 := rfl
      repeat' first | (refine SW.seq_k fun K hK => ?_) | ((first | refine SW.region ?_ | refine SW.cond ?_ | refine SW.skip ?_ | refine SW.ret ?_ | refine Call.of_pure (of) ?_ | refine Call.of_pure (aw) ?_ | refine Call.of_pure (ci) ?_ | refine Call.of_pure (ctf) ?_ | refine Call.of_pure (cm0) ?_ | (refine allF_i fun b hb => ?_; replace hD := And.intro hb hD; clear hb; try simp only [fresh_cons, fresh_nil, and_true, ne_eq, neF] at hD)); try simp only [go_sem, hD, e2, e3, e4, hfb, p0, p1, pe, ffp, ft2, hr0i, true_implies]) | (apply hK; clear hK K)
      refine ret_pure ?_; simp only [resL_tmp, resL_nil, tupOf, go_sem, hD]
    · have hpq : ¬ idxN g.f (nmsOf db) = idxN g.t (nmsOf db) := fun e => hft (idxN_inj hF.f hF.t e)
      have kf := rows_k V hF.f
      have r6p := r6 _ mp
      have r6q := r6 _ mq
      have hvt := V.v _ mp
      have hvu := V.v _ mq
      have hids := (valid_ids hvt).2
      have h9q := hI9 _ mq
      have hnT := S.okn _ mp
      have hnU := S.okn _ mq
      obtain ⟨k, hke⟩ : ∃ k, k = (iz % ((rowsAt db g.f).length : Int)).toNat := ⟨_, rfl⟩
      have hk : k < (rowsAt db g.f).length := by
        have := Int.emod_lt_of_pos iz (show (0 : Int) < ((rowsAt db g.f).length : Int) by omega)
        have := Int.emod_nonneg iz (show ((rowsAt db g.f).length : Int) ≠ 0 by omega)
        omega
      have hkm : Int.tmod iz ((rowsAt db g.f).length : Int) = ((k : Nat) : Int) := by
        rw [Int.tmod_eq_emod_of_nonneg hiz.1, hke]
        have := Int.emod_nonneg iz (show ((rowsAt db g.f).length : Int) ≠ 0 by omega)
        omega
      have hokr : ∀ v ∈ ((db.getD (idxN g.f (nmsOf db)) t0).rows.getD k r0).2, okV v = true := kf.v _ (getD_mem r0 hk)
      have hinr : ∀ v ∈ ((db.getD (idxN g.f (nmsOf db)) t0).rows.getD k r0).2, inV v := hnT _ (getD_mem r0 hk)
      have hins := fun hl => rows_ins db S g hv hok hpq (by omega) r6 hI9 ((db.getD (idxN g.f (nmsOf db)) t0).rows.getD k r0).2 hl hokr hinr
      have cd := delete_r (db.getD (idxN g.f (nmsOf db)) t0) k hk hvt hids
      have lk1 := like_cut hvt k
      obtain ⟨t1, ht1⟩ : ∃ t1 : Tb, t1 = ⟨(db.getD (idxN g.f (nmsOf db)) t0).name, (db.getD (idxN g.f (nmsOf db)) t0).attrs, (db.getD (idxN g.f (nmsOf db)) t0).rows.take k ++ (db.getD (idxN g.f (nmsOf db)) t0).rows.drop (k + 1)⟩ := ⟨_, rfl⟩
      rw [← ht1] at cd lk1
      have hm1 : ∀ r ∈ t1.rows, r ∈ (db.getD (idxN g.f (nmsOf db)) t0).rows := fun r hr => by
        rw [ht1] at hr
        exact mem_cut hr
      clear ht1
      obtain ⟨db1, hdb1⟩ : ∃ db1, db1 = db.set (idxN g.f (nmsOf db)) t1 := ⟨_, rfl⟩
      have hl1 : db1.length = db.length := by rw [hdb1, List.length_set]
      have hv1 : vE db1 g = 0 := by rw [hdb1]; exact vE_set hv (by omega) l1 lk1
      have cm1 := missing_p db1 g (by omega) hok (by rw [hdb1]; exact okn_set S.okn (fun r hr => hnT r (hm1 r hr))) hv1
      obtain ⟨m1l, m1s⟩ := miss_sz hv1
      have hsub := miss_sub (db := db) (db1 := db1) (d := g) (fun r hr => by
        rw [hdb1, rowsAt_set l1 lk1.n, if_pos rfl] at hr
        exact hm1 r hr) (by rw [hdb1, rowsAt_set l1 lk1.n, if_neg (Ne.symm hpq)])
      have cct : ∀ v ∈ missS db1 g, PCall Tryz.prog 36 [VVL (missS db g), .fn (.func 37) [] [.fp [VL v]]] (SB true) := fun v hvm => contF_lv v _ (by omega) m0s (m1s v hvm) (hsub v hvm)
      have s1 := tC_set db (idxN g.f (nmsOf db)) t1 l1
      rw [← hdb1] at s1
      have hc1 : (fC tC db1).length = db.length * 3 := by rw [← fC_len (enc := tC) (k := 3) (fun _ => rfl), hl1]
      have hc0 : (fC tC db).length = db.length * 3 := by rw [← fC_len (enc := tC) (k := 3) (fun _ => rfl)]
      clear hsub m1s hv1 lk1 hm1 hdb1
      have ctc := clone_t db (fun e => by rw [e] at h2; simp at h2) (by omega)
      generalize missS db1 g = M1 at *
      generalize missS db g = M0 at *
      have frw : rF (db.getD (idxN g.f (nmsOf db)) t0).rows k = rC ((db.getD (idxN g.f (nmsOf db)) t0).rows.getD k r0) := rfl
      have q1 : ((idxN g.t (nmsOf db) : Nat) : Int) < ((db.length : Nat) : Int) := by omega
      have q0 : (0 : Int) ≤ ((idxN g.t (nmsOf db) : Nat) : Int) := by omega
      have qe : ((idxN g.t (nmsOf db) : Nat) : Int).toNat = idxN g.t (nmsOf db) := Int.toNat_natCast _
      have ffq : tF db (idxN g.t (nmsOf db)) = tC (db.getD (idxN g.t (nmsOf db)) t0) := rfl
      have hrn : ¬ (((db.getD (idxN g.f (nmsOf db)) t0).rows.length : Nat) : Int) = 0 := by
        rw [hra]
        omega
      have hki : ((k : Nat) : Int) < (((db.getD (idxN g.f (nmsOf db)) t0).rows.length : Nat) : Int) := by
        rw [hra]
        omega
      rw [← hra] at hkm
      have k0 : (0 : Int) ≤ ((k : Nat) : Int) := by omega
      have ke : ((k : Nat) : Int).toNat = k := Int.toNat_natCast _
      have wiz : IntKind.i64.wrap iz = iz := i64_wrap (by omega) (by omega)
      have ft : ∀ a b c, tC ⟨a, b, c⟩ = [Str a, SL b, RL c] := fun _ _ _ => rfl
      have fr : ∀ a b, rC (a, b) = [I64 a, VL b] := fun _ _ => rfl
      generalize hrow : (db.getD (idxN g.f (nmsOf db)) t0).rows.getD k r0 = row at *
      generalize ht : db.getD (idxN g.f (nmsOf db)) t0 = t at *
      generalize hu : db.getD (idxN g.t (nmsOf db)) t0 = u at *
      generalize hp : idxN g.f (nmsOf db) = p at *
      generalize hq : idxN g.t (nmsOf db) = q at *
      obtain ⟨tn, ta, tr⟩ := t
      obtain ⟨un, ua, ur⟩ := u
      obtain ⟨t1n, t1a, t1r⟩ := t1
      obtain ⟨row1, row2⟩ := row
      obtain ⟨gf, gl, gt, gr⟩ := g
      simp only at *
      refine Call.enter' (N := 221) (rs := [.tmp 6]) Tryz.func8 rfl rfl rfl (by decide) rfl ?_; simp only [argT]; have hD : (0 : Nat) = 0 := rfl
      have ctc0 : Ab.Call Tryz.prog 34 [TL db] [] (fun r h' => ∃ b, r = .os b 0 db.length 3 ∧ h' = [(b, .svs (fC tC db))]) := ctc
      repeat' first | ((refine Ab.SW.le (St.le_freezeP (i := 4) (n := 4) (k := .svs (LkC ⟨xf, xt, xl, xr⟩)) rfl (by rw [find_cons, if_pos rfl]) (by exact Nat.le_refl 4)) ?_); (rw [del_head]); (simp only [getN, Blk.get])) | ((refine Ab.SW.le (St.le_freezeP (i := 7) (n := 1) rfl (by rw [find_cons, if_pos rfl]) (by exact Nat.le_refl 1)) ?_); (rw [del_head]); (simp only [getN, Blk.get])) | ((refine Ab.SW.le (St.le_freezeP (i := 9) (n := 4) rfl (by rw [find_cons, if_pos rfl]) (by exact Nat.le_refl 4)) ?_); (rw [del_head]); (simp only [getN, Blk.get])) | ((with_reducible refine Call.mono ctc0 ?_); (intro rr h' hx); (obtain ⟨cb, rfl, rfl⟩ := hx); (refine stop_i ?_)) | (refine SW.seq_k fun K hK => ?_) | ((first | refine SW.region ?_ | refine SW.cond ?_ | refine SW.skip ?_ | refine Call.of_pure (of) ?_ | refine Call.of_pure (aw) ?_ | refine Call.of_pure (ci) ?_ | refine Call.of_pure (ctf) ?_ | refine Call.of_pure (cm0) ?_ | (refine allF_i fun b hb => ?_; replace hD := And.intro hb hD; clear hb; try simp only [fresh_cons, fresh_nil, and_true, ne_eq, neF] at hD)); try simp only [go_sem, hD, e2, e3, e4, hfb, p0, p1, pe, ffp, ft, hrn, true_implies]) | (apply hK; clear hK K)
      refine ⟨?_⟩
      clear of aw ci ctf cm0 ctc0 hD
      have hD : (0 : Nat) = 0 := rfl
      try simp only [go_sem, hD]
      repeat' first | (refine SW.seq_k fun K hK => ?_) | ((first | refine SW.region ?_ | (refine allF_i fun b hb => ?_; replace hD := And.intro hb hD; clear hb; try simp only [fresh_cons, fresh_nil, and_true, ne_eq, neF] at hD)); try simp only [go_sem, hD, p0, p1, pe, ffp, ft, true_implies]) | (apply hK; clear hK K)
      obtain ⟨lb, rfl⟩ : ∃ x, x = b := ⟨_, rfl⟩
      have hcl : ¬ lb = cb := by simp [hD]
      have hcl2 : ¬ cb = lb := by simp [hD]
      have key : ∃ C Q', (∀ S, Ab.SW Tryz.prog 221 C Q' S → K S) ∧ Ab.SW Tryz.prog 221 C Q' ⟨[(2, U8 iz), (7, .fp [TL db]), (9, .fp [Str gf, IL gl, Str gt, IL gr]), (10, I64 p), (11, VVL M0), (13, .fp [TL db1]), (14, RL tr)], []⟩ := by
        refine ⟨_, _, hK, ?_⟩
        clear hK K hD
        have hD : (0 : Nat) = 0 := rfl
        repeat' first | (refine SW.seq_k fun K hK => ?_) | ((first | refine SW.region ?_ | refine SW.cond ?_ | refine SW.skip ?_ | refine Call.of_pure (cm1) ?_); try simp only [go_sem, hD, true_implies]) | (apply hK; clear hK K)
        refine Ab.SW.le (St.le_sub (l := [(2, U8 iz), (7, .fp [TL db]), (9, .fp [Str gf, IL gl, Str gt, IL gr]), (11, VVL M0), (14, RL tr), (131, VVL M1), (132, I64 M1.length), (133, I64 (0 : Nat))]) (by repeat' (first | exact rfl | exact trivial | constructor))) ?_
        refine SW.block ?_
        obtain ⟨I, hI⟩ : ∃ I : Nat → St → Prop, ∀ k S, I k S ↔ (∃ (j : Nat) , k = M1.length - j ∧ j ≤ M1.length ∧ 0 = 0 ∧ S = ⟨[(2, U8 iz), (7, .fp [TL db]), (9, .fp [Str gf, IL gl, Str gt, IL gr]), (11, VVL M0), (14, RL tr), (131, VVL M1), (132, I64 M1.length), (133, I64 j)], []⟩) := ⟨fun k S => _, fun _ _ => Iff.rfl⟩
        refine SW.loop' I (M1.length) ((hI _ _).2 ⟨0, rfl, Nat.zero_le _, rfl, rfl⟩) (by repeat' (first | exact rfl | exact trivial | constructor)) ?_
        intro k S hIn
        obtain ⟨j, rfl, hi, hC, rfl⟩ := (hI _ _).1 hIn
        clear hIn
        have ie : ((j : Nat) : Int).toNat = j := Int.toNat_natCast _
        have i0 : (0 : Int) ≤ ((j : Nat) : Int) := by omega
        by_cases hlt : j < M1.length
        · have hli : ((j : Nat) : Int) < (((M1.length) : Nat) : Int) := by omega
          have w1 : IntKind.i64.wrap ((j : Int) + 1) = ((j + 1 : Nat) : Int) := by rw [i64_wrap (by omega) (by omega)]; omega
          have fi : vlF M1 j = [VL (M1.getD j [])] := rfl
          have cc := cct _ (getD_mem' [] hlt)
          generalize M1.getD j [] = v at *
          repeat' first | ((refine Ab.SW.le (St.le_freezeP (i := 18) (n := 1) rfl (by rw [find_cons, if_pos rfl]) (by exact Nat.le_refl 1)) ?_); (rw [del_head]); (simp only [getN, Blk.get])) | (refine SW.seq_k fun K hK => ?_) | (refine SW.block ?_) | ((first | refine SW.region ?_ | refine SW.cond ?_ | refine SW.skip ?_ | refine Call.of_pure (cc) ?_ | (refine allF_i fun b hb => ?_; replace hD := And.intro hb hD; clear hb; try simp only [fresh_cons, fresh_nil, and_true, ne_eq, neF] at hD)); try simp only [go_sem, hD, hli, ie, i0, w1, fi, true_implies]) | (apply hK; clear hK K)
          refine Rnd.sub (M1.length - (j + 1)) (by omega) ((hI _ _).2 ⟨j + 1, rfl, by omega, rfl, rfl⟩) (by repeat' (first | exact rfl | exact trivial | constructor))
        · have hli : ¬ ((j : Nat) : Int) < (((M1.length) : Nat) : Int) := by omega
          clear hI cct
          by_cases hlen : row2.length = ua.length
          · obtain ⟨u1, db2, a1, a2, b1, b2, cin, hdb2, cc0, cc2, w2, w3, hcr⟩ := hins hlen
            obtain ⟨u1n, u1a, u1r⟩ := u1
            have hl2 : db2.length = db.length := by rw [hdb2, List.length_set]
            have s2 := tC_set db q ⟨u1n, u1a, u1r⟩ l2
            rw [← hdb2] at s2
            simp only at s2
            have hc2 : (fC tC db2).length = db.length * 3 := by rw [← fC_len (enc := tC) (k := 3) (fun _ => rfl), hl2]
            have hTL2 : SV.fl db.length 3 (tF db2) = TL db2 := by rw [← hl2]
            have hli2 : ((row2.length : Nat) : Int) = ((ua.length : Nat) : Int) := by omega
            clear hins hdb2
            repeat' first | ((refine Ab.SW.le (St.le_freezeP (i := 20) (n := 2) rfl (by rw [find_cons, if_pos rfl]) (by exact Nat.le_refl 2)) ?_); (rw [del_head]); (simp only [getN, Blk.get])) | (refine SW.seq_k fun K hK => ?_) | ((first | refine SW.region ?_ | refine SW.cond ?_ | refine SW.exit ?_ | refine Call.of_pure (ctt) ?_ | (refine allF_i fun b hb => ?_; replace hD := And.intro hb hD; clear hb; try simp only [fresh_cons, fresh_nil, and_true, ne_eq, neF] at hD)); try simp only [go_sem, hD, hli, q0, q1, qe, ffq, ft, fr, frw, k0, ke, hki, hkm, hrn, wiz, hli2, true_implies]) | (apply hK; clear hK K) | (clear hK K; apply hK; clear hK K)
            repeat' first | ((with_reducible refine Call.mono ctc ?_); (intro rr h' hx); (obtain ⟨cb2, rfl, rfl⟩ := hx); (refine stop_i ?_)) | (refine SW.seq_k fun K hK => ?_) | ((first | refine SW.region ?_ | refine SW.regionZ (id := 23) (Checked.mixed Tryz.checked) ((.one 0 [0, 1, 2, 10] (.one 1 [1, 2, 10] (.one 2 [2, 10] (.one 3 [3, 4, 6, 7, 8, 9, 10] (.one 4 [4, 6, 7, 8, 9, 10] (.one 5 [5, 6, 7, 8, 9, 10] (.one 6 [6, 7, 8, 9, 10] (.one 7 [7, 8, 9, 10] (.one 8 [8, 9, 10] (.one 9 [9, 10] (.one 10 [10] .done))))))))))) : OZ) (by kernel_rfl) ?_ | refine SW.cond ?_ | refine SW.skip ?_); try simp only [go_sem, hD, q0, q1, qe, ffq, ft, hli2, true_implies]) | (apply hK; clear hK K)
            refine ⟨?_⟩
            clear ctt hD
            have hD : (0 : Nat) = 0 := rfl
            try simp only [go_sem, hD]
            repeat' first | (refine SW.seq_k fun K hK => ?_) | ((refine allF_i fun b hb => ?_; replace hD := And.intro hb hD; clear hb; try simp only [fresh_cons, fresh_nil, and_true, ne_eq, neF] at hD); try simp only [go_sem, hD, q0, q1, qe, ffq, ft, true_implies]) | (apply hK; clear hK K)
            obtain ⟨lb2, rfl⟩ : ∃ x, x = b := ⟨_, rfl⟩
            have hcl : ¬ lb2 = cb2 := by simp [hD]
            have hcl2 : ¬ cb2 = lb2 := by simp [hD]
            have key2 : ∃ C Q', (∀ S, Ab.SW Tryz.prog 221 C Q' S → K S) ∧ Ab.SW Tryz.prog 221 C Q' ⟨[(7, .fp [TL db]), (9, .fp [Str gf, IL gl, Str gt, IL gr]), (16, I64 0), (21, .fp [TL db2])], []⟩ := by
              refine ⟨_, _, hK, ?_⟩
              clear hK K hD
              have hD : (0 : Nat) = 0 := rfl
              repeat' first | (refine SW.seq_k fun K hK => ?_) | ((first | refine SW.region ?_ | refine SW.ret ?_ | refine Call.of_pure (cc0) ?_ | refine Call.of_pure (cc2) ?_ | (refine allF_i fun b hb => ?_; replace hD := And.intro hb hD; clear hb; try simp only [fresh_cons, fresh_nil, and_true, ne_eq, neF] at hD)); try simp only [go_sem, hD, w2, w3, hcr, true_implies]) | (apply hK; clear hK K)
              all_goals
                refine ret_pure ?_; simp only [resL_tmp, resL_nil, tupOf, go_sem, hD]
            obtain ⟨C, Q', hK2, key2⟩ := key2
            clear hK
            clear hD
            have hD := And.intro (eq_false hcl) (eq_false hcl2)
            have zq : 0 + q * 3 = q * 3 := by omega
            repeat' first | (with_reducible refine And.intro (by omega) ?_) | ((first | refine SW.regionZ (id := 26) (Checked.mixed Tryz.checked) ((.one 0 [0, 1, 15, 16, 17] (.one 1 [1, 15, 16, 17] (.one 2 [2, 15, 16, 17] (.one 3 [3, 4, 6, 7, 11, 12, 13, 14, 15, 16, 17] (.one 4 [4, 6, 7, 11, 12, 13, 14, 15, 16, 17] (.one 5 [5, 6, 7, 11, 12, 13, 14, 15, 16, 17] (.one 6 [6, 7, 11, 12, 13, 14, 15, 16, 17] (.one 7 [7, 11, 12, 13, 14, 15, 16, 17] (.one 8 [8, 9, 10, 11, 12, 13, 14, 15, 16, 17] (.one 9 [9, 10, 11, 12, 13, 14, 15, 16, 17] (.one 10 [10, 11, 12, 13, 14, 15, 16, 17] (.one 11 [11, 12, 13, 14, 15, 16, 17] (.one 12 [12, 13, 14, 15, 16, 17] (.one 13 [13, 15, 16, 17] (.one 15 [15, 16, 17] (.alt 14 (.alt 16 (.one 17 [17] .done) .nil) (.alt 16 (.one 14 [14, 17] (.one 17 [17] .done)) .nil))))))))))))))))) : OZ) (by kernel_rfl) ?_ | refine ⟨_, cin, ?_⟩); try simp only [go_sem, hD, q0, q1, qe, ffq, ft, hc0, zq, true_implies]) | (refine And.intro ?_ ?_)
            all_goals
              rw [s2]
              refine hK2 _ (Ab.SW.le ?_ key2)
              refine St.le.trans (St.le_freezeC (c := lb2) (j := 0) (b := cb2) (off := 0) (len := db.length) (sz := 3) (k := .svs (fC tC db2)) (cs := [.os cb2 0 db.length 3]) (by rw [find_cons, if_pos rfl]) hcl (by show 0 < 1; omega) rfl (by rw [find_cons, if_neg hcl, find_cons, if_pos rfl]) (by rw [Blk.len_svs, hc2]; omega) (tF db2) (fun j hj => by
                rw [getN_take _ _ _ (by rw [Blk.len_svs, hc2]; omega), Nat.zero_add]
                exact fC_at (enc := tC) (k := 3) (fun _ => rfl) t0 db2 j (by omega))) ?_
              rw [del_cons, if_neg hcl, del_cons, if_pos rfl, upd_cons, if_pos rfl]
              simp only [List.set_cons_zero]
              rw [hTL2]
              refine St.le.trans (St.le_freezeP (i := 21) (b := lb2) (off := 0) (n := 1) rfl (by rw [find_cons, if_pos rfl]) (by exact Nat.le_refl 1)) ?_
              rw [del_head]
              simp only [getN, Blk.get]
              exact St.le_sub (by repeat' (first | exact rfl | exact trivial | constructor))
          · have hli2 : ¬ ((row2.length : Nat) : Int) = ((ua.length : Nat) : Int) := by omega
            clear hins
            repeat' first | ((refine Ab.SW.le (St.le_freezeP (i := 20) (n := 2) rfl (by rw [find_cons, if_pos rfl]) (by exact Nat.le_refl 2)) ?_); (rw [del_head]); (simp only [getN, Blk.get])) | (refine SW.seq_k fun K hK => ?_) | ((first | refine SW.region ?_ | refine SW.regionD (Checked.mixed Tryz.checked) (by kernel_rfl) ?_ | refine SW.cond ?_ | refine SW.exit ?_ | refine SW.ret ?_ | refine Call.of_pure (ctt) ?_ | (refine allF_i fun b hb => ?_; replace hD := And.intro hb hD; clear hb; try simp only [fresh_cons, fresh_nil, and_true, ne_eq, neF] at hD)); try simp only [go_sem, hD, hli, q0, q1, qe, ffq, ft, fr, frw, k0, ke, hki, hkm, hrn, wiz, hli2, true_implies]) | (apply hK; clear hK K) | (clear hK K; apply hK; clear hK K)
            all_goals
              refine ret_pure ?_; simp only [resL_tmp, resL_nil, tupOf, go_sem, hD]
      obtain ⟨C, Q', hK2, key⟩ := key
      clear hK
      clear hD
      have hD := And.intro (eq_false hcl) (eq_false hcl2)
      have zp : 0 + p * 3 = p * 3 := by omega
      have hTL : SV.fl db.length 3 (tF db1) = TL db1 := by rw [← hl1]
      repeat' first | (with_reducible refine And.intro (by omega) ?_) | ((first | refine SW.regionZ (id := 11) (Checked.mixed Tryz.checked) ((.one 0 [0, 1, 21, 22] (.one 1 [1, 21, 22] (.one 2 [2, 21, 22] (.one 3 [3, 4, 6, 7, 17, 18, 19, 20, 21, 22] (.one 4 [4, 6, 7, 17, 18, 19, 20, 21, 22] (.one 5 [5, 6, 7, 17, 18, 19, 20, 21, 22] (.one 6 [6, 7, 17, 18, 19, 20, 21, 22] (.one 7 [7, 17, 18, 19, 20, 21, 22] (.one 8 [8, 14, 15, 16, 17, 18, 19, 20, 21, 22] (.one 9 [9, 10, 13, 14, 15, 16, 17, 18, 19, 20, 21, 22] (.one 10 [10, 13, 14, 15, 16, 17, 18, 19, 20, 21, 22] (.one 11 [11, 12, 13, 14, 15, 16, 17, 18, 19, 20, 21, 22] (.one 12 [12, 13, 14, 15, 16, 17, 18, 19, 20, 21, 22] (.one 13 [13, 14, 15, 16, 17, 18, 19, 20, 21, 22] (.one 14 [14, 15, 16, 17, 18, 19, 20, 21, 22] (.one 15 [15, 16, 17, 18, 19, 20, 21, 22] (.one 16 [16, 17, 18, 19, 20, 21, 22] (.one 17 [17, 18, 19, 20, 21, 22] (.one 18 [18, 19, 20, 21, 22] (.one 19 [19, 21, 22] (.one 21 [21, 22] (.alt 20 (.alt 22 .done .nil) (.alt 22 (.one 20 [20] .done) .nil))))))))))))))))))))))) : OZ) (by kernel_rfl) ?_ | refine ⟨_, cd, ?_⟩); try simp only [go_sem, hD, p0, p1, pe, ffp, ft, fr, frw, k0, ke, hki, hkm, hrn, wiz, hc0, zp, true_implies]) | (refine And.intro ?_ ?_)
      all_goals
        rw [s1]
        refine hK2 _ (Ab.SW.le ?_ key)
        refine St.le.trans (St.le_freezeC (c := lb) (j := 0) (b := cb) (off := 0) (len := db.length) (sz := 3) (k := .svs (fC tC db1)) (cs := [.os cb 0 db.length 3]) (by rw [find_cons, if_pos rfl]) hcl (by show 0 < 1; omega) rfl (by rw [find_cons, if_neg hcl, find_cons, if_pos rfl]) (by rw [Blk.len_svs, hc1]; omega) (tF db1) (fun j hj => by
          rw [getN_take _ _ _ (by rw [Blk.len_svs, hc1]; omega), Nat.zero_add]
          exact fC_at (enc := tC) (k := 3) (fun _ => rfl) t0 db1 j (by omega))) ?_
        rw [del_cons, if_neg hcl, del_cons, if_pos rfl, upd_cons, if_pos rfl]
        simp only [List.set_cons_zero]
        rw [hTL]
        refine St.le.trans (St.le_freezeP (i := 13) (b := lb) (off := 0) (n := 1) rfl (by rw [find_cons, if_pos rfl]) (by exact Nat.le_refl 1)) ?_
        rw [del_head]
        simp only [getN, Blk.get]
        exact St.le_sub (by repeat' (first | exact rfl | exact trivial | constructor))
theorem law_rows (d : List Rc) (x : Lk) (iz : Int) (hd : OkRcs d) (hdl : d.length ≤ 9223372036854775807) (hx : OkK x) (hiz : 0 ≤ iz ∧ iz < 256) : PCall Tryz.prog 8 [RcL d, LkV x, U8 iz] (SB true) := by
  have of := of_r d hd hdl
  have aw := awake_c
  by_cases h1 : goodD d
  · rw [ofV_good h1] at of
    have S := sm_dra h1
    have Dr := ofT_dra h1
    have hI9 := ofT_ids h1
    generalize ofT d = db at *
    generalize decide (d.length ≤ 3) = D3 at *
    cases D3 with
    | false =>
      obtain ⟨xf, xt, xl, xr⟩ := x
      refine Call.enter' (N := 221) (rs := [.tmp 6]) Tryz.func8 rfl rfl rfl (by decide) rfl ?_; simp only [argT]; have hD : (0 : Nat) = 0 := rfl
      repeat' first | (refine SW.seq_k fun K hK => ?_) | ((first | refine SW.region ?_ | refine SW.cond ?_ | refine SW.ret ?_ | refine Call.of_pure (of) ?_ | refine Call.of_pure (aw) ?_ | (refine allF_i fun b hb => ?_; replace hD := And.intro hb hD; clear hb; try simp only [fresh_cons, fresh_nil, and_true, ne_eq, neF] at hD)); try simp only [go_sem, hD, true_implies]) | (apply hK; clear hK K)
      all_goals
        refine ret_pure ?_; simp only [resL_tmp, resL_nil, tupOf, go_sem, hD]
    | true =>
      by_cases h2 : db.length < 2
      · obtain ⟨xf, xt, xl, xr⟩ := x
        have e2 : ((db.length : Nat) : Int) < 2 := by omega
        refine Call.enter' (N := 221) (rs := [.tmp 6]) Tryz.func8 rfl rfl rfl (by decide) rfl ?_; simp only [argT]; have hD : (0 : Nat) = 0 := rfl
        repeat' first | (refine SW.seq_k fun K hK => ?_) | ((first | refine SW.region ?_ | refine SW.cond ?_ | refine SW.ret ?_ | refine Call.of_pure (of) ?_ | refine Call.of_pure (aw) ?_ | (refine allF_i fun b hb => ?_; replace hD := And.intro hb hD; clear hb; try simp only [fresh_cons, fresh_nil, and_true, ne_eq, neF] at hD)); try simp only [go_sem, hD, e2, true_implies]) | (apply hK; clear hK K)
        all_goals
          refine ret_pure ?_; simp only [resL_tmp, resL_nil, tupOf, go_sem, hD]
      · have e2 : ¬ ((db.length : Nat) : Int) < 2 := by omega
        by_cases h3 : 8 < x.l.length
        · obtain ⟨xf, xt, xl, xr⟩ := x
          have e3 : (8 : Int) < ((xl.length : Nat) : Int) := by simp only at h3; omega
          refine Call.enter' (N := 221) (rs := [.tmp 6]) Tryz.func8 rfl rfl rfl (by decide) rfl ?_; simp only [argT]; have hD : (0 : Nat) = 0 := rfl
          repeat' first | (refine SW.seq_k fun K hK => ?_) | ((first | refine SW.region ?_ | refine SW.cond ?_ | refine SW.ret ?_ | refine Call.of_pure (of) ?_ | refine Call.of_pure (aw) ?_ | (refine allF_i fun b hb => ?_; replace hD := And.intro hb hD; clear hb; try simp only [fresh_cons, fresh_nil, and_true, ne_eq, neF] at hD)); try simp only [go_sem, hD, e2, e3, true_implies]) | (apply hK; clear hK K)
          all_goals
            refine ret_pure ?_; simp only [resL_tmp, resL_nil, tupOf, go_sem, hD]
        · by_cases h4 : 8 < x.r.length
          · obtain ⟨xf, xt, xl, xr⟩ := x
            have e3 : ¬ (8 : Int) < ((xl.length : Nat) : Int) := by simp only at h3; omega
            have e4 : (8 : Int) < ((xr.length : Nat) : Int) := by simp only at h4; omega
            refine Call.enter' (N := 221) (rs := [.tmp 6]) Tryz.func8 rfl rfl rfl (by decide) rfl ?_; simp only [argT]; have hD : (0 : Nat) = 0 := rfl
            repeat' first | (refine SW.seq_k fun K hK => ?_) | ((first | refine SW.region ?_ | refine SW.cond ?_ | refine SW.ret ?_ | refine Call.of_pure (of) ?_ | refine Call.of_pure (aw) ?_ | (refine allF_i fun b hb => ?_; replace hD := And.intro hb hD; clear hb; try simp only [fresh_cons, fresh_nil, and_true, ne_eq, neF] at hD)); try simp only [go_sem, hD, e2, e3, e4, true_implies]) | (apply hK; clear hK K)
            all_goals
              refine ret_pure ?_; simp only [resL_tmp, resL_nil, tupOf, go_sem, hD]
          · exact rows_m d db x iz of S Dr hI9 (by omega) (by omega) (by omega) hx hiz
  · rw [ofV_bad h1] at of
    obtain ⟨xf, xt, xl, xr⟩ := x
    refine Call.enter' (N := 221) (rs := [.tmp 6]) Tryz.func8 rfl rfl rfl (by decide) rfl ?_; simp only [argT]; have hD : (0 : Nat) = 0 := rfl
    repeat' first | (refine SW.seq_k fun K hK => ?_) | ((first | refine SW.region ?_ | refine SW.cond ?_ | refine SW.ret ?_ | refine Call.of_pure (of) ?_ | refine Call.of_pure (aw) ?_ | (refine allF_i fun b hb => ?_; replace hD := And.intro hb hD; clear hb; try simp only [fresh_cons, fresh_nil, and_true, ne_eq, neF] at hD)); try simp only [go_sem, hD, true_implies]) | (apply hK; clear hK K)
    all_goals
      refine ret_pure ?_; simp only [resL_tmp, resL_nil, tupOf, go_sem, hD]
end Go.Proofs.YtpidncgibgiidaaGreat
