/- Several texts in one: P9, L0, HE, IA, NS, IB, IC, ID, IE, IF. -/
import Derived.Test.YtpidncgibgiidaaGreatQ3
import Derived.Test.YtpidncgibgiidaaGreatQ1
import Derived.Test.YtpidncgibgiidaaGreatZ18
set_option linter.unusedSimpArgs false
set_option linter.unusedVariables false
set_option linter.unusedSectionVars false
set_option maxHeartbeats 4000000
set_option maxRecDepth 20000
namespace Go.Ab.A15
open Go Go.Ab Go.Ab.A34
theorem emp_nil9 : emp (⟨#[]⟩ : ByteArray) = true := barr_eq.2 rfl
theorem code_okV9 (c : Int) : okV (codeV c) = true := by
  have e := emp_nil9
  unfold codeV
  repeat' split
  all_goals (unfold okV vok; simp [e])
  all_goals decide
theorem nm_ok9 : ∀ n, n < 6 → namesB (nm8.take n) = true := by decide +kernel
theorem nmT_ok (i : Nat) : nameB (nmT i).data.toList = true := by
  unfold nmT
  split
  · decide +kernel
  · split <;> decide +kernel
theorem nmT_inj {i j : Nat} (hi : i < 3) (hj : j < 3) (h : nmT i = nmT j) : i = j := by
  have k1 : ¬ (⟨#[114]⟩ : ByteArray) = ⟨#[115]⟩ := by decide
  have k2 : ¬ (⟨#[114]⟩ : ByteArray) = ⟨#[116]⟩ := by decide
  have k3 : ¬ (⟨#[115]⟩ : ByteArray) = ⟨#[116]⟩ := by decide
  have hi3 : i = 0 ∨ i = 1 ∨ i = 2 := by omega
  have hj3 : j = 0 ∨ j = 1 ∨ j = 2 := by omega
  rcases hi3 with rfl | rfl | rfl <;> rcases hj3 with rfl | rfl | rfl <;> first | rfl | (simp only [nmT, if_pos, if_neg, if_true, if_false, reduceCtorEq, Nat.reduceEqDiff, ↓reduceIte] at h; first | exact absurd h k1 | exact absurd h k2 | exact absurd h k3 | exact absurd h.symm k1 | exact absurd h.symm k2 | exact absurd h.symm k3)
theorem tabD_attrs (x : Rc) (i : Nat) : (tabD x i).attrs.length ≤ 3 := by
  show (nm8.take (x.attrs % 4 % 6).toNat).length ≤ 3
  rw [List.length_take]
  have : (x.attrs % 4 % 6).toNat ≤ 3 := by omega
  omega
theorem tabD_rows (x : Rc) (i : Nat) : (tabD x i).rows.length = x.rows.length := by
  show ((List.range x.rows.length).map _).length = _
  simp
theorem tabD_rlen (x : Rc) (i : Nat) : ∀ r ∈ (tabD x i).rows, r.2.length ≤ 6 := fun r hr => by
  obtain ⟨k, _, rfl⟩ := List.mem_map.1 hr
  show (((List.range (x.attrs % 4 % 6).toNat).map _).length) ≤ 6
  rw [List.length_map, List.length_range]
  omega
theorem tabD_valid (x : Rc) (i : Nat) (h : x.rows.length ≤ 1000) : validS (tabD x i) = 0 := by
  obtain ⟨n, hn0⟩ : ∃ n, n = (x.attrs % 4 % 6).toNat := ⟨_, rfl⟩
  have hn : n < 6 := by omega
  have hal : (nm8.take n).length = n := by
    rw [List.length_take]
    have : nm8.length = 8 := rfl
    omega
  obtain ⟨g, hg⟩ : ∃ g, g = 1 + x.gap % 3 := ⟨_, rfl⟩
  have hg1 : 1 ≤ g := by omega
  have hr : ∀ (k j : Nat) (p : Int), p < 1 + (j : Int) * g → rowsV n p ((List.range' j k).map fun i => rowS x.gap n i (x.rows.getD i [])) = 0 := fun k => by
    induction k with
    | zero => intro j p _; rfl
    | succ k ih =>
      intro j p hp
      have e1 : (rowS x.gap n j (x.rows.getD j [])).1 = 1 + (j : Int) * g := by rw [hg]; rfl
      rw [List.range'_succ, List.map_cons, rowsV, e1, if_neg (by omega), if_neg (by simp [rowS]), if_pos (by
        rw [List.all_eq_true]
        intro v hv
        unfold rowS at hv
        obtain ⟨c, _, rfl⟩ := List.mem_map.1 hv
        exact code_okV9 _)]
      refine ih (j + 1) _ ?_
      have : ((j + 1 : Nat) : Int) * g = (j : Int) * g + g := by rw [Int.natCast_add, Int.add_mul]; simp
      rw [this]
      omega
  have hlen := tabD_rows x i
  have hat : (tabD x i).attrs = nm8.take n := by rw [hn0]; rfl
  have hro : (tabD x i).rows = (List.range x.rows.length).map fun i => rowS x.gap n i (x.rows.getD i []) := by rw [hn0]; rfl
  unfold validS
  rw [if_pos (show nameB (tabD x i).name.data.toList = true from nmT_ok i), if_neg (show ¬ (16 < (tabD x i).attrs.length ∨ 1000 < (tabD x i).rows.length) by rw [hlen, hat, hal]; omega), hat, if_pos (nm_ok9 n hn), hro, List.range_eq_range', hal]
  exact hr _ 0 0 (by omega)
theorem chkF_zero {db : List Tb} (hv : ∀ j, j < db.length → validS (db.getD j t0) = 0) (hn : ∀ j, j < db.length → tabI (db.getD j t0).name 0 (db.take j) < 0) : ∀ (g i : Nat), i + g = db.length → chkF db g i = 0
  | 0, i, _ => rfl
  | g + 1, i, h => by
    have h1 := hn i (by omega)
    unfold chkF
    rw [if_neg (fun x => x (hv i (by omega))), if_neg (by omega)]
    exact chkF_zero hv hn g (i + 1) (by omega)
theorem chkS_of {db : List Tb} (h : Vdb db) (hl : db.length ≤ 50) : chkS db = 0 := by
  unfold chkS
  rw [if_neg (by omega)]
  refine chkF_zero (fun j hj => h.v _ (getD_mem' t0 hj)) (fun j hj => ?_) _ 0 (by omega)
  rcases tabI_is (x := (db.getD j t0).name) (l := db.take j) (i := 0) with ⟨h1, _⟩ | ⟨k, _, h2, h3, _⟩
  · omega
  · exfalso
    rw [List.length_take] at h2
    have e : (db.take j).getD k t0 = db.getD k t0 := by simp [List.getD_eq_getElem?_getD, List.getElem?_take, show k < j by omega]
    rw [e] at h3
    have hp := List.pairwise_iff_getElem.1 h.n k j (by unfold nmsOf; rw [List.length_map]; omega) (by unfold nmsOf; rw [List.length_map]; omega) (by omega)
    unfold nmsOf at hp
    rw [List.getElem_map, List.getElem_map] at hp
    refine hp ?_
    rw [show db.getD k t0 = db[k] by simp [List.getD_eq_getElem?_getD, show k < db.length by omega], show db.getD j t0 = db[j] by simp [List.getD_eq_getElem?_getD, hj]] at h3
    exact h3
theorem fitsS_of {db : List Tb} {d : Dp} (h : Fit (nmsOf db) (nsOf db) d) : fitsS db d = 0 := by
  have ef := tabI_idx (i := 0) h.f
  have et := tabI_idx (i := 0) h.t
  have gn : ∀ i, (nsOf db).getD i 0 = (db.getD i t0).attrs.length := fun i => by
    unfold nsOf
    simp only [List.getD_eq_getElem?_getD, List.getElem?_map]
    cases db[i]? <;> rfl
  unfold fitsS
  rw [ef, et]
  simp only [Nat.zero_add, Int.toNat_natCast]
  rw [if_neg (by omega), if_neg, if_pos ⟨h.nl, h.nr⟩]
  rintro (h1 | h1 | h1)
  · exact h1 h.lr
  · have := winB_iff.2 (fun a ha => by have := h.l a ha; rw [gn] at this; exact this : ∀ a ∈ d.l, 0 ≤ a ∧ a < ((db.getD (idxN d.f (nmsOf db)) t0).attrs.length : Int))
    rw [this] at h1
    cases h1
  · have := winB_iff.2 (fun a ha => by have := h.r a ha; rw [gn] at this; exact this : ∀ a ∈ d.r, 0 ≤ a ∧ a < ((db.getD (idxN d.t (nmsOf db)) t0).attrs.length : Int))
    rw [this] at h1
    cases h1
structure Dra (db : List Tb) : Prop where
  vd : Vdb db
  n3 : db.length ≤ 3
  a3 : ∀ t ∈ db, t.attrs.length ≤ 3
  rl : ∀ t ∈ db, ∀ r ∈ t.rows, r.2.length ≤ 6
  r6 : ∀ t ∈ db, t.rows.length ≤ 6
  nm : ∀ j, j < db.length → (db.getD j t0).name = nmT j
theorem ofT_dra {d : List Rc} (h : goodD d) : Dra (ofT d) := by
  have hl : (ofT d).length = min d.length 3 := by simp [ofT]
  have hm : ∀ t ∈ ofT d, ∃ i, i < min d.length 3 ∧ t = tabD (d.getD i rc0) i := fun t ht => by
    obtain ⟨i, hi, rfl⟩ := List.mem_map.1 ht
    exact ⟨i, List.mem_range.1 hi, rfl⟩
  have hg : ∀ j, j < (ofT d).length → ((ofT d).getD j t0).name = nmT j := fun j hj => by
    rw [hl] at hj
    unfold ofT
    rw [getD_range _ _ hj]
    rfl
  refine ⟨⟨fun t ht => ?_, ?_⟩, by omega, fun t ht => ?_, fun t ht => ?_, fun t ht => ?_, hg⟩
  · obtain ⟨i, hi, rfl⟩ := hm t ht
    exact tabD_valid _ _ (by have := h i hi; omega)
  · refine List.pairwise_iff_getElem.2 fun i j hi hj hij e => ?_
    unfold nmsOf at hi hj e
    rw [List.length_map] at hi hj
    rw [List.getElem_map, List.getElem_map] at e
    have g1 := hg i hi
    have g2 := hg j hj
    rw [show (ofT d).getD i t0 = (ofT d)[i] by simp [List.getD_eq_getElem?_getD, hi]] at g1
    rw [show (ofT d).getD j t0 = (ofT d)[j] by simp [List.getD_eq_getElem?_getD, hj]] at g2
    rw [g1, g2] at e
    have := nmT_inj (by omega) (by omega) e
    omega
  · obtain ⟨i, hi, rfl⟩ := hm t ht
    exact tabD_attrs _ _
  · obtain ⟨i, hi, rfl⟩ := hm t ht
    exact tabD_rlen _ _
  · obtain ⟨i, hi, rfl⟩ := hm t ht
    rw [tabD_rows]
    exact h i hi
theorem idx_at {db : List Tb} (h : (nmsOf db).Nodup) {j : Nat} (hj : j < db.length) : (db.getD j t0).name ∈ nmsOf db ∧ idxN (db.getD j t0).name (nmsOf db) = j := by
  have hm : (db.getD j t0).name ∈ nmsOf db := List.mem_map.2 ⟨_, getD_mem' t0 hj, rfl⟩
  refine ⟨hm, ?_⟩
  have h2 := idxN_lt hm
  have h2' : idxN (db.getD j t0).name (nmsOf db) < db.length := by unfold nmsOf at h2; rwa [List.length_map] at h2
  rcases tabI_is (x := (db.getD j t0).name) (l := db) (i := 0) with ⟨_, h3⟩ | ⟨k, e1, h4, h5, _⟩
  · exact absurd rfl (h3 _ (getD_mem' t0 hj))
  · have e2 := tabI_idx (i := 0) hm
    have ek : idxN (db.getD j t0).name (nmsOf db) = k := by omega
    rw [ek]
    refine Classical.byContradiction fun hne => ?_
    have hp := List.pairwise_iff_getElem.1 h
    have g1 : db.getD j t0 = db[j] := by simp [List.getD_eq_getElem?_getD, hj]
    have g2 : db.getD k t0 = db[k] := by simp [List.getD_eq_getElem?_getD, h4]
    rcases Nat.lt_or_gt_of_ne hne with hlt | hgt
    · have := hp k j (by unfold nmsOf; rw [List.length_map]; exact h4) (by unfold nmsOf; rw [List.length_map]; exact hj) hlt
      unfold nmsOf at this
      rw [List.getElem_map, List.getElem_map, ← g1, ← g2] at this
      exact this h5
    · have := hp j k (by unfold nmsOf; rw [List.length_map]; exact hj) (by unfold nmsOf; rw [List.length_map]; exact h4) hgt
      unfold nmsOf at this
      rw [List.getElem_map, List.getElem_map, ← g1, ← g2] at this
      exact this h5.symm
end Go.Ab.A15
namespace Go.Ab.A15
open Go Go.Ab Go.Ab.A34
theorem dra_okdb {db : List Tb} (h : Dra db) : OkDb db := fun t ht r hr => by have := h.rl t ht r hr; omega
end Go.Ab.A15
namespace Go.Proofs.YtpidncgibgiidaaGreat
open Go Go.Ab Go.Ab.A34 Go.Ab.A15
theorem ofV_bad {d : List Rc} (h : ¬ goodD d) : ofV d = .tup [.agg [SN], SB false] := if_neg h
theorem ofV_good {d : List Rc} (h : goodD d) : ofV d = .tup [DB (ofT d), SB (decide (d.length ≤ 3))] := if_pos h
end Go.Proofs.YtpidncgibgiidaaGreat
namespace Go.Ab.A15
open Go Go.Ab Go.Ab.A34
def hldB (db : List Tb) (d : Dp) : Bool := decide (vE db d = 0) && (violS (rowsAt db d.f) (rowsAt db d.t) d.l d.r).isEmpty
theorem viol_nil {F T : List R3} {a b : List Int} : violS F T a b = [] ↔ ∀ x ∈ F, ∃ y ∈ T, Agr v0 a b x.2 y.2 := by
  unfold violS violP
  rw [List.take_length, List.map_eq_nil_iff, List.filter_eq_nil_iff]
  constructor
  · intro h x hx
    have := h x hx
    simp only [Bool.not_eq_true', Bool.not_eq_false, List.any_eq_true] at this
    obtain ⟨y, hy, e⟩ := this
    exact ⟨y, hy, agB_iff.1 e⟩
  · intro h x hx
    obtain ⟨y, hy, e⟩ := h x hx
    simp only [Bool.not_eq_true', Bool.not_eq_false, List.any_eq_true]
    exact ⟨y, hy, agB_iff.2 e⟩
theorem posFd_step {p : Dp → Bool} {l : List Dp} {i : Nat} (h : i < l.length) : posF p i (l.drop i) = if p (l.getD i d0) = true then (i : Int) else posF p (i + 1) (l.drop (i + 1)) := posF_step d0 h
end Go.Ab.A15
namespace Go.Proofs.YtpidncgibgiidaaGreat
open Go Go.Ab Go.Ab.A34 Go.Ab.A15
variable [Gl] [Tabs]
theorem holds_r (db : List Tb) (d : Dp) (hdb : db.length ≤ 9223372036854775807) (hok : OkDb db) (hd : OkD d) : PCall Tryz.prog 29 [DB db, DV d] (SB (hldB db d)) := by
  by_cases h : vE db d = 0
  · have c := viol_r db d hdb hok hd h
    unfold hldB
    rw [h, decide_eq_true rfl]
    generalize violS (rowsAt db d.f) (rowsAt db d.t) d.l d.r = W at *
    obtain ⟨df, dl, dt, dr⟩ := d
    cases W with
    | nil =>
      refine Call.enter' (N := 20) (rs := [.tmp 4]) Tryz.func29 rfl rfl rfl (by decide) rfl ?_; simp only [argT]; have hD : (0 : Nat) = 0 := rfl
      repeat' first | (refine SW.seq_k fun K hK => ?_) | ((first | refine SW.region ?_ | refine SW.ret ?_ | refine Call.of_pure (c) ?_ | (refine allF_i fun b hb => ?_; replace hD := And.intro hb hD; clear hb; try simp only [fresh_cons, fresh_nil, and_true, ne_eq, neF] at hD)); try simp only [go_sem, hD, true_implies]) | (apply hK; clear hK K)
      refine ret_pure ?_; simp only [resL_tmp, resL_nil, tupOf, go_sem, hD]
      try rfl
    | cons x W =>
      have hw : ¬ (((x :: W).length : Nat) : Int) = 0 := by rw [List.length_cons]; omega
      generalize hXW : x :: W = Y at *
      have hY : Y.isEmpty = false := by rw [← hXW]; rfl
      rw [hY]
      refine Call.enter' (N := 20) (rs := [.tmp 4]) Tryz.func29 rfl rfl rfl (by decide) rfl ?_; simp only [argT]; have hD : (0 : Nat) = 0 := rfl
      repeat' first | (refine SW.seq_k fun K hK => ?_) | ((first | refine SW.region ?_ | refine SW.ret ?_ | refine Call.of_pure (c) ?_ | (refine allF_i fun b hb => ?_; replace hD := And.intro hb hD; clear hb; try simp only [fresh_cons, fresh_nil, and_true, ne_eq, neF] at hD)); try simp only [go_sem, hD, hw, true_implies]) | (apply hK; clear hK K)
      refine ret_pure ?_; simp only [resL_tmp, resL_nil, tupOf, go_sem, hD]
      try rfl
  · have c := viol_rbad db d hdb hok hd h
    unfold hldB
    rw [decide_eq_false h]
    generalize vE db d = v at *
    obtain ⟨df, dl, dt, dr⟩ := d
    refine Call.enter' (N := 20) (rs := [.tmp 4]) Tryz.func29 rfl rfl rfl (by decide) rfl ?_; simp only [argT]; have hD : (0 : Nat) = 0 := rfl
    repeat' first | (refine SW.seq_k fun K hK => ?_) | ((first | refine SW.region ?_ | refine SW.ret ?_ | refine Call.of_pure (c) ?_ | (refine allF_i fun b hb => ?_; replace hD := And.intro hb hD; clear hb; try simp only [fresh_cons, fresh_nil, and_true, ne_eq, neF] at hD)); try simp only [go_sem, hD, h, true_implies]) | (apply hK; clear hK K)
    refine ret_pure ?_; simp only [resL_tmp, resL_nil, tupOf, go_sem, hD]
    try rfl
theorem indexF_d (g : FuncId) (caps : List SV) (p : Dp → Bool) (l : List Dp) (hl : l.length ≤ 1000000) (hg : ∀ d ∈ l, PCall Tryz.prog g (DV d :: caps) (SB (p d))) : PCall Tryz.prog 52 [DpL l, .fn (.func g) [] caps] (I64 (posF p 0 l)) := by
  obtain ⟨R, hR⟩ : ∃ R, R = posF p 0 l := ⟨_, rfl⟩
  rw [← hR]
  refine Call.enter' (N := 19) (rs := [.tmp 4]) Tryz.func52 rfl rfl rfl (by decide) rfl ?_; simp only [argT]; have hD : (0 : Nat) = 0 := rfl
  repeat' first | (refine SW.seq_k fun K hK => ?_) | (refine SW.block ?_) | (refine SW.region ?_; try simp only [go_sem, hD]) | (apply hK; clear hK K)
  obtain ⟨I, hI⟩ : ∃ I : Nat → St → Prop, ∀ k S, I k S ↔ (∃ (i : Nat) , k = l.length - i ∧ i ≤ l.length ∧ R = posF p i (l.drop i) ∧ S = ⟨[(0, DpL l), (1, .fn (.func g) [] caps), (7, I64 l.length), (8, I64 i)], []⟩) := ⟨fun k S => _, fun _ _ => Iff.rfl⟩
  refine SW.loop' I (l.length) ((hI _ _).2 ⟨0, rfl, Nat.zero_le _, hR, rfl⟩) (by repeat' (first | exact rfl | exact trivial | constructor)) ?_
  intro k S hIn
  obtain ⟨i, rfl, hi, hC, rfl⟩ := (hI _ _).1 hIn
  clear hIn
  have ie : ((i : Nat) : Int).toNat = i := Int.toNat_natCast _
  have i0 : (0 : Int) ≤ ((i : Nat) : Int) := by omega
  clear hR
  by_cases hlt : i < l.length
  · have hli : ((i : Nat) : Int) < (((l.length) : Nat) : Int) := by omega
    have w1 : IntKind.i64.wrap ((i : Int) + 1) = ((i + 1 : Nat) : Int) := by rw [i64_wrap (by omega) (by omega)]; omega
    rw [posFd_step hlt] at hC
    have fi : dpF l i = dC (l.getD i d0) := rfl
    have c := hg _ (getD_mem' d0 hlt)
    generalize l.getD i d0 = t at *
    obtain ⟨df, dl, dt, dr⟩ := t
    cases he : p ⟨df, dl, dt, dr⟩ with
    | true =>
      rw [he] at c
      rw [he, if_pos rfl] at hC
      subst hC
      repeat' first | (refine SW.seq_k fun K hK => ?_) | (refine SW.block ?_) | ((first | refine SW.region ?_ | refine SW.cond ?_ | refine SW.skip ?_ | refine SW.ret ?_ | refine Call.of_pure (c) ?_); try simp only [go_sem, hD, hli, ie, i0, w1, fi]) | (apply hK; clear hK K)
      refine ret_pure ?_; simp only [resL_tmp, resL_nil, tupOf, go_sem, hD]
    | false =>
      rw [he] at c
      rw [he, if_neg (by simp)] at hC
      repeat' first | (refine SW.seq_k fun K hK => ?_) | (refine SW.block ?_) | ((first | refine SW.region ?_ | refine SW.cond ?_ | refine SW.skip ?_ | refine Call.of_pure (c) ?_); try simp only [go_sem, hD, hli, ie, i0, w1, fi]) | (apply hK; clear hK K)
      refine Rnd.sub (l.length - (i + 1)) (by omega) ((hI _ _).2 ⟨i + 1, rfl, by omega, hC, rfl⟩) (by repeat' (first | exact rfl | exact trivial | constructor))
  · have hli : ¬ ((i : Nat) : Int) < (((l.length) : Nat) : Int) := by omega
    rw [List.drop_of_length_le (by omega)] at hC
    have hC2 : R = -1 := hC
    subst hC2
    repeat' first | (refine SW.seq_k fun K hK => ?_) | ((first | refine SW.region ?_ | refine SW.cond ?_ | refine SW.exit ?_ | refine SW.ret ?_); try simp only [go_sem, hD, hli]) | (apply hK; clear hK K) | (clear hK K; apply hK; clear hK K)
    refine ret_pure ?_; simp only [resL_tmp, resL_nil, tupOf, go_sem, hD]
theorem contF_d (g : FuncId) (caps : List SV) (p : Dp → Bool) (l : List Dp) (hl : l.length ≤ 1000000) (hg : ∀ d ∈ l, PCall Tryz.prog g (DV d :: caps) (SB (p d))) : PCall Tryz.prog 20 [DpL l, .fn (.func g) [] caps] (SB (l.any p)) := by
  have ix := indexF_d g caps p l hl hg
  have hm := posF_any p l 0
  generalize posF p 0 l = z at *
  cases ha : l.any p with
  | true =>
    have hz := hm.2 ha
    refine Call.enter' (N := 9) (rs := [.tmp 4]) Tryz.func20 rfl rfl rfl (by decide) rfl ?_; simp only [argT]; have hD : (0 : Nat) = 0 := rfl
    repeat' first | (refine SW.seq_k fun K hK => ?_) | ((first | refine SW.region ?_ | refine SW.ret ?_ | refine Call.of_pure (ix) ?_); try simp only [go_sem, hD, hz, true_implies]) | (apply hK; clear hK K)
    refine ret_pure ?_; simp only [resL_tmp, resL_nil, tupOf, go_sem, hD]
  | false =>
    have hz : ¬ 0 ≤ z := fun h => by have := hm.1 h; rw [ha] at this; cases this
    refine Call.enter' (N := 9) (rs := [.tmp 4]) Tryz.func20 rfl rfl rfl (by decide) rfl ?_; simp only [argT]; have hD : (0 : Nat) = 0 := rfl
    repeat' first | (refine SW.seq_k fun K hK => ?_) | ((first | refine SW.region ?_ | refine SW.ret ?_ | refine Call.of_pure (ix) ?_); try simp only [go_sem, hD, hz, true_implies]) | (apply hK; clear hK K)
    refine ret_pure ?_; simp only [resL_tmp, resL_nil, tupOf, go_sem, hD]
end Go.Proofs.YtpidncgibgiidaaGreat
namespace Go.Ab.A15
open Go Go.Ab Go.Ab.A34
theorem tabI_any (x : ByteArray) : ∀ (l : List Tb) (i : Nat), (0 ≤ tabI x i l) ↔ l.any (fun t => decide (t.name = x)) = true
  | [], i => by simp [tabI]
  | t :: l, i => by
    unfold tabI
    rw [List.any_cons]
    by_cases h : t.name = x
    · rw [if_pos h, decide_eq_true h]
      simp
    · rw [if_neg h, decide_eq_false h, Bool.false_or]
      exact tabI_any x l (i + 1)
def chkD (db : List Tb) : Int := if chkS db = 0 then (if 6 < db.length ∨ db.any (fun t => decide (6 < t.attrs.length)) = true then 3 else 0) else chkS db
end Go.Ab.A15
namespace Go.Proofs.YtpidncgibgiidaaGreat
open Go Go.Ab Go.Ab.A34 Go.Ab.A15
variable [Gl] [Tabs]
theorem indexF_t (g : FuncId) (caps : List SV) (p : Tb → Bool) (l : List Tb) (n : Nat) (f : Nat → List SV) (hn : n = l.length) (hf : ∀ j, j < l.length → f j = tF l j) (hl : l.length ≤ 1000000) (hg : ∀ d ∈ l, PCall Tryz.prog g (TB d :: caps) (SB (p d))) : PCall Tryz.prog 54 [.fl n 3 f, .fn (.func g) [] caps] (I64 (posF p 0 l)) := by
  subst hn
  obtain ⟨R, hR⟩ : ∃ R, R = posF p 0 l := ⟨_, rfl⟩
  rw [← hR]
  refine Call.enter' (N := 19) (rs := [.tmp 4]) Tryz.func54 rfl rfl rfl (by decide) rfl ?_; simp only [argT]; have hD : (0 : Nat) = 0 := rfl
  repeat' first | (refine SW.seq_k fun K hK => ?_) | (refine SW.block ?_) | (refine SW.region ?_; try simp only [go_sem, hD]) | (apply hK; clear hK K)
  obtain ⟨I, hI⟩ : ∃ I : Nat → St → Prop, ∀ k S, I k S ↔ (∃ (i : Nat) , k = l.length - i ∧ i ≤ l.length ∧ R = posF p i (l.drop i) ∧ S = ⟨[(0, .fl l.length 3 f), (1, .fn (.func g) [] caps), (7, I64 l.length), (8, I64 i)], []⟩) := ⟨fun k S => _, fun _ _ => Iff.rfl⟩
  refine SW.loop' I (l.length) ((hI _ _).2 ⟨0, rfl, Nat.zero_le _, hR, rfl⟩) (by repeat' (first | exact rfl | exact trivial | constructor)) ?_
  intro k S hIn
  obtain ⟨i, rfl, hi, hC, rfl⟩ := (hI _ _).1 hIn
  clear hIn
  have ie : ((i : Nat) : Int).toNat = i := Int.toNat_natCast _
  have i0 : (0 : Int) ≤ ((i : Nat) : Int) := by omega
  clear hR
  by_cases hlt : i < l.length
  · have hli : ((i : Nat) : Int) < (((l.length) : Nat) : Int) := by omega
    have w1 : IntKind.i64.wrap ((i : Int) + 1) = ((i + 1 : Nat) : Int) := by rw [i64_wrap (by omega) (by omega)]; omega
    rw [posF_step t0 hlt] at hC
    have fi : f i = tC (l.getD i t0) := hf i hlt
    have c := hg _ (getD_mem' t0 hlt)
    generalize l.getD i t0 = t at *
    obtain ⟨tn, ta, tr⟩ := t
    cases he : p ⟨tn, ta, tr⟩ with
    | true =>
      rw [he] at c
      rw [he, if_pos rfl] at hC
      subst hC
      repeat' first | (refine SW.seq_k fun K hK => ?_) | (refine SW.block ?_) | ((first | refine SW.region ?_ | refine SW.cond ?_ | refine SW.skip ?_ | refine SW.ret ?_ | refine Call.of_pure (c) ?_); try simp only [go_sem, hD, hli, ie, i0, w1, fi]) | (apply hK; clear hK K)
      refine ret_pure ?_; simp only [resL_tmp, resL_nil, tupOf, go_sem, hD]
    | false =>
      rw [he] at c
      rw [he, if_neg (by simp)] at hC
      repeat' first | (refine SW.seq_k fun K hK => ?_) | (refine SW.block ?_) | ((first | refine SW.region ?_ | refine SW.cond ?_ | refine SW.skip ?_ | refine Call.of_pure (c) ?_); try simp only [go_sem, hD, hli, ie, i0, w1, fi]) | (apply hK; clear hK K)
      refine Rnd.sub (l.length - (i + 1)) (by omega) ((hI _ _).2 ⟨i + 1, rfl, by omega, hC, rfl⟩) (by repeat' (first | exact rfl | exact trivial | constructor))
  · have hli : ¬ ((i : Nat) : Int) < (((l.length) : Nat) : Int) := by omega
    rw [List.drop_of_length_le (by omega)] at hC
    have hC2 : R = -1 := hC
    subst hC2
    repeat' first | (refine SW.seq_k fun K hK => ?_) | ((first | refine SW.region ?_ | refine SW.cond ?_ | refine SW.exit ?_ | refine SW.ret ?_); try simp only [go_sem, hD, hli]) | (apply hK; clear hK K) | (clear hK K; apply hK; clear hK K)
    refine ret_pure ?_; simp only [resL_tmp, resL_nil, tupOf, go_sem, hD]
theorem contF_t (g : FuncId) (caps : List SV) (p : Tb → Bool) (l : List Tb) (n : Nat) (f : Nat → List SV) (hn : n = l.length) (hf : ∀ j, j < l.length → f j = tF l j) (hl : l.length ≤ 1000000) (hg : ∀ d ∈ l, PCall Tryz.prog g (TB d :: caps) (SB (p d))) : PCall Tryz.prog 89 [.fl n 3 f, .fn (.func g) [] caps] (SB (l.any p)) := by
  have ix := indexF_t g caps p l n f hn hf hl hg
  have hm := posF_any p l 0
  generalize posF p 0 l = z at *
  cases ha : l.any p with
  | true =>
    have hz := hm.2 ha
    refine Call.enter' (N := 9) (rs := [.tmp 4]) Tryz.func89 rfl rfl rfl (by decide) rfl ?_; simp only [argT]; have hD : (0 : Nat) = 0 := rfl
    repeat' first | (refine SW.seq_k fun K hK => ?_) | ((first | refine SW.region ?_ | refine SW.ret ?_ | refine Call.of_pure (ix) ?_); try simp only [go_sem, hD, hz, true_implies]) | (apply hK; clear hK K)
    refine ret_pure ?_; simp only [resL_tmp, resL_nil, tupOf, go_sem, hD]
  | false =>
    have hz : ¬ 0 ≤ z := fun h => by have := hm.1 h; rw [ha] at this; cases this
    refine Call.enter' (N := 9) (rs := [.tmp 4]) Tryz.func89 rfl rfl rfl (by decide) rfl ?_; simp only [argT]; have hD : (0 : Nat) = 0 := rfl
    repeat' first | (refine SW.seq_k fun K hK => ?_) | ((first | refine SW.region ?_ | refine SW.ret ?_ | refine Call.of_pure (ix) ?_); try simp only [go_sem, hD, hz, true_implies]) | (apply hK; clear hK K)
    refine ret_pure ?_; simp only [resL_tmp, resL_nil, tupOf, go_sem, hD]
theorem same_nm (t d : Tb) : PCall Tryz.prog 128 (TB d :: [.fp (tC t)]) (SB (decide (d.name = t.name))) := by
  obtain ⟨tn, ta, tr⟩ := t
  obtain ⟨dn, da, dr⟩ := d
  have h1 := @barr_eq dn tn
  have h2 : (dn.toList == tn.toList) = decide (dn = tn) := by rw [Bool.eq_iff_iff, decide_eq_true_eq]; exact h1
  refine Call.enter' (N := 9) (rs := [.tmp 3]) Tryz.func128 rfl rfl rfl (by decide) rfl ?_; simp only [argT]; have hD : (0 : Nat) = 0 := rfl
  repeat' first | (refine SW.seq_k fun K hK => ?_) | ((first | refine SW.region ?_ | refine SW.ret ?_ | (refine allF_i fun b hb => ?_; replace hD := And.intro hb hD; clear hb; try simp only [fresh_cons, fresh_nil, and_true, ne_eq, neF] at hD)); try simp only [go_sem, hD, h2, true_implies]) | (apply hK; clear hK K)
  refine ret_pure ?_; simp only [resL_tmp, resL_nil, tupOf, go_sem, hD]
theorem wide_f (d : Tb) : PCall Tryz.prog 90 [TB d] (SB (decide (6 < d.attrs.length))) := by
  obtain ⟨dn, da, dr⟩ := d
  have hh : ((6 : Int) < ((da.length : Nat) : Int)) = (6 < da.length) := propext (by omega)
  refine Call.enter' (N := 7) (rs := [.tmp 2]) Tryz.func90 rfl rfl rfl (by decide) rfl ?_; simp only [argT]; have hD : (0 : Nat) = 0 := rfl
  repeat' first | (refine SW.seq_k fun K hK => ?_) | ((first | refine SW.region ?_ | refine SW.ret ?_ | (refine allF_i fun b hb => ?_; replace hD := And.intro hb hD; clear hb; try simp only [fresh_cons, fresh_nil, and_true, ne_eq, neF] at hD)); try simp only [go_sem, hD, hh, true_implies]) | (apply hK; clear hK K)
  refine ret_pure ?_; simp only [resL_tmp, resL_nil, tupOf, go_sem, hD]
theorem database_p (db : List Tb) (hdb : db.length ≤ 1000000) : PCall Tryz.prog 88 [DB db] (I64 (chkS db)) := by
  obtain ⟨R, hR⟩ : ∃ R, R = chkS db := ⟨_, rfl⟩
  rw [← hR]
  unfold chkS at hR
  by_cases h50 : 50 < db.length
  · rw [if_pos h50] at hR
    subst hR
    have h50i : (50 : Int) < ((db.length : Nat) : Int) := by omega
    refine Call.enter' (N := 30) (rs := [.tmp 2]) Tryz.func88 rfl rfl rfl (by decide) rfl ?_; simp only [argT]; have hD : (0 : Nat) = 0 := rfl
    repeat' first | (refine SW.seq_k fun K hK => ?_) | ((first | refine SW.region ?_ | refine SW.cond ?_ | refine SW.ret ?_ | (refine allF_i fun b hb => ?_; replace hD := And.intro hb hD; clear hb; try simp only [fresh_cons, fresh_nil, and_true, ne_eq, neF] at hD)); try simp only [go_sem, hD, h50i]) | (apply hK; clear hK K)
    refine ret_pure ?_; simp only [resL_tmp, resL_nil, tupOf, go_sem, hD]
  · rw [if_neg h50] at hR
    have h50i : ¬ (50 : Int) < ((db.length : Nat) : Int) := by omega
    refine Call.enter' (N := 30) (rs := [.tmp 2]) Tryz.func88 rfl rfl rfl (by decide) rfl ?_; simp only [argT]; have hD : (0 : Nat) = 0 := rfl
    repeat' first | (refine SW.seq_k fun K hK => ?_) | (refine SW.block ?_) | ((first | refine SW.region ?_ | refine SW.cond ?_ | refine SW.skip ?_ | (refine allF_i fun b hb => ?_; replace hD := And.intro hb hD; clear hb; try simp only [fresh_cons, fresh_nil, and_true, ne_eq, neF] at hD)); try simp only [go_sem, hD, h50i]) | (apply hK; clear hK K)
    obtain ⟨xb, rfl⟩ : ∃ x, x = b := ⟨_, rfl⟩
    obtain ⟨I, hI⟩ : ∃ I : Nat → St → Prop, ∀ k S, I k S ↔ (∃ (i : Nat) , k = db.length - i ∧ i ≤ db.length ∧ R = chkF db (db.length - i) i ∧ S = ⟨[(1, .op xb 0), (11, TL db), (12, I64 db.length), (13, I64 i)], [(xb, .svs [TL db])]⟩) := ⟨fun k S => _, fun _ _ => Iff.rfl⟩
    refine SW.loop' I (db.length) ((hI _ _).2 ⟨0, rfl, Nat.zero_le _, hR, rfl⟩) (by repeat' (first | exact rfl | exact trivial | constructor)) ?_
    intro k S hIn
    obtain ⟨i, rfl, hi, hC, rfl⟩ := (hI _ _).1 hIn
    clear hIn
    have ie : ((i : Nat) : Int).toNat = i := Int.toNat_natCast _
    have i0 : (0 : Int) ≤ ((i : Nat) : Int) := by omega
    clear hR
    by_cases hlt : i < db.length
    · have hli : ((i : Nat) : Int) < (((db.length) : Nat) : Int) := by omega
      have w1 : IntKind.i64.wrap ((i : Int) + 1) = ((i + 1 : Nat) : Int) := by rw [i64_wrap (by omega) (by omega)]; omega
      rw [show db.length - i = (db.length - (i + 1)) + 1 by omega, chkF] at hC
      have fi : tF db i = tC (db.getD i t0) := rfl
      have iz : (((i : Nat) : Int) - 0).toNat = i := by omega
      have il : ((i : Nat) : Int) ≤ ((db.length : Nat) : Int) := by omega
      have c1 := valid_tp (db.getD i t0)
      have c2 := contF_t 128 [.fp (tC (db.getD i t0))] (fun t => decide (t.name = (db.getD i t0).name)) (db.take i) i (tF db) (by rw [List.length_take]; omega) (fun j hj => tF_take (by rw [List.length_take] at hj; omega)) (by rw [List.length_take]; omega) (fun d _ => same_nm (db.getD i t0) d)
      have hq0 := tabI_any (db.getD i t0).name (db.take i) 0
      generalize (db.take i).any (fun t => decide (t.name = (db.getD i t0).name)) = z at *
      generalize db.getD i t0 = t at *
      generalize tabI t.name 0 (db.take i) = q at *
      generalize validS t = v at *
      obtain ⟨tn, ta, tr⟩ := t
      try simp only at c2
      by_cases hv : v = 0
      · rw [if_neg (fun x => x hv)] at hC
        by_cases hq : 0 ≤ q
        · rw [if_pos hq] at hC
          obtain rfl : z = true := hq0.1 hq
          subst hC
          repeat' first | ((refine Ab.SW.le (St.le_freezeP (i := 4) (n := 3) rfl (by rw [find_cons, if_pos rfl]) (by exact Nat.le_refl 3)) ?_); (rw [del_head]); (simp only [getN, Blk.get])) | (refine SW.seq_k fun K hK => ?_) | (refine SW.block ?_) | ((first | refine SW.region ?_ | refine SW.cond ?_ | refine SW.skip ?_ | refine SW.ret ?_ | refine Call.of_pure (c1) ?_ | refine Call.of_pure (c2) ?_ | (refine allF_i fun b hb => ?_; replace hD := And.intro hb hD; clear hb; try simp only [fresh_cons, fresh_nil, and_true, ne_eq, neF] at hD)); try simp only [go_sem, hD, hli, ie, i0, w1, fi, iz, il, hv, true_implies]) | (apply hK; clear hK K)
          refine ret_pure ?_; simp only [resL_tmp, resL_nil, tupOf, go_sem, hD]
        · rw [if_neg hq] at hC
          obtain rfl : z = false := by rw [Bool.eq_false_iff]; exact fun h => hq (hq0.2 h)
          repeat' first | ((refine Ab.SW.le (St.le_freezeP (i := 4) (n := 3) rfl (by rw [find_cons, if_pos rfl]) (by exact Nat.le_refl 3)) ?_); (rw [del_head]); (simp only [getN, Blk.get])) | (refine SW.seq_k fun K hK => ?_) | (refine SW.block ?_) | ((first | refine SW.region ?_ | refine SW.cond ?_ | refine SW.skip ?_ | refine Call.of_pure (c1) ?_ | refine Call.of_pure (c2) ?_ | (refine allF_i fun b hb => ?_; replace hD := And.intro hb hD; clear hb; try simp only [fresh_cons, fresh_nil, and_true, ne_eq, neF] at hD)); try simp only [go_sem, hD, hli, ie, i0, w1, fi, iz, il, hv, true_implies]) | (apply hK; clear hK K)
          refine Rnd.le (St.le_only ?_) (Rnd.sub (db.length - (i + 1)) (by omega) ((hI _ _).2 ⟨i + 1, rfl, by omega, hC, rfl⟩) (by repeat' (first | exact rfl | exact trivial | constructor)))
          repeat (first | exact List.mem_cons_self | apply List.mem_cons_of_mem)
      · rw [if_pos hv] at hC
        subst hC
        repeat' first | (refine SW.seq_k fun K hK => ?_) | (refine SW.block ?_) | ((first | refine SW.region ?_ | refine SW.cond ?_ | refine SW.skip ?_ | refine SW.ret ?_ | refine Call.of_pure (c1) ?_ | (refine allF_i fun b hb => ?_; replace hD := And.intro hb hD; clear hb; try simp only [fresh_cons, fresh_nil, and_true, ne_eq, neF] at hD)); try simp only [go_sem, hD, hli, ie, i0, w1, fi, iz, il, hv, true_implies]) | (apply hK; clear hK K)
        refine ret_pure ?_; simp only [resL_tmp, resL_nil, tupOf, go_sem, hD]
    · have hli : ¬ ((i : Nat) : Int) < (((db.length) : Nat) : Int) := by omega
      rw [show db.length - i = 0 by omega] at hC
      have hC2 : R = 0 := hC
      subst hC2
      repeat' first | (refine SW.seq_k fun K hK => ?_) | ((first | refine SW.region ?_ | refine SW.cond ?_ | refine SW.exit ?_ | refine SW.ret ?_); try simp only [go_sem, hD, hli]) | (apply hK; clear hK K) | (clear hK K; apply hK; clear hK K)
      refine ret_pure ?_; simp only [resL_tmp, resL_nil, tupOf, go_sem, hD]
theorem checked_p (db : List Tb) (hdb : db.length ≤ 1000000) : PCall Tryz.prog 46 [DB db] (I64 (chkD db)) := by
  have c := database_p db hdb
  have cf := contF_t 90 [] (fun t => decide (6 < t.attrs.length)) db db.length (tF db) rfl (fun j hj => rfl) hdb (fun d _ => wide_f d)
  unfold chkD
  generalize db.any (fun t => decide (6 < t.attrs.length)) = z at *
  generalize chkS db = v at *
  by_cases hv : v = 0
  · rw [if_pos hv]
    by_cases h6 : 6 < db.length
    · rw [if_pos (.inl h6)]
      have h6i : (6 : Int) < ((db.length : Nat) : Int) := by omega
      refine Call.enter' (N := 18) (rs := [.tmp 2]) Tryz.func46 rfl rfl rfl (by decide) rfl ?_; simp only [argT]; have hD : (0 : Nat) = 0 := rfl
      repeat' first | (refine SW.seq_k fun K hK => ?_) | ((first | refine SW.region ?_ | refine SW.cond ?_ | refine SW.skip ?_ | refine SW.ret ?_ | refine Call.of_pure (c) ?_ | (refine allF_i fun b hb => ?_; replace hD := And.intro hb hD; clear hb; try simp only [fresh_cons, fresh_nil, and_true, ne_eq, neF] at hD)); try simp only [go_sem, hD, hv, h6i, true_implies]) | (apply hK; clear hK K)
      all_goals
        refine ret_pure ?_; simp only [resL_tmp, resL_nil, tupOf, go_sem, hD]
    · have h6i : ¬ (6 : Int) < ((db.length : Nat) : Int) := by omega
      cases z with
      | true =>
        rw [if_pos (.inr rfl)]
        refine Call.enter' (N := 18) (rs := [.tmp 2]) Tryz.func46 rfl rfl rfl (by decide) rfl ?_; simp only [argT]; have hD : (0 : Nat) = 0 := rfl
        repeat' first | (refine SW.seq_k fun K hK => ?_) | ((first | refine SW.region ?_ | refine SW.cond ?_ | refine SW.skip ?_ | refine SW.ret ?_ | refine Call.of_pure (c) ?_ | refine Call.of_pure (cf) ?_ | (refine allF_i fun b hb => ?_; replace hD := And.intro hb hD; clear hb; try simp only [fresh_cons, fresh_nil, and_true, ne_eq, neF] at hD)); try simp only [go_sem, hD, hv, h6i, true_implies]) | (apply hK; clear hK K)
        all_goals
          refine ret_pure ?_; simp only [resL_tmp, resL_nil, tupOf, go_sem, hD]
      | false =>
        rw [if_neg (fun h => h.elim h6 (fun h => by cases h))]
        refine Call.enter' (N := 18) (rs := [.tmp 2]) Tryz.func46 rfl rfl rfl (by decide) rfl ?_; simp only [argT]; have hD : (0 : Nat) = 0 := rfl
        repeat' first | (refine SW.seq_k fun K hK => ?_) | ((first | refine SW.region ?_ | refine SW.cond ?_ | refine SW.skip ?_ | refine SW.ret ?_ | refine Call.of_pure (c) ?_ | refine Call.of_pure (cf) ?_ | (refine allF_i fun b hb => ?_; replace hD := And.intro hb hD; clear hb; try simp only [fresh_cons, fresh_nil, and_true, ne_eq, neF] at hD)); try simp only [go_sem, hD, hv, h6i, true_implies]) | (apply hK; clear hK K)
        all_goals
          refine ret_pure ?_; simp only [resL_tmp, resL_nil, tupOf, go_sem, hD]
  · rw [if_neg hv]
    refine Call.enter' (N := 18) (rs := [.tmp 2]) Tryz.func46 rfl rfl rfl (by decide) rfl ?_; simp only [argT]; have hD : (0 : Nat) = 0 := rfl
    repeat' first | (refine SW.seq_k fun K hK => ?_) | ((first | refine SW.region ?_ | refine SW.cond ?_ | refine SW.ret ?_ | refine Call.of_pure (c) ?_ | (refine allF_i fun b hb => ?_; replace hD := And.intro hb hD; clear hb; try simp only [fresh_cons, fresh_nil, and_true, ne_eq, neF] at hD)); try simp only [go_sem, hD, hv, true_implies]) | (apply hK; clear hK K)
    refine ret_pure ?_; simp only [resL_tmp, resL_nil, tupOf, go_sem, hD]
end Go.Proofs.YtpidncgibgiidaaGreat
namespace Go.Ab.A15
open Go Go.Ab Go.Ab.A34
theorem posF_tab (x : ByteArray) : ∀ (l : List Tb) (i : Nat), posF (fun t => decide (t.name = x)) i l = tabI x i l
  | [], i => rfl
  | t :: l, i => by
    unfold posF tabI
    by_cases h : t.name = x
    · rw [if_pos h, if_pos (decide_eq_true h)]
    · rw [if_neg h, if_neg (by rw [decide_eq_false h]; simp), posF_tab x l (i + 1)]
def tabAt (db : List Tb) (x : ByteArray) : Tb := db.getD (idxN x (nmsOf db)) t0
def covS (db : List Tb) (d : Dp) : Int × Int × Int := if (rowsAt db d.f).length = 0 then (1, 1, 0) else mkR (((rowsAt db d.f).length : Int) - ((violS (rowsAt db d.f) (rowsAt db d.t) d.l d.r).length : Int)) ((rowsAt db d.f).length : Int)
theorem mkR_one : mkR 1 1 = (1, 1, 0) := by decide
theorem viol_le (F T : List R3) (a b : List Int) : (violS F T a b).length ≤ F.length := violP_len F T a b F.length
end Go.Ab.A15
namespace Go.Proofs.YtpidncgibgiidaaGreat
open Go Go.Ab Go.Ab.A34 Go.Ab.A15 Go.Ab.A01
variable [Gl] [Tabs]
theorem nm_f (nm : ByteArray) (d : Tb) : PCall Tryz.prog 108 (TB d :: [.fp [Str nm]]) (SB (decide (d.name = nm))) := by
  obtain ⟨dn, da, dr⟩ := d
  have h1 := @barr_eq dn nm
  have h2 : (dn.toList == nm.toList) = decide (dn = nm) := by rw [Bool.eq_iff_iff, decide_eq_true_eq]; exact h1
  refine Call.enter' (N := 8) (rs := [.tmp 3]) Tryz.func108 rfl rfl rfl (by decide) rfl ?_; simp only [argT]; have hD : (0 : Nat) = 0 := rfl
  repeat' first | (refine SW.seq_k fun K hK => ?_) | ((first | refine SW.region ?_ | refine SW.ret ?_ | (refine allF_i fun b hb => ?_; replace hD := And.intro hb hD; clear hb; try simp only [fresh_cons, fresh_nil, and_true, ne_eq, neF] at hD)); try simp only [go_sem, hD, h2, true_implies]) | (apply hK; clear hK K)
  refine ret_pure ?_; simp only [resL_tmp, resL_nil, tupOf, go_sem, hD]
theorem named_p (db : List Tb) (nm : ByteArray) (hn : db.length ≤ 1000000) (hm : nm ∈ nmsOf db) : PCall Tryz.prog 69 [DB db, Str nm] (TB (tabAt db nm)) := by
  have cf := indexF_t 108 [.fp [Str nm]] (fun t => decide (t.name = nm)) db db.length (tF db) rfl (fun _ _ => rfl) hn (fun d _ => nm_f nm d)
  rw [posF_tab, tabI_idx hm, Nat.zero_add] at cf
  have hl := idxN_lt hm
  have hl2 : idxN nm (nmsOf db) < db.length := by unfold nmsOf at hl; rwa [List.length_map] at hl
  unfold tabAt
  generalize idxN nm (nmsOf db) = j at *
  have j0 : ¬ ((j : Nat) : Int) < 0 := by omega
  have j1 : (0 : Int) ≤ ((j : Nat) : Int) := by omega
  have j2 : ((j : Nat) : Int) < ((db.length : Nat) : Int) := by omega
  have j3 : ((j : Nat) : Int).toNat = j := Int.toNat_natCast _
  have fj : tF db j = tC (db.getD j t0) := rfl
  generalize db.getD j t0 = t at *
  obtain ⟨tn, ta, tr⟩ := t
  refine Call.enter' (N := 18) (rs := [.cell 4 72]) Tryz.func69 rfl rfl rfl (by decide) rfl ?_; simp only [argT]; have hD : (0 : Nat) = 0 := rfl
  repeat' first | ((refine Ab.SW.le (St.le_freezeP (i := 3) (n := 1) rfl (by simp [find_cons, hD]; rfl) (by exact Nat.le_refl 1)) ?_); (simp only [getN, Blk.get, go_sem, hD])) | (refine SW.seq_k fun K hK => ?_) | ((first | refine SW.region ?_ | refine SW.cond ?_ | refine SW.skip ?_ | refine SW.ret ?_ | refine Call.of_pure (cf) ?_ | (refine allF_i fun b hb => ?_; replace hD := And.intro hb hD; clear hb; try simp only [fresh_cons, fresh_nil, and_true, ne_eq, neF] at hD)); try simp only [go_sem, hD, j0, j1, j2, j3, fj, true_implies]) | (apply hK; clear hK K)
  all_goals
    apply ret_cell (i := 4) (n := 3); exact rfl; (simp only [go_sem, hD]; try rfl); (first | exact Nat.le_refl _ | decide); simp only [resL_tmp, resL_cellE, resC_ok, resL_nil, tupOf, getN, go_sem, hD]
theorem coverage_p (db : List Tb) (d : Dp) (hdb : db.length ≤ 1000000) (hd : OkD d) (hn : OkN db) (h : vE db d = 0) : PCall Tryz.prog 31 [DB db, DV d] (FR (covS db d)) := by
  have cv := viol_p db d (by omega) hd hn h
  obtain ⟨V, F⟩ := vE_ok h
  have kf := (rows_k V F.f).n
  have cn := named_p db d.f hdb F.f
  have hvl := viol_le (rowsAt db d.f) (rowsAt db d.t) d.l d.r
  have hr : (tabAt db d.f).rows = rowsAt db d.f := rfl
  have c1 := make_p 1 1 (by omega) (by omega) (by omega) (by omega)
  rw [mkR_one] at c1
  have c2 := make_p (((rowsAt db d.f).length : Int) - ((violS (rowsAt db d.f) (rowsAt db d.t) d.l d.r).length : Int)) ((rowsAt db d.f).length : Int) (by omega) (by omega) (by omega) (by omega)
  unfold covS
  have wk : IntKind.i64.wrap (((rowsAt db d.f).length : Int) - ((violS (rowsAt db d.f) (rowsAt db d.t) d.l d.r).length : Int)) = ((rowsAt db d.f).length : Int) - ((violS (rowsAt db d.f) (rowsAt db d.t) d.l d.r).length : Int) := by rw [i64_wrap (by omega) (by omega)]
  have wk2 : IntKind.i64.wrap ((rowsAt db d.f).length : Int) = ((rowsAt db d.f).length : Int) := by rw [i64_wrap (by omega) (by omega)]
  generalize violS (rowsAt db d.f) (rowsAt db d.t) d.l d.r = W at *
  rw [← hr] at *
  clear hr
  generalize tabAt db d.f = t at *
  obtain ⟨tn, ta, tr⟩ := t
  obtain ⟨df, dl, dt, dr⟩ := d
  simp only at *
  by_cases h0 : tr.length = 0
  · rw [if_pos h0]
    have z0 : ((tr.length : Nat) : Int) = 0 := by omega
    refine Call.enter' (N := 42) (rs := [.cell 4 61, .tmp 5]) Tryz.func31 rfl rfl rfl (by decide) rfl ?_; simp only [argT]; have hD : (0 : Nat) = 0 := rfl
    repeat' first | (refine SW.seq_k fun K hK => ?_) | ((first | refine SW.region ?_ | refine SW.cond ?_ | refine SW.skip ?_ | refine SW.ret ?_ | refine Call.of_pure (cv) ?_ | refine Call.of_pure (cn) ?_ | refine Call.of_pure (c1) ?_ | (refine allF_i fun b hb => ?_; replace hD := And.intro hb hD; clear hb; try simp only [fresh_cons, fresh_nil, and_true, ne_eq, neF] at hD)); try simp only [go_sem, hD, z0, true_implies]) | (apply hK; clear hK K)
    all_goals
      apply ret_cell (i := 4) (n := 2); exact rfl; (simp only [go_sem, hD]; try rfl); (first | exact Nat.le_refl _ | decide); simp only [resL_tmp, resL_cellE, resC_ok, resL_nil, tupOf, getN, go_sem, hD]
  · rw [if_neg h0]
    have z0 : ¬ ((tr.length : Nat) : Int) = 0 := by omega
    generalize mkR (((tr.length : Nat) : Int) - ((W.length : Nat) : Int)) ((tr.length : Nat) : Int) = M at *
    obtain ⟨m1, m2, m3⟩ := M
    refine Call.enter' (N := 42) (rs := [.cell 4 61, .tmp 5]) Tryz.func31 rfl rfl rfl (by decide) rfl ?_; simp only [argT]; have hD : (0 : Nat) = 0 := rfl
    repeat' first | (refine SW.seq_k fun K hK => ?_) | ((first | refine SW.region ?_ | refine SW.cond ?_ | refine SW.skip ?_ | refine SW.ret ?_ | refine Call.of_pure (cv) ?_ | refine Call.of_pure (cn) ?_ | refine Call.of_pure (c2) ?_ | (refine allF_i fun b hb => ?_; replace hD := And.intro hb hD; clear hb; try simp only [fresh_cons, fresh_nil, and_true, ne_eq, neF] at hD)); try simp only [go_sem, hD, z0, wk, wk2, true_implies]) | (apply hK; clear hK K)
    all_goals
      apply ret_cell (i := 4) (n := 2); exact rfl; (simp only [go_sem, hD]; try rfl); (first | exact Nat.le_refl _ | decide); simp only [resL_tmp, resL_cellE, resC_ok, resL_nil, tupOf, getN, go_sem, hD]
end Go.Proofs.YtpidncgibgiidaaGreat
namespace Go.Ab.A15
open Go Go.Ab Go.Ab.A34 Go.Ab.A01
def hM (F T : List R3) (l r : List Int) : Bool := !F.any fun x => !T.any fun y => agB l r x.2 y.2
end Go.Ab.A15
def Go.Ab.zIB_1 : Go.Ab.OZ := (.one 0 [0, 4, 5, 6] (.one 1 [1, 3, 4, 5, 6] (.one 2 [2, 3, 4, 5, 6] (.one 3 [3, 4, 5, 6] (.alt 4 (.one 5 [5, 6] (.one 6 [6] .done)) .nil)))))
namespace Go.Proofs.YtpidncgibgiidaaGreat
open Go Go.Ab Go.Ab.A34 Go.Ab.A15 Go.Ab.A01
variable [Gl] [Tabs]
theorem at_p (r : R3) (a : List Int) (hr : OkR r) (ha : ∀ x ∈ a, 0 ≤ x ∧ x < r.2.length) (hal : a.length ≤ 1000) : PCall Tryz.prog 167 [.agg [I64 r.1, VL r.2], IL a] (Str (mkB (catK r a))) := by
  have hlen := catK_len hr ha
  obtain ⟨id, vs⟩ := r
  simp only at ha
  refine Call.enter' (N := 29) (rs := [.tmp 4]) Tryz.func167 rfl rfl rfl (by decide) rfl ?_; simp only [argT]; have hD : (0 : Nat) = 0 := rfl
  repeat' first | (refine SW.seq_k fun K hK => ?_) | (refine SW.block ?_) | ((first | refine SW.region ?_ | (refine allF_i fun b hb => ?_; replace hD := And.intro hb hD; clear hb; try simp only [fresh_cons, fresh_nil, and_true, ne_eq, neF] at hD)); try simp only [go_sem, hD, true_implies]) | (apply hK; clear hK K)
  obtain ⟨bb, rfl⟩ : ∃ x, x = b := ⟨_, rfl⟩
  obtain ⟨b2, rfl⟩ : ∃ x, x = b := ⟨_, rfl⟩
  refine Ab.SW.le (S' := ⟨[(1, IL a), (2, .fp [I64 id, VL vs]), (5, BP bb), (4, Str ⟨#[]⟩), (10, IL a), (11, I64 a.length), (12, I64 (0 : Nat))], [(bb, .svs [.sc (.pointer none), .nt])]⟩) ?_ ?_
  · refine St.le.trans (St.le_freezeP (i := 2) (b := b2) (off := 0) (n := 2) (k := .svs [I64 id, VL vs]) rfl (by simp [find_cons, hD]) (by exact Nat.le_refl 2)) ?_
    simp only [getN, Blk.get, go_sem, hD]
    exact St.le_sub (by repeat' (first | exact rfl | exact trivial | constructor))
  clear hD
  have hD : (0 : Nat) = 0 := rfl
  obtain ⟨I, hI⟩ : ∃ I : Nat → St → Prop, ∀ k S, I k S ↔ (∃ (i : Nat) (h : Heap), k = a.length - i ∧ i ≤ a.length ∧ BH bb (catK (id, vs) (a.take i)) h [] ∧ S = ⟨[(1, IL a), (2, .fp [I64 id, VL vs]), (5, BP bb), (4, Str ⟨#[]⟩), (10, IL a), (11, I64 a.length), (12, I64 i)], h⟩) := ⟨fun k S => _, fun _ _ => Iff.rfl⟩
  refine SW.loop' I (a.length) ((hI _ _).2 ⟨0, _, rfl, Nat.zero_le _, .inl ⟨rfl, rfl⟩, rfl⟩) (by repeat' (first | exact rfl | exact trivial | constructor)) ?_
  intro k S hIn
  obtain ⟨i, h, rfl, hi, hB, rfl⟩ := (hI _ _).1 hIn
  clear hIn
  have ie : ((i : Nat) : Int).toNat = i := Int.toNat_natCast _
  have i0 : (0 : Int) ≤ ((i : Nat) : Int) := by omega
  by_cases hlt : i < a.length
  · have hli : ((i : Nat) : Int) < (((a.length) : Nat) : Int) := by omega
    have w1 : IntKind.i64.wrap ((i : Int) + 1) = ((i + 1 : Nat) : Int) := by rw [i64_wrap (by omega) (by omega)]; omega
    have fa : iF a i = [I64 (a.getD i 0)] := rfl
    have hx := ha _ (getD_mem' 0 hlt)
    have hst := catK_take (id, vs) a i hlt
    have hcl := catK_len hr (a := a.take i) (fun x hx => ha x (List.mem_of_mem_take hx))
    rw [List.length_take] at hcl
    generalize a.getD i 0 = x at *
    obtain ⟨x0, x1⟩ := hx
    have mx : vs.getD x.toNat v0 ∈ vs := getD_mem v0 (by omega)
    have fv : vF vs x.toNat = vC (vs.getD x.toNat v0) := rfl
    have kv := key_v _ (hr.v _ mx) (hr.n _ mx)
    have hkl := kL_len (hr.v _ mx)
    simp only at hst
    generalize vs.getD x.toNat v0 = v at *
    obtain ⟨v1, v2, v3⟩ := v
    have hms := mkB_size (kL (v1, v2, v3))
    have ws := wstr_c bb _ h [] hB trivial (mkB (kL (v1, v2, v3))) (by omega) (by omega)
    have hml : (mkB (kL (v1, v2, v3))).data.toList = kL (v1, v2, v3) := by simp [mkB]
    rw [hml, ← hst] at ws
    generalize mkB (kL (v1, v2, v3)) = m at *
    clear hB
    repeat' first | ((with_reducible refine Call.mono ws ?_); intro r h' hx; obtain ⟨rfl, hB2⟩ := hx; (try simp only [go_sem, hD])) | (refine SW.seq_k fun K hK => ?_) | (refine SW.block ?_) | ((first | refine SW.region ?_ | refine SW.cond ?_ | refine SW.skip ?_ | refine Call.of_pure (kv) ?_); try simp only [go_sem, hD, hli, ie, i0, w1, fa, x0, x1, fv, true_implies]) | (apply hK; clear hK K)
    refine Rnd.sub (a.length - (i + 1)) (by omega) ((hI _ _).2 ⟨i + 1, h', rfl, by omega, hB2, rfl⟩) (by repeat' (first | exact rfl | exact trivial | constructor))
  · have hli : ¬ ((i : Nat) : Int) < (((a.length) : Nat) : Int) := by omega
    obtain rfl : i = a.length := by omega
    rw [List.take_length] at hB
    have hll : (catK (id, vs) a).length ≤ 1000000 := by omega
    generalize catK (id, vs) a = l at *
    rcases hB with ⟨rfl, rfl⟩ | ⟨hl, g, blk, hf, hg, hc, rfl⟩
    · have cs := string_n bb (.sc (.pointer none)) []
      repeat' first | ((with_reducible refine Call.mono cs ?_); intro r h' hx; obtain ⟨rfl, rfl⟩ := hx; (try simp only [go_sem, hD])) | (refine SW.seq_k fun K hK => ?_) | ((first | refine SW.region ?_ | refine SW.cond ?_ | refine SW.exit ?_ | refine SW.ret ?_); try simp only [go_sem, hD, hli, true_implies]) | (apply hK; clear hK K) | (clear hK K; apply hK; clear hK K)
      refine ret_pure ?_; simp only [resL_tmp, resL_nil, tupOf, go_sem, hD]
      rfl
    · have cs := string_c bb g (.op bb 0) blk l hl hll hc []
      repeat' first | ((with_reducible refine Call.mono cs ?_); intro r h' hx; obtain ⟨rfl, rfl⟩ := hx; (try simp only [go_sem, hD])) | (refine SW.seq_k fun K hK => ?_) | ((first | refine SW.region ?_ | refine SW.cond ?_ | refine SW.exit ?_ | refine SW.ret ?_); try simp only [go_sem, hD, hli, true_implies]) | (apply hK; clear hK K) | (clear hK K; apply hK; clear hK K)
      refine ret_pure ?_; simp only [resL_tmp, resL_nil, tupOf, go_sem, hD]
      rfl
theorem indexF_r (g : FuncId) (caps : List SV) (p : R3 → Bool) (l : List R3) (H : Heap) (hl : l.length ≤ 1000000) (hg : ∀ y ∈ l, Ab.Call Tryz.prog g (.agg (rC y) :: caps) H (fun r h' => r = SB (p y) ∧ h' = H)) : Ab.Call Tryz.prog 195 [RL l, .fn (.func g) [] caps] H (fun r h' => r = I64 (posF p 0 l) ∧ h' = H) := by
  obtain ⟨R, hR⟩ : ∃ R, R = posF p 0 l := ⟨_, rfl⟩
  rw [← hR]
  refine Call.enter' (N := 19) (rs := [.tmp 4]) Tryz.func195 rfl rfl rfl (by decide) rfl ?_; simp only [argT]; have hD : (0 : Nat) = 0 := rfl
  repeat' first | (refine SW.seq_k fun K hK => ?_) | (refine SW.block ?_) | (refine SW.region ?_; try simp only [go_sem, hD]) | (apply hK; clear hK K)
  obtain ⟨I, hI⟩ : ∃ I : Nat → St → Prop, ∀ k S, I k S ↔ (∃ (i : Nat) , k = l.length - i ∧ i ≤ l.length ∧ R = posF p i (l.drop i) ∧ S = ⟨[(0, RL l), (1, .fn (.func g) [] caps), (7, I64 l.length), (8, I64 i)], H⟩) := ⟨fun k S => _, fun _ _ => Iff.rfl⟩
  refine SW.loop' I (l.length) ((hI _ _).2 ⟨0, rfl, Nat.zero_le _, hR, rfl⟩) (by repeat' (first | exact rfl | exact trivial | constructor)) ?_
  intro k S hIn
  obtain ⟨i, rfl, hi, hC, rfl⟩ := (hI _ _).1 hIn
  clear hIn
  have ie : ((i : Nat) : Int).toNat = i := Int.toNat_natCast _
  have i0 : (0 : Int) ≤ ((i : Nat) : Int) := by omega
  clear hR
  by_cases hlt : i < l.length
  · have hli : ((i : Nat) : Int) < (((l.length) : Nat) : Int) := by omega
    have w1 : IntKind.i64.wrap ((i : Int) + 1) = ((i + 1 : Nat) : Int) := by rw [i64_wrap (by omega) (by omega)]; omega
    rw [posF_step r0 hlt] at hC
    have fi : rF l i = [I64 (l.getD i r0).1, VL (l.getD i r0).2] := rfl
    have c := hg _ (getD_mem r0 hlt)
    generalize l.getD i r0 = t at *
    obtain ⟨tn, ta⟩ := t
    replace c : Ab.Call Tryz.prog g (.agg [I64 tn, VL ta] :: caps) H (fun r h' => r = SB (p ⟨tn, ta⟩) ∧ h' = H) := c
    simp only at fi
    cases he : p ⟨tn, ta⟩ with
    | true =>
      rw [he] at c
      rw [he, if_pos rfl] at hC
      subst hC
      repeat' first | ((refine Call.mono c ?_); (intro rr hh hx); (obtain ⟨rfl, rfl⟩ := hx); (try simp only [go_sem, hD])) | (refine SW.seq_k fun K hK => ?_) | (refine SW.block ?_) | ((first | refine SW.region ?_ | refine SW.cond ?_ | refine SW.skip ?_ | refine SW.ret ?_); try simp only [go_sem, hD, hli, ie, i0, w1, fi, true_implies]) | (apply hK; clear hK K)
      refine retQ_le (fun M w0 D N a w r => r) ?_
      simp only [resL_tmp, resL_nil, tupOf, go_sem, hD]
    | false =>
      rw [he] at c
      rw [he, if_neg (by simp)] at hC
      repeat' first | ((refine Call.mono c ?_); (intro rr hh hx); (obtain ⟨rfl, rfl⟩ := hx); (try simp only [go_sem, hD])) | (refine SW.seq_k fun K hK => ?_) | (refine SW.block ?_) | ((first | refine SW.region ?_ | refine SW.cond ?_ | refine SW.skip ?_); try simp only [go_sem, hD, hli, ie, i0, w1, fi, true_implies]) | (apply hK; clear hK K)
      refine Rnd.sub (l.length - (i + 1)) (by omega) ((hI _ _).2 ⟨i + 1, rfl, by omega, hC, rfl⟩) (by repeat' (first | exact rfl | exact trivial | constructor))
  · have hli : ¬ ((i : Nat) : Int) < (((l.length) : Nat) : Int) := by omega
    rw [List.drop_of_length_le (by omega)] at hC
    have hC2 : R = -1 := hC
    subst hC2
    repeat' first | (refine SW.seq_k fun K hK => ?_) | ((first | refine SW.region ?_ | refine SW.cond ?_ | refine SW.exit ?_ | refine SW.ret ?_); try simp only [go_sem, hD, hli]) | (apply hK; clear hK K) | (clear hK K; apply hK; clear hK K)
    refine retQ_le (fun M w0 D N a w r => r) ?_
    simp only [resL_tmp, resL_nil, tupOf, go_sem, hD]
theorem contF_r (g : FuncId) (caps : List SV) (p : R3 → Bool) (l : List R3) (H : Heap) (hl : l.length ≤ 1000000) (hg : ∀ y ∈ l, Ab.Call Tryz.prog g (.agg (rC y) :: caps) H (fun r h' => r = SB (p y) ∧ h' = H)) : Ab.Call Tryz.prog 168 [RL l, .fn (.func g) [] caps] H (fun r h' => r = SB (l.any p) ∧ h' = H) := by
  have ix := indexF_r g caps p l H hl hg
  have hm := posF_any p l 0
  generalize posF p 0 l = z at *
  cases ha : l.any p with
  | true =>
    have hz := hm.2 ha
    refine Call.enter' (N := 9) (rs := [.tmp 4]) Tryz.func168 rfl rfl rfl (by decide) rfl ?_; simp only [argT]; have hD : (0 : Nat) = 0 := rfl
    repeat' first | ((refine Call.mono ix ?_); (intro rr hh hx); (obtain ⟨rfl, rfl⟩ := hx); (try simp only [go_sem, hD, hz])) | (refine SW.seq_k fun K hK => ?_) | ((first | refine SW.region ?_ | refine SW.ret ?_); try simp only [go_sem, hD, hz, true_implies]) | (apply hK; clear hK K)
    refine retQ_le (fun M w0 D N a w r => r) ?_
    simp only [resL_tmp, resL_nil, tupOf, go_sem, hD]
  | false =>
    have hz : ¬ 0 ≤ z := fun h => by have := hm.1 h; rw [ha] at this; cases this
    refine Call.enter' (N := 9) (rs := [.tmp 4]) Tryz.func168 rfl rfl rfl (by decide) rfl ?_; simp only [argT]; have hD : (0 : Nat) = 0 := rfl
    repeat' first | ((refine Call.mono ix ?_); (intro rr hh hx); (obtain ⟨rfl, rfl⟩ := hx); (try simp only [go_sem, hD, hz])) | (refine SW.seq_k fun K hK => ?_) | ((first | refine SW.region ?_ | refine SW.ret ?_); try simp only [go_sem, hD, hz, true_implies]) | (apply hK; clear hK K)
    refine retQ_le (fun M w0 D N a w r => r) ?_
    simp only [resL_tmp, resL_nil, tupOf, go_sem, hD]
theorem try_f (y : R3) (l : List Int) (mb : Nat) (Ks : List ByteArray) (hy : OkR y) (hl : ∀ x ∈ l, 0 ≤ x ∧ x < y.2.length) (hal : l.length ≤ 1000) (z : Bool) (hz : z = true ↔ mkB (catK y l) ∈ Ks) :
    Ab.Call Tryz.prog 169 [.agg [I64 y.1, VL y.2], .fp [.mp mb], .fp [IL l]] [(mb, .mp (mapB Ks))] (fun r h' => r = SB (!z) ∧ h' = [(mb, .mp (mapB Ks))]) := by
  have kp := at_p y l hy hl hal
  have mf := mfI_B (mkB (catK y l)) Ks 0
  generalize mkB (catK y l) = key at *
  obtain ⟨yi, ys⟩ := y
  simp only at kp
  cases z with
  | true =>
    obtain ⟨j, hj, _⟩ := fB_some (i := 0) (hz.1 rfl)
    rw [hj] at mf
    refine Call.enter' (N := 11) (rs := [.tmp 4]) Tryz.func169 rfl rfl rfl (by decide) rfl ?_; simp only [argT]; have hD : (0 : Nat) = 0 := rfl
    repeat' first | (refine SW.seq_k fun K hK => ?_) | ((first | refine SW.region ?_ | refine SW.regionZ (id := 1) (Checked.mixed Tryz.checked) Go.Ab.zIB_1 (by kernel_rfl) ?_ | refine SW.ret ?_ | refine ⟨_, kp, ?_⟩ | (refine allF_i fun b hb => ?_; replace hD := And.intro hb hD; clear hb; try simp only [fresh_cons, fresh_nil, and_true, ne_eq, neF] at hD) | simp only [appK, appOsK]); try simp only [Go.Ab.zIB_1, go_sem, hD, mf, true_implies]) | (apply hK; clear hK K) | (refine And.intro ?_ ?_)
    all_goals
      refine retQ_le (St.le_slist (h' := [(mb, .mp (mapB Ks))]) (by first | exact List.Sublist.refl _ | exact List.Sublist.cons _ (List.Sublist.refl _))) ?_
      simp only [resL_tmp, resL_nil, tupOf, go_sem, hD]
      try exact ⟨rfl, rfl⟩
  | false =>
    have hn : key ∉ Ks := fun h => by have := hz.2 h; cases this
    rw [fB_none hn] at mf
    refine Call.enter' (N := 11) (rs := [.tmp 4]) Tryz.func169 rfl rfl rfl (by decide) rfl ?_; simp only [argT]; have hD : (0 : Nat) = 0 := rfl
    repeat' first | (refine SW.seq_k fun K hK => ?_) | ((first | refine SW.region ?_ | refine SW.regionZ (id := 1) (Checked.mixed Tryz.checked) Go.Ab.zIB_1 (by kernel_rfl) ?_ | refine SW.ret ?_ | refine ⟨_, kp, ?_⟩ | (refine allF_i fun b hb => ?_; replace hD := And.intro hb hD; clear hb; try simp only [fresh_cons, fresh_nil, and_true, ne_eq, neF] at hD) | simp only [appK, appOsK]); try simp only [Go.Ab.zIB_1, go_sem, hD, mf, true_implies]) | (apply hK; clear hK K) | (refine And.intro ?_ ?_)
    all_goals
      refine retQ_le (St.le_slist (h' := [(mb, .mp (mapB Ks))]) (by first | exact List.Sublist.refl _ | exact List.Sublist.cons _ (List.Sublist.refl _))) ?_
      simp only [resL_tmp, resL_nil, tupOf, go_sem, hD]
      try exact ⟨rfl, rfl⟩
end Go.Proofs.YtpidncgibgiidaaGreat
namespace Go.Ab
theorem resK_bad {d : Option Tmp} {E : Prop} {K : St → Prop} {S : St} : resK .bad d E K S = E := propext ⟨fun h => h, fun h => h⟩
theorem effK_mapUpdate [Gl] {P : Program} {t : TypeId} {m k x : Operand} {d : Option Tmp} {K : St → Prop} {S : St} : effK P (.mapUpdate t m k x) d K S = mputK (mtk P t) (S.ev m) (S.ev k) (S.ev x) d K S := propext ⟨fun h => h, fun h => h⟩
attribute [go_sem] resK_bad effK_mapUpdate
end Go.Ab
namespace Go.Ab.A15
open Go Go.Ab Go.Ab.A34 Go.Ab.A01
abbrev MC (f t : Tb) (same : Bool) (ar : Int) (X : SV) (room : Int) : List SV := [Str f.name, SL f.attrs, RL f.rows, Str t.name, SL t.attrs, RL t.rows, SB same, I64 ar, X, I64 room]
structure MOk (f t : Tb) : Prop where
  fr : f.rows.length ≤ 1000
  tr : t.rows.length ≤ 1000
  of : ∀ r ∈ f.rows, OkR r ∧ r.2.length = f.attrs.length
  ot : ∀ r ∈ t.rows, OkR r ∧ r.2.length = t.attrs.length
  af : f.attrs.length ≤ 100
  at_ : t.attrs.length ≤ 100
def InA (n : Nat) (l : List Int) : Prop := ∀ x ∈ l, 0 ≤ x ∧ x < (n : Int)
end Go.Ab.A15
namespace Go.Proofs.YtpidncgibgiidaaGreat
open Go Go.Ab Go.Ab.A34 Go.Ab.A15 Go.Ab.A01
variable [Gl] [Tabs]
theorem holds_m (m : Nat) (f t : Tb) (same : Bool) (ar room : Int) (X : SV) (l r : List Int) (h : MOk f t) (hl : InA f.attrs.length l) (hr : InA t.attrs.length r) (hlr : l.length = r.length) (hll : l.length ≤ 100) :
    Ab.Call Tryz.prog 131 [.op m 0, IL l, IL r] [(m, .svs (MC f t same ar X room))] (fun v h' => v = SB (hM f.rows t.rows l r) ∧ h' = [(m, .svs (MC f t same ar X room))]) := by
  have fl : ∀ x ∈ f.rows, ∀ z ∈ l, 0 ≤ z ∧ z < x.2.length := fun x hx z hz => by rw [(h.of x hx).2]; exact hl z hz
  have tl : ∀ y ∈ t.rows, ∀ z ∈ r, 0 ≤ z ∧ z < y.2.length := fun y hy z hz => by rw [(h.ot y hy).2]; exact hr z hz
  have kpt := fun y (hy : y ∈ t.rows) => at_p y r (h.ot y hy).1 (tl y hy) (by omega)
  have kan := fun x (hx : x ∈ f.rows) => key_any (T := t.rows) (x := x) hlr (h.of x hx).1 (fun y hy => (h.ot y hy).1) (fl x hx) tl
  have htf := fun x (hx : x ∈ f.rows) (b : Nat) => try_f x l b (keysB t.rows r t.rows.length) (h.of x hx).1 (fl x hx) (by omega) (t.rows.any fun y => agB l r x.2 y.2) (kan x hx).symm
  have hfr := h.fr
  have htr := h.tr
  have hcf := fun (b : Nat) => contF_r 169 [.fp [.mp b], .fp [IL l]] (fun x => !(t.rows.any fun y => agB l r x.2 y.2)) f.rows [(b, .mp (mapB (keysB t.rows r t.rows.length))), (m, .svs (MC f t same ar X room))] (by omega)
    (fun x hx => Call.mono (Call.frameN (h2 := [(m, .svs (MC f t same ar X room))]) (htf x hx b)) fun v h' ⟨h1, e, ⟨q1, q2⟩, _⟩ => ⟨q1, by rw [e, q2]; rfl⟩)
  have hMe : hM f.rows t.rows l r = !(f.rows.any fun x => !(t.rows.any fun y => agB l r x.2 y.2)) := rfl
  rw [hMe]
  generalize (f.rows.any fun x => !(t.rows.any fun y => agB l r x.2 y.2)) = z at *
  clear hMe kan htf fl tl h hl hr
  obtain ⟨fn, fa, frs⟩ := f
  obtain ⟨tn, ta, trs⟩ := t
  simp only at kpt hcf hfr htr ⊢
  refine Call.enter' (N := 40) (rs := [.tmp 6]) Tryz.func131 rfl rfl rfl (by decide) rfl ?_; simp only [argT]; have hD : (0 : Nat) = 0 := rfl
  repeat' first | (refine SW.seq_k fun K hK => ?_) | (refine SW.block ?_) | ((first | refine SW.region ?_ | (refine allF_i fun b hb => ?_; replace hD := And.intro hb hD; clear hb; try simp only [fresh_cons, fresh_nil, and_true, ne_eq, neF] at hD)); try simp only [go_sem, hD, true_implies]) | (apply hK; clear hK K)
  obtain ⟨cb, rfl⟩ : ∃ x, x = b := ⟨_, rfl⟩
  obtain ⟨mp, rfl⟩ : ∃ x, x = b := ⟨_, rfl⟩
  obtain ⟨lb, rfl⟩ : ∃ x, x = b := ⟨_, rfl⟩
  have e1 : ¬ mp = m := by simp [hD]
  refine Ab.SW.le (S' := ⟨[(0, .op m 0), (2, IL r), (4, .fp [IL l]), (7, .fp [.mp mp]), (21, RL trs), (22, I64 trs.length), (23, I64 (0 : Nat))], [(mp, .mp []), (m, .svs [Str fn, SL fa, RL frs, Str tn, SL ta, RL trs, SB same, I64 ar, X, I64 room])]⟩) ?_ ?_
  · refine St.le.trans (St.le_freezeP (i := 7) (b := cb) (off := 0) (n := 1) (k := .svs [.mp mp]) rfl (by simp [find_cons, hD]) (by exact Nat.le_refl 1)) ?_
    simp only [getN, Blk.get, go_sem, hD]
    refine St.le.trans (St.le_freezeP (i := 4) (b := lb) (off := 0) (n := 1) (k := .svs [IL l]) rfl (by simp [find_cons, hD]) (by exact Nat.le_refl 1)) ?_
    simp only [getN, Blk.get, go_sem, hD]
    exact St.le_sub (by repeat' (first | exact rfl | exact trivial | constructor))
  clear hD
  have hD := And.intro (eq_false e1) (eq_false (Ne.symm e1))
  have hE := hD
  obtain ⟨I, hI⟩ : ∃ I : Nat → St → Prop, ∀ k S, I k S ↔ (∃ (i : Nat) , k = trs.length - i ∧ i ≤ trs.length ∧ S = ⟨[(0, .op m 0), (2, IL r), (4, .fp [IL l]), (7, .fp [.mp mp]), (21, RL trs), (22, I64 trs.length), (23, I64 i)], [(mp, .mp (mapB (keysB trs r i))), (m, .svs [Str fn, SL fa, RL frs, Str tn, SL ta, RL trs, SB same, I64 ar, X, I64 room])]⟩) := ⟨fun k S => _, fun _ _ => Iff.rfl⟩
  refine SW.loop' I (trs.length) ((hI _ _).2 ⟨0, rfl, Nat.zero_le _, rfl⟩) (by repeat' (first | exact rfl | exact trivial | constructor)) ?_
  intro k S hIn
  obtain ⟨i, rfl, hi, rfl⟩ := (hI _ _).1 hIn
  clear hIn
  have ie : ((i : Nat) : Int).toNat = i := Int.toNat_natCast _
  have i0 : (0 : Int) ≤ ((i : Nat) : Int) := by omega
  clear hD
  have hD := hE
  by_cases hlt : i < trs.length
  · have hli : ((i : Nat) : Int) < (((trs.length) : Nat) : Int) := by omega
    have w1 : IntKind.i64.wrap ((i : Int) + 1) = ((i + 1 : Nat) : Int) := by rw [i64_wrap (by omega) (by omega)]; omega
    have fi : rF trs i = [I64 (trs.getD i r0).1, VL (trs.getD i r0).2] := rfl
    have kp := kpt _ (getD_mem r0 hlt)
    have mf := mfI_B (mkB (catK (trs.getD i r0) r)) (keysB trs r i) 0
    have ms := mset_B (mkB (catK (trs.getD i r0) r)) (keysB trs r i)
    have hks : keysB trs r (i + 1) = addB (keysB trs r i) (mkB (catK (trs.getD i r0) r)) := rfl
    rw [← hks] at ms
    clear hks
    generalize mkB (catK (trs.getD i r0) r) = key at *
    generalize trs.getD i r0 = y at *
    obtain ⟨yi, ys⟩ := y
    simp only at fi kp
    generalize fB key 0 (keysB trs r i) = fz at *
    repeat' first | (refine SW.seq_k fun K hK => ?_) | (refine SW.block ?_) | ((first | refine SW.region ?_ | refine SW.regionZ (id := 5) (Checked.mixed Tryz.checked) ((.one 0 [0, 4] (.one 1 [1, 3, 4] (.one 2 [2, 3, 4] (.one 3 [3, 4] (.alt 4 .done .nil))))) : OZ) (by kernel_rfl) ?_ | refine SW.cond ?_ | refine SW.skip ?_ | refine ⟨_, kp, ?_⟩ | (refine allF_i fun b hb => ?_; replace hD := And.intro hb hD; clear hb; try simp only [fresh_cons, fresh_nil, and_true, ne_eq, neF] at hD) | simp only [appK, appOsK]); try simp only [go_sem, hD, hli, ie, i0, w1, fi, mf, ms, true_implies]) | (apply hK; clear hK K) | (refine And.intro ?_ ?_)
    all_goals
      refine Rnd.le (St.le_slist (List.Sublist.cons _ (List.Sublist.refl _))) ?_
      refine Rnd.sub (trs.length - (i + 1)) (by omega) ((hI _ _).2 ⟨i + 1, rfl, by omega, rfl⟩) (by repeat' (first | exact rfl | exact trivial | constructor))
  · have hli : ¬ ((i : Nat) : Int) < (((trs.length) : Nat) : Int) := by omega
    obtain rfl : i = trs.length := by omega
    have cf := hcf mp
    try simp only at cf
    clear hcf hI
    generalize keysB trs r trs.length = Ks at *
    repeat' first | ((refine Call.mono cf ?_); (intro rr hh hx); (obtain ⟨rfl, rfl⟩ := hx); (try simp only [go_sem, hD])) | (refine SW.seq_k fun K hK => ?_) | ((first | refine SW.region ?_ | refine SW.cond ?_ | refine SW.exit ?_ | refine SW.ret ?_); try simp only [go_sem, hD, hli, true_implies]) | (apply hK; clear hK K) | (clear hK K; apply hK; clear hK K)
    refine retQ_le (St.le_slist (h' := [(m, .svs [Str fn, SL fa, RL frs, Str tn, SL ta, RL trs, SB same, I64 ar, X, I64 room])]) (List.Sublist.cons _ (List.Sublist.refl _))) ?_
    simp only [resL_tmp, resL_nil, tupOf, go_sem, hD]
    try exact ⟨rfl, rfl⟩
end Go.Proofs.YtpidncgibgiidaaGreat
namespace Go.Ab.A15
open Go Go.Ab Go.Ab.A34
def ltL : List Int → List Int → Bool
  | [], [] => false
  | [], _ :: _ => true
  | _ :: _, [] => false
  | x :: a, y :: b => if x = y then ltL a b else decide (x < y)
theorem ltL_step {a c : List Int} {i : Nat} (ha : i < a.length) (hc : i < c.length) : ltL (a.drop i) (c.drop i) = if a.getD i 0 = c.getD i 0 then ltL (a.drop (i + 1)) (c.drop (i + 1)) else decide (a.getD i 0 < c.getD i 0) := by
  have g1 : a.getD i 0 = a[i] := by simp [List.getD_eq_getElem?_getD, ha]
  have g2 : c.getD i 0 = c[i] := by simp [List.getD_eq_getElem?_getD, hc]
  rw [List.drop_eq_getElem_cons ha, List.drop_eq_getElem_cons hc, g1, g2, ltL]
theorem ltL_end {a c : List Int} {i : Nat} (h : ¬ (i < a.length ∧ i < c.length)) (hi : i ≤ a.length) (hi2 : i ≤ c.length) : ltL (a.drop i) (c.drop i) = decide (a.length < c.length) := by
  by_cases ha : i < a.length
  · have hc : c.length ≤ i := by omega
    rw [List.drop_eq_getElem_cons ha, List.drop_of_length_le hc, ltL]
    exact (decide_eq_false (by omega)).symm
  · rw [List.drop_of_length_le (by omega : a.length ≤ i)]
    by_cases hc : i < c.length
    · rw [List.drop_eq_getElem_cons hc, ltL]
      exact (decide_eq_true (by omega)).symm
    · rw [List.drop_of_length_le (by omega : c.length ≤ i), ltL]
      exact (decide_eq_false (by omega)).symm
end Go.Ab.A15
def Go.Ab.zID_1 : Go.Ab.OZ := (.one 0 [0, 2, 3, 8] (.one 1 [1, 2, 3, 8] (.one 2 [2, 3, 8] (.one 3 [3, 8] (.one 4 [4, 6, 7, 8] (.one 5 [5, 6, 7, 8] (.one 6 [6, 7, 8] (.one 7 [7, 8] (.one 8 [8] .done)))))))))
namespace Go.Proofs.YtpidncgibgiidaaGreat
open Go Go.Ab Go.Ab.A34 Go.Ab.A15
variable [Gl] [Tabs]
theorem ints_r (a c : List Int) (ha : a.length ≤ 1000000000) (hc : c.length ≤ 1000000000) : PCall Tryz.prog 53 [IL a, IL c] (SB (decide (a = c))) := by
  obtain ⟨X, hX⟩ : ∃ X, X = decide (a = c) := ⟨_, rfl⟩
  rw [← hX]
  have h0 : ¬ a.length = c.length → X = false := fun h => by rw [hX, decide_eq_false fun e => h (by rw [e])]
  have h1 : a.length = c.length → (∀ j, j < a.length → a.getD j 0 = c.getD j 0) → X = true := fun hl h => by rw [hX, decide_eq_true (list_eq hl h)]
  have h2 : ∀ j, ¬ a.getD j 0 = c.getD j 0 → X = false := fun j h => by rw [hX, decide_eq_false fun e => h (by rw [e])]
  clear hX
  by_cases hl : a.length = c.length
  · have hlq : ((a.length : Nat) : Int) = ((c.length : Nat) : Int) := by omega
    refine Call.enter' (N := 26) (rs := [.tmp 4]) Tryz.func53 rfl rfl rfl (by decide) rfl ?_; simp only [argT]; have hD : (0 : Nat) = 0 := rfl
    repeat' first | (refine SW.seq_k fun K hK => ?_) | (refine SW.block ?_) | ((first | refine SW.region ?_ | refine SW.cond ?_ | refine SW.skip ?_); try simp only [go_sem, hD, hlq]) | (apply hK; clear hK K)
    obtain ⟨I, hI⟩ : ∃ I : Nat → St → Prop, ∀ k S, I k S ↔ (∃ (i : Nat) , k = a.length - i ∧ i ≤ a.length ∧ (∀ j, j < i → a.getD j 0 = c.getD j 0) ∧ S = ⟨[(0, IL a), (1, IL c), (5, I64 i)], []⟩) := ⟨fun k S => _, fun _ _ => Iff.rfl⟩
    refine SW.loop' I (a.length) ((hI _ _).2 ⟨0, rfl, Nat.zero_le _, (fun j hj => absurd hj (by omega)), rfl⟩) (by repeat' (first | exact rfl | exact trivial | constructor)) ?_
    intro k S hIn
    obtain ⟨i, rfl, hi, hL, rfl⟩ := (hI _ _).1 hIn
    clear hIn
    have ie : ((i : Nat) : Int).toNat = i := Int.toNat_natCast _
    have i0 : (0 : Int) ≤ ((i : Nat) : Int) := by omega
    by_cases hlt : i < a.length
    · have hli : ((i : Nat) : Int) < (((a.length) : Nat) : Int) := by omega
      have w1 : IntKind.i64.wrap ((i : Int) + 1) = ((i + 1 : Nat) : Int) := by rw [i64_wrap (by omega) (by omega)]; omega
      have hlc : ((i : Nat) : Int) < ((c.length : Nat) : Int) := by omega
      have fi : iF a i = [I64 (a.getD i 0)] := rfl
      have gi : iF c i = [I64 (c.getD i 0)] := rfl
      have h2i := h2 i
      have hn1 : a.getD i 0 = c.getD i 0 → ∀ j, j < i + 1 → a.getD j 0 = c.getD j 0 := fun h j hj => by
        rcases Nat.lt_or_ge j i with h3 | h3
        · exact hL j h3
        · obtain rfl : j = i := by omega
          exact h
      generalize a.getD i 0 = u at *
      generalize c.getD i 0 = v at *
      by_cases huv : u = v
      · have hn2 := hn1 huv
        repeat' first | (refine SW.seq_k fun K hK => ?_) | (refine SW.block ?_) | ((first | refine SW.region ?_ | refine SW.regionZ (id := 6) (Checked.mixed Tryz.checked) Go.Ab.zID_1 (by kernel_rfl) ?_ | refine SW.cond ?_ | refine SW.skip ?_); try simp only [Go.Ab.zID_1, go_sem, hD, hli, hlc, ie, i0, w1, fi, gi, huv]) | (apply hK; clear hK K)
        refine Rnd.sub (a.length - (i + 1)) (by omega) ((hI _ _).2 ⟨i + 1, rfl, by omega, hn2, rfl⟩) (by repeat' (first | exact rfl | exact trivial | constructor))
      · have hx := h2i huv
        subst hx
        repeat' first | (refine SW.seq_k fun K hK => ?_) | (refine SW.block ?_) | ((first | refine SW.region ?_ | refine SW.regionZ (id := 6) (Checked.mixed Tryz.checked) Go.Ab.zID_1 (by kernel_rfl) ?_ | refine SW.cond ?_ | refine SW.skip ?_ | refine SW.ret ?_); try simp only [Go.Ab.zID_1, go_sem, hD, hli, hlc, ie, i0, w1, fi, gi, huv]) | (apply hK; clear hK K)
        refine ret_pure ?_; simp only [resL_tmp, resL_nil, tupOf, go_sem, hD]
    · have hli : ¬ ((i : Nat) : Int) < (((a.length) : Nat) : Int) := by omega
      have hx := h1 hl fun j hj => hL j (by omega)
      subst hx
      have nl : ¬ ((c.length : Nat) : Int) < ((c.length : Nat) : Int) := by omega
      repeat' first | (refine SW.seq_k fun K hK => ?_) | ((first | refine SW.region ?_ | refine SW.cond ?_ | refine SW.exit ?_ | refine SW.ret ?_); try simp only [go_sem, hD, hli, nl]) | (apply hK; clear hK K) | (clear hK K; apply hK; clear hK K)
      refine ret_pure ?_; simp only [resL_tmp, resL_nil, tupOf, go_sem, hD]
  · have hlq : ¬ ((a.length : Nat) : Int) = ((c.length : Nat) : Int) := by omega
    have hx := h0 hl
    subst hx
    refine Call.enter' (N := 26) (rs := [.tmp 4]) Tryz.func53 rfl rfl rfl (by decide) rfl ?_; simp only [argT]; have hD : (0 : Nat) = 0 := rfl
    repeat' first | (refine SW.seq_k fun K hK => ?_) | ((first | refine SW.region ?_ | refine SW.cond ?_ | refine SW.ret ?_); try simp only [go_sem, hD, hlq]) | (apply hK; clear hK K)
    refine ret_pure ?_; simp only [resL_tmp, resL_nil, tupOf, go_sem, hD]
theorem cont_r (a : List Int) (x : Int) (ha : a.length ≤ 1000000000) (n : Nat) (hn : a.length = n) (f : Nat → List SV) (hf : ∀ i, i < n → f i = [I64 (a.getD i 0)]) : PCall Tryz.prog 63 [.fl n 1 f, I64 x] (SB (decide (x ∈ a))) := by
  subst hn
  obtain ⟨X, hX⟩ : ∃ X, X = decide (x ∈ a) := ⟨_, rfl⟩
  rw [← hX]
  have h1 : (∀ j, j < a.length → ¬ a.getD j 0 = x) → X = false := fun h => by
    rw [hX, decide_eq_false]
    intro hm
    obtain ⟨k, hk, e⟩ := List.getElem_of_mem hm
    exact h k hk (by rw [← e]; simp [List.getD_eq_getElem?_getD, hk])
  have h2 : ∀ j, j < a.length → a.getD j 0 = x → X = true := fun j hj h => by rw [hX, decide_eq_true (h ▸ getD_mem' 0 hj)]
  clear hX
  refine Call.enter' (N := 18) (rs := [.tmp 4]) Tryz.func63 rfl rfl rfl (by decide) rfl ?_; simp only [argT]; have hD : (0 : Nat) = 0 := rfl
  repeat' first | (refine SW.seq_k fun K hK => ?_) | (refine SW.block ?_) | (refine SW.region ?_; try simp only [go_sem, hD]) | (apply hK; clear hK K)
  obtain ⟨I, hI⟩ : ∃ I : Nat → St → Prop, ∀ k S, I k S ↔ (∃ (i : Nat) , k = a.length - i ∧ i ≤ a.length ∧ (∀ j, j < i → ¬ a.getD j 0 = x) ∧ S = ⟨[(0, .fl a.length 1 f), (1, I64 x), (5, I64 i)], []⟩) := ⟨fun k S => _, fun _ _ => Iff.rfl⟩
  refine SW.loop' I (a.length) ((hI _ _).2 ⟨0, rfl, Nat.zero_le _, (fun j hj => absurd hj (by omega)), rfl⟩) (by repeat' (first | exact rfl | exact trivial | constructor)) ?_
  intro k S hIn
  obtain ⟨i, rfl, hi, hL, rfl⟩ := (hI _ _).1 hIn
  clear hIn
  have ie : ((i : Nat) : Int).toNat = i := Int.toNat_natCast _
  have i0 : (0 : Int) ≤ ((i : Nat) : Int) := by omega
  by_cases hlt : i < a.length
  · have hli : ((i : Nat) : Int) < (((a.length) : Nat) : Int) := by omega
    have w1 : IntKind.i64.wrap ((i : Int) + 1) = ((i + 1 : Nat) : Int) := by rw [i64_wrap (by omega) (by omega)]; omega
    have fi : f i = [I64 (a.getD i 0)] := hf i hlt
    have h2i := h2 i hlt
    have hn1 : ¬ a.getD i 0 = x → ∀ j, j < i + 1 → ¬ a.getD j 0 = x := fun h j hj => by
      rcases Nat.lt_or_ge j i with h3 | h3
      · exact hL j h3
      · obtain rfl : j = i := by omega
        exact h
    generalize a.getD i 0 = u at *
    by_cases huv : u = x
    · have hx := h2i huv
      subst hx
      repeat' first | (refine SW.seq_k fun K hK => ?_) | (refine SW.block ?_) | ((first | refine SW.region ?_ | refine SW.cond ?_ | refine SW.skip ?_ | refine SW.ret ?_); try simp only [go_sem, hD, hli, ie, i0, w1, fi, huv]) | (apply hK; clear hK K)
      refine ret_pure ?_; simp only [resL_tmp, resL_nil, tupOf, go_sem, hD]
    · have hn2 := hn1 huv
      repeat' first | (refine SW.seq_k fun K hK => ?_) | (refine SW.block ?_) | ((first | refine SW.region ?_ | refine SW.cond ?_ | refine SW.skip ?_); try simp only [go_sem, hD, hli, ie, i0, w1, fi, huv]) | (apply hK; clear hK K)
      refine Rnd.sub (a.length - (i + 1)) (by omega) ((hI _ _).2 ⟨i + 1, rfl, by omega, hn2, rfl⟩) (by repeat' (first | exact rfl | exact trivial | constructor))
  · have hli : ¬ ((i : Nat) : Int) < (((a.length) : Nat) : Int) := by omega
    have hx := h1 fun j hj => hL j (by omega)
    subst hx
    repeat' first | (refine SW.seq_k fun K hK => ?_) | ((first | refine SW.region ?_ | refine SW.cond ?_ | refine SW.exit ?_ | refine SW.ret ?_); try simp only [go_sem, hD, hli]) | (apply hK; clear hK K) | (clear hK K; apply hK; clear hK K)
    refine ret_pure ?_; simp only [resL_tmp, resL_nil, tupOf, go_sem, hD]
theorem less_r (a c : List Int) (ha : a.length ≤ 1000000000) (hc : c.length ≤ 1000000000) : PCall Tryz.prog 133 [IL a, IL c] (SB (ltL a c)) := by
  obtain ⟨X, hX⟩ : ∃ X, X = ltL a c := ⟨_, rfl⟩
  rw [← hX]
  refine Call.enter' (N := 41) (rs := [.tmp 4]) Tryz.func133 rfl rfl rfl (by decide) rfl ?_; simp only [argT]; have hD : (0 : Nat) = 0 := rfl
  repeat' first | (refine SW.seq_k fun K hK => ?_) | (refine SW.block ?_) | (refine SW.region ?_; try simp only [go_sem, hD]) | (apply hK; clear hK K)
  obtain ⟨I, hI⟩ : ∃ I : Nat → St → Prop, ∀ k S, I k S ↔ (∃ (i : Nat) , k = a.length - i ∧ i ≤ a.length ∧ (i ≤ c.length ∧ X = ltL (a.drop i) (c.drop i)) ∧ S = ⟨[(0, IL a), (1, IL c), (5, I64 i)], []⟩) := ⟨fun k S => _, fun _ _ => Iff.rfl⟩
  refine SW.loop' I (a.length) ((hI _ _).2 ⟨0, rfl, Nat.zero_le _, ⟨Nat.zero_le _, hX⟩, rfl⟩) (by repeat' (first | exact rfl | exact trivial | constructor)) ?_
  intro k S hIn
  obtain ⟨i, rfl, hi, hL, rfl⟩ := (hI _ _).1 hIn
  clear hIn
  have ie : ((i : Nat) : Int).toNat = i := Int.toNat_natCast _
  have i0 : (0 : Int) ≤ ((i : Nat) : Int) := by omega
  clear hX
  by_cases hlt : i < a.length
  · have hli : ((i : Nat) : Int) < (((a.length) : Nat) : Int) := by omega
    have w1 : IntKind.i64.wrap ((i : Int) + 1) = ((i + 1 : Nat) : Int) := by rw [i64_wrap (by omega) (by omega)]; omega
    by_cases hltc : i < c.length
    · have hlc : ((i : Nat) : Int) < ((c.length : Nat) : Int) := by omega
      have fi : iF a i = [I64 (a.getD i 0)] := rfl
      have gi : iF c i = [I64 (c.getD i 0)] := rfl
      have hs := hL.2
      rw [ltL_step hlt hltc] at hs
      clear hL
      generalize a.getD i 0 = u at *
      generalize c.getD i 0 = v at *
      by_cases huv : u = v
      · rw [if_pos huv] at hs
        have hn2 : i + 1 ≤ c.length ∧ X = ltL (a.drop (i + 1)) (c.drop (i + 1)) := ⟨hltc, hs⟩
        repeat' first | (refine SW.seq_k fun K hK => ?_) | (refine SW.block ?_) | ((first | refine SW.region ?_ | refine SW.regionZ (id := 4) (Checked.mixed Tryz.checked) Go.Ab.zID_1 (by kernel_rfl) ?_ | refine SW.cond ?_ | refine SW.skip ?_); try simp only [Go.Ab.zID_1, go_sem, hD, hli, hlc, ie, i0, w1, fi, gi, huv]) | (apply hK; clear hK K)
        refine Rnd.sub (a.length - (i + 1)) (by omega) ((hI _ _).2 ⟨i + 1, rfl, by omega, hn2, rfl⟩) (by repeat' (first | exact rfl | exact trivial | constructor))
      · rw [if_neg huv] at hs
        subst hs
        repeat' first | (refine SW.seq_k fun K hK => ?_) | (refine SW.block ?_) | ((first | refine SW.region ?_ | refine SW.regionZ (id := 4) (Checked.mixed Tryz.checked) Go.Ab.zID_1 (by kernel_rfl) ?_ | refine SW.regionZ (id := 5) (Checked.mixed Tryz.checked) ((.one 0 [0, 2, 3, 8, 9] (.one 1 [1, 2, 3, 8, 9] (.one 2 [2, 3, 8, 9] (.one 3 [3, 8, 9] (.one 4 [4, 6, 7, 8, 9] (.one 5 [5, 6, 7, 8, 9] (.one 6 [6, 7, 8, 9] (.one 7 [7, 8, 9] (.one 8 [8, 9] (.one 9 [9] .done)))))))))) : OZ) (by kernel_rfl) ?_ | refine SW.cond ?_ | refine SW.skip ?_ | refine SW.ret ?_); try simp only [Go.Ab.zID_1, go_sem, hD, hli, hlc, ie, i0, w1, fi, gi, huv]) | (apply hK; clear hK K)
        all_goals
          refine ret_pure ?_; simp only [resL_tmp, resL_nil, tupOf, go_sem, hD]
    · have hlc : ¬ ((i : Nat) : Int) < ((c.length : Nat) : Int) := by omega
      have hs := hL.2
      rw [ltL_end (fun h => hltc h.2) (by omega) hL.1] at hs
      have hle : decide (((a.length : Nat) : Int) < ((c.length : Nat) : Int)) = X := by rw [hs]; exact decide_eq_decide.mpr (by omega)
      repeat' first | (refine SW.seq_k fun K hK => ?_) | ((first | refine SW.region ?_ | refine SW.cond ?_ | refine SW.exit ?_ | refine SW.ret ?_); try simp only [go_sem, hD, hli, hlc, ie, i0, w1, hle]) | (apply hK; clear hK K) | (clear hK K; apply hK; clear hK K)
      refine ret_pure ?_; simp only [resL_tmp, resL_nil, tupOf, go_sem, hD]
  · have hli : ¬ ((i : Nat) : Int) < (((a.length) : Nat) : Int) := by omega
    have hs := hL.2
    rw [ltL_end (fun h => hlt h.1) (by omega) hL.1] at hs
    have hle : decide (((a.length : Nat) : Int) < ((c.length : Nat) : Int)) = X := by rw [hs]; exact decide_eq_decide.mpr (by omega)
    repeat' first | (refine SW.seq_k fun K hK => ?_) | ((first | refine SW.region ?_ | refine SW.cond ?_ | refine SW.exit ?_ | refine SW.ret ?_); try simp only [go_sem, hD, hli, hle]) | (apply hK; clear hK K) | (clear hK K; apply hK; clear hK K)
    refine ret_pure ?_; simp only [resL_tmp, resL_nil, tupOf, go_sem, hD]
end Go.Proofs.YtpidncgibgiidaaGreat
namespace Go.Ab.A15
open Go Go.Ab Go.Ab.A34
theorem dp_eq {a b : Dp} : a = b ↔ a.f = b.f ∧ a.t = b.t ∧ a.l = b.l ∧ a.r = b.r := by
  constructor
  · rintro rfl; exact ⟨rfl, rfl, rfl, rfl⟩
  · rintro ⟨h1, h2, h3, h4⟩
    cases a; cases b
    simp only at h1 h2 h3 h4
    subst h1 h2 h3 h4
    rfl
instance : DecidableEq Dp := fun a b => decidable_of_iff _ dp_eq.symm
structure OkS (d : Dp) : Prop where
  l : d.l.length ≤ 1000000000
  r : d.r.length ≤ 1000000000
def ltD (a b : Dp) : Bool := if ltL a.l b.l || ltL b.l a.l then ltL a.l b.l else ltL a.r b.r
theorem dps_eq {a c : List Dp} (hl : a.length = c.length) (h : ∀ j, j < a.length → a.getD j d0 = c.getD j d0) : a = c := by
  refine List.ext_getElem hl fun i h1 h2 => ?_
  have := h i h1
  simpa [List.getD_eq_getElem?_getD, h1, h2] using this
end Go.Ab.A15
def Go.Ab.zIE_1 : Go.Ab.OZ := (.one 0 [0, 2, 3, 8, 9] (.one 1 [1, 2, 3, 8, 9] (.one 2 [2, 3, 8, 9] (.one 3 [3, 8, 9] (.one 4 [4, 6, 7, 8, 9] (.one 5 [5, 6, 7, 8, 9] (.one 6 [6, 7, 8, 9] (.one 7 [7, 8, 9] (.one 8 [8, 9] (.one 9 [9] .done))))))))))
namespace Go.Proofs.YtpidncgibgiidaaGreat
open Go Go.Ab Go.Ab.A34 Go.Ab.A15
variable [Gl] [Tabs]
theorem equal_d (a b : Dp) (ha : OkS a) (hb : OkS b) : PCall Tryz.prog 22 [DV a, DV b] (SB (decide (a = b))) := by
  have c1 := ints_r a.l b.l ha.l hb.l
  have c2 := ints_r a.r b.r ha.r hb.r
  have he := @dp_eq a b
  have e1 := @barr_eq a.f b.f
  have e2 := @barr_eq a.t b.t
  obtain ⟨X, hX⟩ : ∃ X, X = decide (a = b) := ⟨_, rfl⟩
  rw [← hX]
  obtain ⟨af, al, at', ar⟩ := a
  obtain ⟨bf, bl, bt, br⟩ := b
  simp only at c1 c2 he e1 e2
  by_cases h1 : af = bf
  · have f1 : (af.toList == bf.toList) = true := e1.2 h1
    by_cases h2 : at' = bt
    · have f2 : (at'.toList == bt.toList) = true := e2.2 h2
      by_cases h3 : al = bl
      · have hXX : decide (ar = br) = X := by rw [hX]; exact decide_eq_decide.mpr ⟨fun h => he.2 ⟨h1, h2, h3, h⟩, fun h => (he.1 h).2.2.2⟩
        rw [hXX] at c2
        rw [decide_eq_true h3] at c1
        refine Call.enter' (N := 31) (rs := [.tmp 4]) Tryz.func22 rfl rfl rfl (by decide) rfl ?_; simp only [argT]; have hD : (0 : Nat) = 0 := rfl
        repeat' first | (refine SW.seq_k fun K hK => ?_) | ((first | refine SW.region ?_ | refine SW.ret ?_ | refine Call.of_pure (c1) ?_ | refine Call.of_pure (c2) ?_ | (refine allF_i fun b hb => ?_; replace hD := And.intro hb hD; clear hb; try simp only [fresh_cons, fresh_nil, and_true, ne_eq, neF] at hD)); try simp only [go_sem, hD, f1, f2, true_implies]) | (apply hK; clear hK K)
        refine ret_pure ?_; simp only [resL_tmp, resL_nil, tupOf, go_sem, hD]
      · have hXX : X = false := by rw [hX]; exact decide_eq_false fun h => h3 (he.1 h).2.2.1
        subst hXX
        rw [decide_eq_false h3] at c1
        refine Call.enter' (N := 31) (rs := [.tmp 4]) Tryz.func22 rfl rfl rfl (by decide) rfl ?_; simp only [argT]; have hD : (0 : Nat) = 0 := rfl
        repeat' first | (refine SW.seq_k fun K hK => ?_) | ((first | refine SW.region ?_ | refine SW.ret ?_ | refine Call.of_pure (c1) ?_ | (refine allF_i fun b hb => ?_; replace hD := And.intro hb hD; clear hb; try simp only [fresh_cons, fresh_nil, and_true, ne_eq, neF] at hD)); try simp only [go_sem, hD, f1, f2, true_implies]) | (apply hK; clear hK K)
        refine ret_pure ?_; simp only [resL_tmp, resL_nil, tupOf, go_sem, hD]
    · have f2 : (at'.toList == bt.toList) = false := Bool.eq_false_iff.2 fun h => h2 (e2.1 h)
      have hXX : X = false := by rw [hX]; exact decide_eq_false fun h => h2 (he.1 h).2.1
      subst hXX
      refine Call.enter' (N := 31) (rs := [.tmp 4]) Tryz.func22 rfl rfl rfl (by decide) rfl ?_; simp only [argT]; have hD : (0 : Nat) = 0 := rfl
      repeat' first | (refine SW.seq_k fun K hK => ?_) | ((first | refine SW.region ?_ | refine SW.ret ?_ | (refine allF_i fun b hb => ?_; replace hD := And.intro hb hD; clear hb; try simp only [fresh_cons, fresh_nil, and_true, ne_eq, neF] at hD)); try simp only [go_sem, hD, f1, f2, true_implies]) | (apply hK; clear hK K)
      refine ret_pure ?_; simp only [resL_tmp, resL_nil, tupOf, go_sem, hD]
  · have f1 : (af.toList == bf.toList) = false := Bool.eq_false_iff.2 fun h => h1 (e1.1 h)
    have hXX : X = false := by rw [hX]; exact decide_eq_false fun h => h1 (he.1 h).1
    subst hXX
    refine Call.enter' (N := 31) (rs := [.tmp 4]) Tryz.func22 rfl rfl rfl (by decide) rfl ?_; simp only [argT]; have hD : (0 : Nat) = 0 := rfl
    repeat' first | (refine SW.seq_k fun K hK => ?_) | ((first | refine SW.region ?_ | refine SW.ret ?_ | (refine allF_i fun b hb => ?_; replace hD := And.intro hb hD; clear hb; try simp only [fresh_cons, fresh_nil, and_true, ne_eq, neF] at hD)); try simp only [go_sem, hD, f1, true_implies]) | (apply hK; clear hK K)
    refine ret_pure ?_; simp only [resL_tmp, resL_nil, tupOf, go_sem, hD]
theorem before_d (a b : Dp) (ha : OkS a) (hb : OkS b) : PCall Tryz.prog 96 [DV a, DV b] (SB (ltD a b)) := by
  have c1 := less_r a.l b.l ha.l hb.l
  have c2 := less_r b.l a.l hb.l ha.l
  have c3 := less_r a.r b.r ha.r hb.r
  obtain ⟨X, hX⟩ : ∃ X, X = ltD a b := ⟨_, rfl⟩
  rw [← hX]
  unfold ltD at hX
  obtain ⟨af, al, at', ar⟩ := a
  obtain ⟨bf, bl, bt, br⟩ := b
  simp only at c1 c2 c3 hX
  generalize ltL al bl = z1 at *
  generalize ltL bl al = z2 at *
  generalize ltL ar br = z3 at *
  cases z1 with
  | true =>
    obtain rfl : X = true := by rw [hX]; rfl
    refine Call.enter' (N := 27) (rs := [.tmp 4]) Tryz.func96 rfl rfl rfl (by decide) rfl ?_; simp only [argT]; have hD : (0 : Nat) = 0 := rfl
    repeat' first | (refine SW.seq_k fun K hK => ?_) | ((first | refine SW.region ?_ | refine SW.cond ?_ | refine SW.ret ?_ | refine Call.of_pure (c1) ?_ | (refine allF_i fun b hb => ?_; replace hD := And.intro hb hD; clear hb; try simp only [fresh_cons, fresh_nil, and_true, ne_eq, neF] at hD)); try simp only [go_sem, hD, true_implies]) | (apply hK; clear hK K)
    refine ret_pure ?_; simp only [resL_tmp, resL_nil, tupOf, go_sem, hD]
  | false =>
    cases z2 with
    | true =>
      obtain rfl : X = false := by rw [hX]; rfl
      refine Call.enter' (N := 27) (rs := [.tmp 4]) Tryz.func96 rfl rfl rfl (by decide) rfl ?_; simp only [argT]; have hD : (0 : Nat) = 0 := rfl
      repeat' first | (refine SW.seq_k fun K hK => ?_) | ((first | refine SW.region ?_ | refine SW.cond ?_ | refine SW.ret ?_ | refine Call.of_pure (c1) ?_ | refine Call.of_pure (c2) ?_ | (refine allF_i fun b hb => ?_; replace hD := And.intro hb hD; clear hb; try simp only [fresh_cons, fresh_nil, and_true, ne_eq, neF] at hD)); try simp only [go_sem, hD, true_implies]) | (apply hK; clear hK K)
      refine ret_pure ?_; simp only [resL_tmp, resL_nil, tupOf, go_sem, hD]
    | false =>
      obtain rfl : X = z3 := by rw [hX]; rfl
      refine Call.enter' (N := 27) (rs := [.tmp 4]) Tryz.func96 rfl rfl rfl (by decide) rfl ?_; simp only [argT]; have hD : (0 : Nat) = 0 := rfl
      repeat' first | (refine SW.seq_k fun K hK => ?_) | ((first | refine SW.region ?_ | refine SW.cond ?_ | refine SW.skip ?_ | refine SW.ret ?_ | refine Call.of_pure (c1) ?_ | refine Call.of_pure (c2) ?_ | refine Call.of_pure (c3) ?_ | (refine allF_i fun b hb => ?_; replace hD := And.intro hb hD; clear hb; try simp only [fresh_cons, fresh_nil, and_true, ne_eq, neF] at hD)); try simp only [go_sem, hD, true_implies]) | (apply hK; clear hK K)
      refine ret_pure ?_; simp only [resL_tmp, resL_nil, tupOf, go_sem, hD]
theorem same_d (a c : List Dp) (ha : a.length ≤ 1000000000) (hc : c.length ≤ 1000000000) (oa : ∀ d ∈ a, OkS d) (oc : ∀ d ∈ c, OkS d) : PCall Tryz.prog 15 [DpL a, DpL c] (SB (decide (a = c))) := by
  obtain ⟨X, hX⟩ : ∃ X, X = decide (a = c) := ⟨_, rfl⟩
  rw [← hX]
  have h0 : ¬ a.length = c.length → X = false := fun h => by rw [hX, decide_eq_false fun e => h (by rw [e])]
  have h1 : a.length = c.length → (∀ j, j < a.length → a.getD j d0 = c.getD j d0) → X = true := fun hl h => by rw [hX, decide_eq_true (dps_eq hl h)]
  have h2 : ∀ j, ¬ a.getD j d0 = c.getD j d0 → X = false := fun j h => by rw [hX, decide_eq_false fun e => h (by rw [e])]
  clear hX
  by_cases hl : a.length = c.length
  · have hlq : ((a.length : Nat) : Int) = ((c.length : Nat) : Int) := by omega
    refine Call.enter' (N := 27) (rs := [.tmp 4]) Tryz.func15 rfl rfl rfl (by decide) rfl ?_; simp only [argT]; have hD : (0 : Nat) = 0 := rfl
    repeat' first | (refine SW.seq_k fun K hK => ?_) | (refine SW.block ?_) | ((first | refine SW.region ?_ | refine SW.cond ?_ | refine SW.skip ?_); try simp only [go_sem, hD, hlq]) | (apply hK; clear hK K)
    obtain ⟨I, hI⟩ : ∃ I : Nat → St → Prop, ∀ k S, I k S ↔ (∃ (i : Nat) , k = a.length - i ∧ i ≤ a.length ∧ (∀ j, j < i → a.getD j d0 = c.getD j d0) ∧ S = ⟨[(0, DpL a), (1, DpL c), (5, I64 i)], []⟩) := ⟨fun k S => _, fun _ _ => Iff.rfl⟩
    refine SW.loop' I (a.length) ((hI _ _).2 ⟨0, rfl, Nat.zero_le _, (fun j hj => absurd hj (by omega)), rfl⟩) (by repeat' (first | exact rfl | exact trivial | constructor)) ?_
    intro k S hIn
    obtain ⟨i, rfl, hi, hL, rfl⟩ := (hI _ _).1 hIn
    clear hIn
    have ie : ((i : Nat) : Int).toNat = i := Int.toNat_natCast _
    have i0 : (0 : Int) ≤ ((i : Nat) : Int) := by omega
    by_cases hlt : i < a.length
    · have hli : ((i : Nat) : Int) < (((a.length) : Nat) : Int) := by omega
      have w1 : IntKind.i64.wrap ((i : Int) + 1) = ((i + 1 : Nat) : Int) := by rw [i64_wrap (by omega) (by omega)]; omega
      have hlc : ((i : Nat) : Int) < ((c.length : Nat) : Int) := by omega
      have fi : dpF a i = dC (a.getD i d0) := rfl
      have gi : dpF c i = dC (c.getD i d0) := rfl
      have ce := equal_d (a.getD i d0) (c.getD i d0) (oa _ (getD_mem' d0 hlt)) (oc _ (getD_mem' d0 (by omega)))
      have h2i := h2 i
      have hn1 : a.getD i d0 = c.getD i d0 → ∀ j, j < i + 1 → a.getD j d0 = c.getD j d0 := fun h j hj => by
        rcases Nat.lt_or_ge j i with h3 | h3
        · exact hL j h3
        · obtain rfl : j = i := by omega
          exact h
      generalize a.getD i d0 = u at *
      generalize c.getD i d0 = v at *
      by_cases huv : u = v
      · have hn2 := hn1 huv
        rw [decide_eq_true huv] at ce
        clear hn1 h2i huv
        obtain ⟨u1, u2, u3, u4⟩ := u
        obtain ⟨v1, v2, v3, v4⟩ := v
        repeat' first | (refine SW.seq_k fun K hK => ?_) | (refine SW.block ?_) | ((first | refine SW.region ?_ | refine SW.regionZ (id := 6) (Checked.mixed Tryz.checked) Go.Ab.zIE_1 (by kernel_rfl) ?_ | refine SW.cond ?_ | refine SW.skip ?_ | refine ⟨_, ce, ?_⟩); try simp only [Go.Ab.zIE_1, go_sem, hD, hli, hlc, ie, i0, w1, fi, gi, true_implies]) | (apply hK; clear hK K)
        refine Rnd.sub (a.length - (i + 1)) (by omega) ((hI _ _).2 ⟨i + 1, rfl, by omega, hn2, rfl⟩) (by repeat' (first | exact rfl | exact trivial | constructor))
      · have hx := h2i huv
        subst hx
        rw [decide_eq_false huv] at ce
        clear hn1 h2i huv
        obtain ⟨u1, u2, u3, u4⟩ := u
        obtain ⟨v1, v2, v3, v4⟩ := v
        repeat' first | (refine SW.seq_k fun K hK => ?_) | (refine SW.block ?_) | ((first | refine SW.region ?_ | refine SW.regionZ (id := 6) (Checked.mixed Tryz.checked) Go.Ab.zIE_1 (by kernel_rfl) ?_ | refine SW.cond ?_ | refine SW.skip ?_ | refine SW.ret ?_ | refine ⟨_, ce, ?_⟩); try simp only [Go.Ab.zIE_1, go_sem, hD, hli, hlc, ie, i0, w1, fi, gi, true_implies]) | (apply hK; clear hK K)
        refine ret_pure ?_; simp only [resL_tmp, resL_nil, tupOf, go_sem, hD]
    · have hli : ¬ ((i : Nat) : Int) < (((a.length) : Nat) : Int) := by omega
      have hx := h1 hl fun j hj => hL j (by omega)
      subst hx
      have nl : ¬ ((c.length : Nat) : Int) < ((c.length : Nat) : Int) := by omega
      repeat' first | (refine SW.seq_k fun K hK => ?_) | ((first | refine SW.region ?_ | refine SW.cond ?_ | refine SW.exit ?_ | refine SW.ret ?_); try simp only [go_sem, hD, hli, nl]) | (apply hK; clear hK K) | (clear hK K; apply hK; clear hK K)
      refine ret_pure ?_; simp only [resL_tmp, resL_nil, tupOf, go_sem, hD]
  · have hlq : ¬ ((a.length : Nat) : Int) = ((c.length : Nat) : Int) := by omega
    have hx := h0 hl
    subst hx
    refine Call.enter' (N := 27) (rs := [.tmp 4]) Tryz.func15 rfl rfl rfl (by decide) rfl ?_; simp only [argT]; have hD : (0 : Nat) = 0 := rfl
    repeat' first | (refine SW.seq_k fun K hK => ?_) | ((first | refine SW.region ?_ | refine SW.cond ?_ | refine SW.ret ?_); try simp only [go_sem, hD, hlq]) | (apply hK; clear hK K)
    refine ret_pure ?_; simp only [resL_tmp, resL_nil, tupOf, go_sem, hD]
theorem error_r (db : List Tb) (hdb : db.length ≤ 1000000) (hok : OkDb db) : PCall Tryz.prog 48 [DB db] (I64 (chkD db)) := by
  have c := check_r db (by omega) hok
  obtain ⟨X, hX⟩ : ∃ X, X = chkD db := ⟨_, rfl⟩
  rw [← hX]
  unfold chkD at hX
  generalize chkS db = v at *
  by_cases hv : v = 0
  · rw [if_pos hv] at hX
    by_cases h6 : 6 < db.length
    · rw [if_pos (.inl h6)] at hX
      subst hX
      have h6i : (6 : Int) < ((db.length : Nat) : Int) := by omega
      refine Call.enter' (N := 29) (rs := [.tmp 2]) Tryz.func48 rfl rfl rfl (by decide) rfl ?_; simp only [argT]; have hD : (0 : Nat) = 0 := rfl
      repeat' first | (refine SW.seq_k fun K hK => ?_) | ((first | refine SW.region ?_ | refine SW.cond ?_ | refine SW.skip ?_ | refine SW.ret ?_ | refine Call.of_pure (c) ?_ | (refine allF_i fun b hb => ?_; replace hD := And.intro hb hD; clear hb; try simp only [fresh_cons, fresh_nil, and_true, ne_eq, neF] at hD)); try simp only [go_sem, hD, hv, h6i, true_implies]) | (apply hK; clear hK K)
      refine ret_pure ?_; simp only [resL_tmp, resL_nil, tupOf, go_sem, hD]
    · have h6i : ¬ (6 : Int) < ((db.length : Nat) : Int) := by omega
      have h1 : (∀ j, j < db.length → ¬ 6 < (db.getD j t0).attrs.length) → X = 0 := fun h => by
        rw [hX, if_neg]
        rintro (h' | h')
        · exact h6 h'
        · obtain ⟨t, ht, e⟩ := List.any_eq_true.1 h'
          obtain ⟨k, hk, e2⟩ := List.getElem_of_mem ht
          exact h k hk (by rw [List.getD_eq_getElem?_getD, List.getElem?_eq_getElem hk, Option.getD_some, e2]; exact of_decide_eq_true e)
      have h2 : ∀ j, j < db.length → 6 < (db.getD j t0).attrs.length → X = 3 := fun j hj h => by
        rw [hX, if_pos (.inr (List.any_eq_true.2 ⟨_, getD_mem' t0 hj, decide_eq_true h⟩))]
      clear hX
      refine Call.enter' (N := 29) (rs := [.tmp 2]) Tryz.func48 rfl rfl rfl (by decide) rfl ?_; simp only [argT]; have hD : (0 : Nat) = 0 := rfl
      repeat' first | (refine SW.seq_k fun K hK => ?_) | (refine SW.block ?_) | ((first | refine SW.region ?_ | refine SW.cond ?_ | refine SW.skip ?_ | refine Call.of_pure (c) ?_ | (refine allF_i fun b hb => ?_; replace hD := And.intro hb hD; clear hb; try simp only [fresh_cons, fresh_nil, and_true, ne_eq, neF] at hD)); try simp only [go_sem, hD, hv, h6i, true_implies]) | (apply hK; clear hK K)
      obtain ⟨xb, rfl⟩ : ∃ x, x = b := ⟨_, rfl⟩
      obtain ⟨I, hI⟩ : ∃ I : Nat → St → Prop, ∀ k S, I k S ↔ (∃ (i : Nat) , k = db.length - i ∧ i ≤ db.length ∧ (∀ j, j < i → ¬ 6 < (db.getD j t0).attrs.length) ∧ S = ⟨[(1, .op xb 0), (4, I64 i)], [(xb, .svs [TL db])]⟩) := ⟨fun k S => _, fun _ _ => Iff.rfl⟩
      refine SW.loop' I (db.length) ((hI _ _).2 ⟨0, rfl, Nat.zero_le _, (fun j hj => absurd hj (by omega)), rfl⟩) (by repeat' (first | exact rfl | exact trivial | constructor)) ?_
      intro k S hIn
      obtain ⟨i, rfl, hi, hL, rfl⟩ := (hI _ _).1 hIn
      clear hIn
      have ie : ((i : Nat) : Int).toNat = i := Int.toNat_natCast _
      have i0 : (0 : Int) ≤ ((i : Nat) : Int) := by omega
      by_cases hlt : i < db.length
      · have hli : ((i : Nat) : Int) < (((db.length) : Nat) : Int) := by omega
        have w1 : IntKind.i64.wrap ((i : Int) + 1) = ((i + 1 : Nat) : Int) := by rw [i64_wrap (by omega) (by omega)]; omega
        have fi : tF db i = tC (db.getD i t0) := rfl
        have h2i := h2 i hlt
        have hn1 : ¬ 6 < (db.getD i t0).attrs.length → ∀ j, j < i + 1 → ¬ 6 < (db.getD j t0).attrs.length := fun h j hj => by
          rcases Nat.lt_or_ge j i with h3 | h3
          · exact hL j h3
          · obtain rfl : j = i := by omega
            exact h
        generalize db.getD i t0 = t at *
        obtain ⟨tn, ta, tr⟩ := t
        simp only at hn1 h2i
        by_cases h : 6 < ta.length
        · have hx := h2i h
          subst hx
          have hi2 : (6 : Int) < ((ta.length : Nat) : Int) := by omega
          repeat' first | (refine SW.seq_k fun K hK => ?_) | (refine SW.block ?_) | ((first | refine SW.region ?_ | refine SW.cond ?_ | refine SW.skip ?_ | refine SW.ret ?_); try simp only [go_sem, hD, hli, ie, i0, w1, fi, hi2, true_implies]) | (apply hK; clear hK K)
          refine ret_pure ?_; simp only [resL_tmp, resL_nil, tupOf, go_sem, hD]
        · have hn2 := hn1 h
          have hi2 : ¬ (6 : Int) < ((ta.length : Nat) : Int) := by omega
          repeat' first | (refine SW.seq_k fun K hK => ?_) | (refine SW.block ?_) | ((first | refine SW.region ?_ | refine SW.cond ?_ | refine SW.skip ?_); try simp only [go_sem, hD, hli, ie, i0, w1, fi, hi2, true_implies]) | (apply hK; clear hK K)
          refine Rnd.le (St.le_only ?_) (Rnd.sub (db.length - (i + 1)) (by omega) ((hI _ _).2 ⟨i + 1, rfl, by omega, hn2, rfl⟩) (by repeat' (first | exact rfl | exact trivial | constructor)))
          repeat (first | exact List.mem_cons_self | apply List.mem_cons_of_mem)
      · have hli : ¬ ((i : Nat) : Int) < (((db.length) : Nat) : Int) := by omega
        have hx := h1 fun j hj => hL j (by omega)
        subst hx
        repeat' first | (refine SW.seq_k fun K hK => ?_) | ((first | refine SW.region ?_ | refine SW.cond ?_ | refine SW.exit ?_ | refine SW.ret ?_); try simp only [go_sem, hD, hli]) | (apply hK; clear hK K) | (clear hK K; apply hK; clear hK K)
        refine ret_pure ?_; simp only [resL_tmp, resL_nil, tupOf, go_sem, hD]
  · rw [if_neg hv] at hX
    subst hX
    refine Call.enter' (N := 29) (rs := [.tmp 2]) Tryz.func48 rfl rfl rfl (by decide) rfl ?_; simp only [argT]; have hD : (0 : Nat) = 0 := rfl
    repeat' first | (refine SW.seq_k fun K hK => ?_) | ((first | refine SW.region ?_ | refine SW.cond ?_ | refine SW.ret ?_ | refine Call.of_pure (c) ?_ | (refine allF_i fun b hb => ?_; replace hD := And.intro hb hD; clear hb; try simp only [fresh_cons, fresh_nil, and_true, ne_eq, neF] at hD)); try simp only [go_sem, hD, hv, true_implies]) | (apply hK; clear hK K)
    refine ret_pure ?_; simp only [resL_tmp, resL_nil, tupOf, go_sem, hD]
end Go.Proofs.YtpidncgibgiidaaGreat
namespace Go.Ab.A15
open Go Go.Ab Go.Ab.A34
def canI (d : Dp) (i : Nat) : Prop := (0 < i → d.l.getD (i - 1) 0 < d.l.getD i 0) ∧ ¬ d.r.getD i 0 ∈ d.r.take i ∧ ¬ (d.f = d.t ∧ d.l.getD i 0 = d.r.getD i 0)
def CanD (d : Dp) : Prop := 0 < d.l.length ∧ d.l.length = d.r.length ∧ ∀ i, i < d.l.length → canI d i
end Go.Ab.A15
def Go.Ab.zIF_1 : Go.Ab.OZ := (.one 0 [0, 1, 2, 3, 4, 5, 6, 7, 8, 9, 10, 11, 12, 13, 14, 15, 16, 17, 18, 19, 20, 21, 22, 23, 24, 25, 26, 27, 28, 29, 30, 31, 32, 33, 34, 35, 36, 37, 38, 39, 40, 41, 42, 43, 44, 45, 46, 47] (.one 1 [1, 2, 3, 4, 5, 6, 7, 8, 9, 10, 11, 12, 13, 14, 15, 16, 17, 18, 19, 20, 21, 22, 23, 24, 25, 26, 27, 28, 29, 30, 31, 32, 33, 34, 35, 36, 37, 38, 39, 40, 41, 42, 43, 44, 45, 46, 47] (.one 2 [2, 3, 4, 5, 6, 7, 8, 9, 10, 11, 12, 13, 14, 15, 16, 17, 18, 19, 20, 21, 22, 23, 24, 25, 26, 27, 28, 29, 30, 31, 32, 33, 34, 35, 36, 37, 38, 39, 40, 41, 42, 43, 44, 45, 46, 47] (.one 3 [3, 4, 6, 7, 14, 15, 16, 17, 18, 19, 20, 21, 22, 23, 24, 25, 26, 27, 28, 29, 30, 31, 32, 33, 34, 35, 36, 37, 38, 39, 40, 41, 42, 43, 44, 45, 46, 47] (.one 4 [4, 6, 7, 14, 15, 16, 17, 18, 19, 20, 21, 22, 23, 24, 25, 26, 27, 28, 29, 30, 31, 32, 33, 34, 35, 36, 37, 38, 39, 40, 41, 42, 43, 44, 45, 46, 47] (.one 5 [5, 6, 7, 14, 15, 16, 17, 18, 19, 20, 21, 22, 23, 24, 25, 26, 27, 28, 29, 30, 31, 32, 33, 34, 35, 36, 37, 38, 39, 40, 41, 42, 43, 44, 45, 46, 47] (.one 6 [6, 7, 14, 15, 16, 17, 18, 19, 20, 21, 22, 23, 24, 25, 26, 27, 28, 29, 30, 31, 32, 33, 34, 35, 36, 37, 38, 39, 40, 41, 42, 43, 44, 45, 46, 47] (.one 7 [7, 14, 15, 16, 17, 18, 19, 20, 21, 22, 23, 24, 25, 26, 27, 28, 29, 30, 31, 32, 33, 34, 35, 36, 37, 38, 39, 40, 41, 42, 43, 44, 45, 46, 47] (.one 8 [8, 9, 12, 13, 14, 15, 16, 17, 18, 19, 20, 21, 22, 23, 24, 25, 26, 27, 28, 29, 30, 31, 32, 33, 34, 35, 36, 37, 38, 39, 40, 41, 42, 43, 44, 45, 46, 47] (.one 9 [9, 12, 13, 14, 15, 16, 17, 18, 19, 20, 21, 22, 23, 24, 25, 26, 27, 28, 29, 30, 31, 32, 33, 34, 35, 36, 37, 38, 39, 40, 41, 42, 43, 44, 45, 46, 47] (.one 10 [10, 11, 12, 13, 14, 15, 16, 17, 18, 19, 20, 21, 22, 23, 24, 25, 26, 27, 28, 29, 30, 31, 32, 33, 34, 35, 36, 37, 38, 39, 40, 41, 42, 43, 44, 45, 46, 47] (.one 11 [11, 12, 13, 14, 15, 16, 17, 18, 19, 20, 21, 22, 23, 24, 25, 26, 27, 28, 29, 30, 31, 32, 33, 34, 35, 36, 37, 38, 39, 40, 41, 42, 43, 44, 45, 46, 47] (.one 12 [12, 13, 14, 15, 16, 17, 18, 19, 20, 21, 22, 23, 24, 25, 26, 27, 28, 29, 30, 31, 32, 33, 34, 35, 36, 37, 38, 39, 40, 41, 42, 43, 44, 45, 46, 47] (.one 13 [13, 14, 15, 16, 17, 18, 19, 20, 21, 22, 23, 24, 25, 26, 27, 28, 29, 30, 31, 32, 33, 34, 35, 36, 37, 38, 39, 40, 41, 42, 43, 44, 45, 46, 47] (.one 14 [14, 15, 16, 17, 18, 19, 20, 21, 22, 23, 24, 25, 26, 27, 28, 29, 30, 31, 32, 33, 34, 35, 36, 37, 38, 39, 40, 41, 42, 43, 44, 45, 46, 47] (.one 15 [15, 16, 17, 18, 19, 20, 21, 22, 23, 24, 25, 26, 27, 28, 29, 30, 31, 32, 33, 34, 35, 36, 37, 38, 39, 40, 41, 42, 43, 44, 45, 46, 47] (.one 16 [16, 17, 18, 19, 20, 21, 22, 23, 24, 25, 26, 27, 28, 29, 30, 31, 32, 33, 34, 35, 36, 37, 38, 39, 40, 41, 42, 43, 44, 45, 46, 47] (.one 17 [17, 18, 20, 26, 27, 28, 29, 30, 31, 32, 33, 34, 35, 36, 37, 38, 39, 40, 41, 42, 43, 44, 45, 46, 47] (.one 18 [18, 20, 26, 27, 28, 29, 30, 31, 32, 33, 34, 35, 36, 37, 38, 39, 40, 41, 42, 43, 44, 45, 46, 47] (.one 19 [19, 20, 26, 27, 28, 29, 30, 31, 32, 33, 34, 35, 36, 37, 38, 39, 40, 41, 42, 43, 44, 45, 46, 47] (.one 20 [20, 26, 27, 28, 29, 30, 31, 32, 33, 34, 35, 36, 37, 38, 39, 40, 41, 42, 43, 44, 45, 46, 47] (.one 21 [21, 22, 24, 25, 26, 27, 28, 29, 30, 31, 32, 33, 34, 35, 36, 37, 38, 39, 40, 41, 42, 43, 44, 45, 46, 47] (.one 22 [22, 24, 25, 26, 27, 28, 29, 30, 31, 32, 33, 34, 35, 36, 37, 38, 39, 40, 41, 42, 43, 44, 45, 46, 47] (.one 23 [23, 24, 25, 26, 27, 28, 29, 30, 31, 32, 33, 34, 35, 36, 37, 38, 39, 40, 41, 42, 43, 44, 45, 46, 47] (.one 24 [24, 25, 26, 27, 28, 29, 30, 31, 32, 33, 34, 35, 36, 37, 38, 39, 40, 41, 42, 43, 44, 45, 46, 47] (.one 25 [25, 26, 27, 28, 29, 30, 31, 32, 33, 34, 35, 36, 37, 38, 39, 40, 41, 42, 43, 44, 45, 46, 47] (.one 26 [26, 27, 28, 29, 30, 31, 32, 33, 34, 35, 36, 37, 38, 39, 40, 41, 42, 43, 44, 45, 46, 47] (.one 27 [27, 28, 29, 30, 31, 32, 33, 34, 35, 36, 37, 38, 39, 40, 41, 42, 43, 44, 45, 46, 47] (.one 28 [28, 29, 30, 31, 32, 33, 34, 35, 36, 37, 38, 39, 40, 41, 42, 43, 44, 45, 46, 47] (.one 29 [29, 30, 33, 34, 35, 36, 37, 38, 39, 40, 41, 42, 43, 44, 45, 46, 47] (.one 30 [30, 33, 34, 35, 36, 37, 38, 39, 40, 41, 42, 43, 44, 45, 46, 47] (.one 31 [31, 32, 33, 34, 35, 36, 37, 38, 39, 40, 41, 42, 43, 44, 45, 46, 47] (.one 32 [32, 33, 34, 35, 36, 37, 38, 39, 40, 41, 42, 43, 44, 45, 46, 47] (.one 33 [33, 34, 35, 36, 37, 38, 39, 40, 41, 42, 43, 44, 45, 46, 47] (.one 34 [34, 35, 36, 37, 38, 39, 40, 41, 42, 43, 44, 45, 46, 47] (.one 35 [35, 36, 38, 39, 45, 46, 47] (.one 36 [36, 38, 39, 45, 46, 47] (.one 37 [37, 38, 39, 45, 46, 47] (.one 38 [38, 39, 45, 46, 47] (.one 39 [39, 45, 46, 47] (.one 40 [40, 41, 43, 44, 45, 46, 47] (.one 41 [41, 43, 44, 45, 46, 47] (.one 42 [42, 43, 44, 45, 46, 47] (.one 43 [43, 44, 45, 46, 47] (.one 44 [44, 45, 46, 47] (.one 45 [45, 46, 47] (.one 46 [46, 47] (.one 47 [47] .done))))))))))))))))))))))))))))))))))))))))))))))))
namespace Go.Proofs.YtpidncgibgiidaaGreat
open Go Go.Ab Go.Ab.A34 Go.Ab.A15
variable [Gl] [Tabs]
open Classical in
theorem cand_r (d : Dp) (hd : OkS d) : PCall Tryz.prog 27 [DV d] (SB (decide (CanD d))) := by
  obtain ⟨X, hX⟩ : ∃ X, X = decide (CanD d) := ⟨_, rfl⟩
  rw [← hX]
  have hdl := hd.l
  have hdr := hd.r
  clear hd
  by_cases h0 : d.l.length = 0
  · obtain rfl : X = false := by rw [hX]; exact decide_eq_false fun h => by have := h.1; omega
    obtain ⟨df, dl, dt, dr⟩ := d
    simp only at h0
    have h0i : ((dl.length : Nat) : Int) = 0 := by omega
    refine Call.enter' (N := 72) (rs := [.tmp 2]) Tryz.func27 rfl rfl rfl (by decide) rfl ?_; simp only [argT]; have hD : (0 : Nat) = 0 := rfl
    repeat' first | (refine SW.seq_k fun K hK => ?_) | ((first | refine SW.region ?_ | refine SW.cond ?_ | refine SW.ret ?_ | (refine allF_i fun b hb => ?_; replace hD := And.intro hb hD; clear hb; try simp only [fresh_cons, fresh_nil, and_true, ne_eq, neF] at hD)); try simp only [go_sem, hD, h0i, true_implies]) | (apply hK; clear hK K)
    refine ret_pure ?_; simp only [resL_tmp, resL_nil, tupOf, go_sem, hD]
  have h0i : ¬ ((d.l.length : Nat) : Int) = 0 := by omega
  by_cases hl : d.l.length = d.r.length
  · have hlq : ((d.l.length : Nat) : Int) = ((d.r.length : Nat) : Int) := by omega
    have h1 : (∀ i, i < d.l.length → canI d i) → X = true := fun h => by rw [hX]; exact decide_eq_true ⟨by omega, hl, h⟩
    have h2 : ∀ i, i < d.l.length → ¬ canI d i → X = false := fun i hi h => by rw [hX]; exact decide_eq_false fun h' => h (h'.2.2 i hi)
    have hcan : ∀ i, canI d i ↔ (0 < i → d.l.getD (i - 1) 0 < d.l.getD i 0) ∧ ¬ d.r.getD i 0 ∈ d.r.take i ∧ ¬ (d.f = d.t ∧ d.l.getD i 0 = d.r.getD i 0) := fun i => Iff.rfl
    clear hX
    generalize canI d = C at *
    obtain ⟨df, dl, dt, dr⟩ := d
    simp only at *
    have hcr := fun i (hi : i < dr.length) => cont_r (dr.take i) (dr.getD i 0) (by rw [List.length_take]; omega) i (by rw [List.length_take]; omega) (fun i => iF dr i) (fun j hj => by rw [List.getD_eq_getElem?_getD, List.getElem?_take_of_lt hj, ← List.getD_eq_getElem?_getD]; rfl)
    refine Call.enter' (N := 72) (rs := [.tmp 2]) Tryz.func27 rfl rfl rfl (by decide) rfl ?_; simp only [argT]; have hD : (0 : Nat) = 0 := rfl
    repeat' first | (refine SW.seq_k fun K hK => ?_) | (refine SW.block ?_) | ((first | refine SW.region ?_ | refine SW.cond ?_ | refine SW.skip ?_ | (refine allF_i fun b hb => ?_; replace hD := And.intro hb hD; clear hb; try simp only [fresh_cons, fresh_nil, and_true, ne_eq, neF] at hD)); try simp only [go_sem, hD, h0i, hlq, true_implies]) | (refine ifI (fun hc => ?_) (fun hc => ?_) <;> first | (exfalso; omega) | skip) | (apply hK; clear hK K)
    obtain ⟨xb, rfl⟩ : ∃ x, x = b := ⟨_, rfl⟩
    obtain ⟨I, hI⟩ : ∃ I : Nat → St → Prop, ∀ k S, I k S ↔ (∃ (i : Nat) , k = dl.length - i ∧ i ≤ dl.length ∧ (∀ j, j < i → C j) ∧ S = ⟨[(1, .op xb 0), (3, I64 i)], [(xb, .svs (dC ⟨df, dl, dt, dr⟩))]⟩) := ⟨fun k S => _, fun _ _ => Iff.rfl⟩
    refine SW.loop' I (dl.length) ((hI _ _).2 ⟨0, rfl, Nat.zero_le _, (fun j hj => absurd hj (by omega)), rfl⟩) (by repeat' (first | exact rfl | exact trivial | constructor)) ?_
    intro k S hIn
    obtain ⟨i, rfl, hi, hL, rfl⟩ := (hI _ _).1 hIn
    clear hIn
    have ie : ((i : Nat) : Int).toNat = i := Int.toNat_natCast _
    have i0 : (0 : Int) ≤ ((i : Nat) : Int) := by omega
    by_cases hlt : i < dl.length
    · have hli : ((i : Nat) : Int) < (((dl.length) : Nat) : Int) := by omega
      have w1 : IntKind.i64.wrap ((i : Int) + 1) = ((i + 1 : Nat) : Int) := by rw [i64_wrap (by omega) (by omega)]; omega
      have h2i := h2 i hlt
      have hci := hcan i
      have hn1 : C i → ∀ j, j < i + 1 → C j := fun h j hj => by
        rcases Nat.lt_or_ge j i with h3 | h3
        · exact hL j h3
        · obtain rfl : j = i := by omega
          exact h
      have fi : iF dl i = [I64 (dl.getD i 0)] := rfl
      have gi : iF dr i = [I64 (dr.getD i 0)] := rfl
      have hlc : ((i : Nat) : Int) < ((dr.length : Nat) : Int) := by omega
      have hle : ((i : Nat) : Int) ≤ ((dr.length : Nat) : Int) := by omega
      have iz : (((i : Nat) : Int) - 0).toNat = i := by omega
      have cr := hcr i (by omega)
      have fp : iF dl (i - 1) = [I64 (dl.getD (i - 1) 0)] := rfl
      have ip0 : 0 < i → (0 : Int) < ((i : Nat) : Int) := by omega
      generalize dl.getD i 0 = x at *
      generalize dr.getD i 0 = y at *
      by_cases hi0 : i = 0
      · have z0 : ¬ (0 : Int) < ((i : Nat) : Int) := by omega
        by_cases hm : y ∈ dr.take i
        · obtain rfl : X = false := h2i fun h => (hci.1 h).2.1 hm
          rw [decide_eq_true hm] at cr
          repeat' first | (refine SW.seq_k fun K hK => ?_) | (refine SW.block ?_) | ((first | refine SW.region ?_ | refine SW.regionZ (id := 6) (Checked.mixed Tryz.checked) Go.Ab.zIF_1 (by kernel_rfl) ?_ | refine SW.cond ?_ | refine SW.skip ?_ | refine SW.ret ?_ | refine ⟨_, cr, ?_⟩); try simp only [Go.Ab.zIF_1, go_sem, hD, hli, hlc, hle, ie, i0, w1, fi, gi, fp, iz, z0, true_implies]) | (apply hK; clear hK K)
          all_goals
            refine ret_pure ?_; simp only [resL_tmp, resL_nil, tupOf, go_sem, hD]
        · rw [decide_eq_false hm] at cr
          by_cases hf : df = dt
          · have f1 : (df.toList == dt.toList) = true := barr_eq.2 hf
            by_cases he : x = y
            · obtain rfl : X = false := h2i fun h => (hci.1 h).2.2 ⟨hf, he⟩
              repeat' first | (refine SW.seq_k fun K hK => ?_) | (refine SW.block ?_) | ((first | refine SW.region ?_ | refine SW.regionZ (id := 6) (Checked.mixed Tryz.checked) Go.Ab.zIF_1 (by kernel_rfl) ?_ | refine SW.cond ?_ | refine SW.skip ?_ | refine SW.ret ?_ | refine ⟨_, cr, ?_⟩); try simp only [Go.Ab.zIF_1, go_sem, hD, hli, hlc, hle, ie, i0, w1, fi, gi, fp, iz, z0, f1, he, true_implies]) | (apply hK; clear hK K)
              all_goals
                refine ret_pure ?_; simp only [resL_tmp, resL_nil, tupOf, go_sem, hD]
            · have hn2 := hn1 (hci.2 ⟨(fun h => absurd h (by omega)), hm, fun h => he h.2⟩)
              repeat' first | (refine SW.seq_k fun K hK => ?_) | (refine SW.block ?_) | ((first | refine SW.region ?_ | refine SW.regionZ (id := 6) (Checked.mixed Tryz.checked) Go.Ab.zIF_1 (by kernel_rfl) ?_ | refine SW.cond ?_ | refine SW.skip ?_ | refine ⟨_, cr, ?_⟩); try simp only [Go.Ab.zIF_1, go_sem, hD, hli, hlc, hle, ie, i0, w1, fi, gi, fp, iz, z0, f1, he, true_implies]) | (apply hK; clear hK K)
              refine Rnd.le (St.le_only ?_) (Rnd.sub (dl.length - (i + 1)) (by omega) ((hI _ _).2 ⟨i + 1, rfl, by omega, hn2, rfl⟩) (by repeat' (first | exact rfl | exact trivial | constructor)))
              repeat (first | exact List.mem_cons_self | apply List.mem_cons_of_mem)
          · have f1 : (df.toList == dt.toList) = false := Bool.eq_false_iff.2 fun h => hf (barr_eq.1 h)
            have hn2 := hn1 (hci.2 ⟨(fun h => absurd h (by omega)), hm, fun h => hf h.1⟩)
            repeat' first | (refine SW.seq_k fun K hK => ?_) | (refine SW.block ?_) | ((first | refine SW.region ?_ | refine SW.regionZ (id := 6) (Checked.mixed Tryz.checked) Go.Ab.zIF_1 (by kernel_rfl) ?_ | refine SW.cond ?_ | refine SW.skip ?_ | refine ⟨_, cr, ?_⟩); try simp only [Go.Ab.zIF_1, go_sem, hD, hli, hlc, hle, ie, i0, w1, fi, gi, fp, iz, z0, f1, true_implies]) | (apply hK; clear hK K)
            refine Rnd.le (St.le_only ?_) (Rnd.sub (dl.length - (i + 1)) (by omega) ((hI _ _).2 ⟨i + 1, rfl, by omega, hn2, rfl⟩) (by repeat' (first | exact rfl | exact trivial | constructor)))
            repeat (first | exact List.mem_cons_self | apply List.mem_cons_of_mem)
      · have z0 : (0 : Int) < ((i : Nat) : Int) := by omega
        have z1 : (0 : Int) ≤ ((i : Nat) : Int) - 1 := by omega
        have z2 : ((i : Nat) : Int) - 1 < ((dl.length : Nat) : Int) := by omega
        have z3 : (((i : Nat) : Int) - 1).toNat = i - 1 := by omega
        have z4 : IntKind.i64.wrap (((i : Nat) : Int) - 1) = ((i : Nat) : Int) - 1 := by rw [i64_wrap (by omega) (by omega)]
        generalize dl.getD (i - 1) 0 = w at *
        by_cases hlw : w < x
        · have z5 : ¬ x ≤ w := by omega
          by_cases hm : y ∈ dr.take i
          · obtain rfl : X = false := h2i fun h => (hci.1 h).2.1 hm
            rw [decide_eq_true hm] at cr
            repeat' first | (refine SW.seq_k fun K hK => ?_) | (refine SW.block ?_) | ((first | refine SW.region ?_ | refine SW.regionZ (id := 6) (Checked.mixed Tryz.checked) Go.Ab.zIF_1 (by kernel_rfl) ?_ | refine SW.cond ?_ | refine SW.skip ?_ | refine SW.ret ?_ | refine ⟨_, cr, ?_⟩); try simp only [Go.Ab.zIF_1, go_sem, hD, hli, hlc, hle, ie, i0, w1, fi, gi, fp, iz, z0, z1, z2, z3, z4, z5, true_implies]) | (apply hK; clear hK K)
            all_goals
              refine ret_pure ?_; simp only [resL_tmp, resL_nil, tupOf, go_sem, hD]
          · rw [decide_eq_false hm] at cr
            by_cases hf : df = dt
            · have f1 : (df.toList == dt.toList) = true := barr_eq.2 hf
              by_cases he : x = y
              · obtain rfl : X = false := h2i fun h => (hci.1 h).2.2 ⟨hf, he⟩
                repeat' first | (refine SW.seq_k fun K hK => ?_) | (refine SW.block ?_) | ((first | refine SW.region ?_ | refine SW.regionZ (id := 6) (Checked.mixed Tryz.checked) Go.Ab.zIF_1 (by kernel_rfl) ?_ | refine SW.cond ?_ | refine SW.skip ?_ | refine SW.ret ?_ | refine ⟨_, cr, ?_⟩); try simp only [Go.Ab.zIF_1, go_sem, hD, hli, hlc, hle, ie, i0, w1, fi, gi, fp, iz, z0, z1, z2, z3, z4, z5, f1, he, true_implies]) | (refine ifI (fun hc => ?_) (fun hc => ?_) <;> first | (exfalso; omega) | skip) | (apply hK; clear hK K)
                all_goals
                  refine ret_pure ?_; simp only [resL_tmp, resL_nil, tupOf, go_sem, hD]
              · have hn2 := hn1 (hci.2 ⟨(fun _ => hlw), hm, fun h => he h.2⟩)
                repeat' first | (refine SW.seq_k fun K hK => ?_) | (refine SW.block ?_) | ((first | refine SW.region ?_ | refine SW.regionZ (id := 6) (Checked.mixed Tryz.checked) Go.Ab.zIF_1 (by kernel_rfl) ?_ | refine SW.cond ?_ | refine SW.skip ?_ | refine ⟨_, cr, ?_⟩); try simp only [Go.Ab.zIF_1, go_sem, hD, hli, hlc, hle, ie, i0, w1, fi, gi, fp, iz, z0, z1, z2, z3, z4, z5, f1, he, true_implies]) | (apply hK; clear hK K)
                refine Rnd.le (St.le_only ?_) (Rnd.sub (dl.length - (i + 1)) (by omega) ((hI _ _).2 ⟨i + 1, rfl, by omega, hn2, rfl⟩) (by repeat' (first | exact rfl | exact trivial | constructor)))
                repeat (first | exact List.mem_cons_self | apply List.mem_cons_of_mem)
            · have f1 : (df.toList == dt.toList) = false := Bool.eq_false_iff.2 fun h => hf (barr_eq.1 h)
              have hn2 := hn1 (hci.2 ⟨(fun _ => hlw), hm, fun h => hf h.1⟩)
              repeat' first | (refine SW.seq_k fun K hK => ?_) | (refine SW.block ?_) | ((first | refine SW.region ?_ | refine SW.regionZ (id := 6) (Checked.mixed Tryz.checked) Go.Ab.zIF_1 (by kernel_rfl) ?_ | refine SW.cond ?_ | refine SW.skip ?_ | refine ⟨_, cr, ?_⟩); try simp only [Go.Ab.zIF_1, go_sem, hD, hli, hlc, hle, ie, i0, w1, fi, gi, fp, iz, z0, z1, z2, z3, z4, z5, f1, true_implies]) | (apply hK; clear hK K)
              refine Rnd.le (St.le_only ?_) (Rnd.sub (dl.length - (i + 1)) (by omega) ((hI _ _).2 ⟨i + 1, rfl, by omega, hn2, rfl⟩) (by repeat' (first | exact rfl | exact trivial | constructor)))
              repeat (first | exact List.mem_cons_self | apply List.mem_cons_of_mem)
        · have z5 : x ≤ w := by omega
          obtain rfl : X = false := h2i fun h => hlw ((hci.1 h).1 (by omega))
          repeat' first | (refine SW.seq_k fun K hK => ?_) | (refine SW.block ?_) | ((first | refine SW.region ?_ | refine SW.regionZ (id := 6) (Checked.mixed Tryz.checked) Go.Ab.zIF_1 (by kernel_rfl) ?_ | refine SW.cond ?_ | refine SW.skip ?_ | refine SW.ret ?_); try simp only [Go.Ab.zIF_1, go_sem, hD, hli, hlc, hle, ie, i0, w1, fi, gi, fp, iz, z0, z1, z2, z3, z4, z5, true_implies]) | (apply hK; clear hK K)
          all_goals
            refine ret_pure ?_; simp only [resL_tmp, resL_nil, tupOf, go_sem, hD]
    · have hli : ¬ ((i : Nat) : Int) < (((dl.length) : Nat) : Int) := by omega
      have hx := h1 fun j hj => hL j (by omega)
      subst hx
      repeat' first | (refine SW.seq_k fun K hK => ?_) | ((first | refine SW.region ?_ | refine SW.cond ?_ | refine SW.exit ?_ | refine SW.ret ?_); try simp only [go_sem, hD, hli, true_implies]) | (apply hK; clear hK K) | (clear hK K; apply hK; clear hK K)
      refine ret_pure ?_; simp only [resL_tmp, resL_nil, tupOf, go_sem, hD]
  · obtain rfl : X = false := by rw [hX]; exact decide_eq_false fun h => hl h.2.1
    obtain ⟨df, dl, dt, dr⟩ := d
    simp only at *
    have hlq : ¬ ((dl.length : Nat) : Int) = ((dr.length : Nat) : Int) := by omega
    refine Call.enter' (N := 72) (rs := [.tmp 2]) Tryz.func27 rfl rfl rfl (by decide) rfl ?_; simp only [argT]; have hD : (0 : Nat) = 0 := rfl
    repeat' first | (refine SW.seq_k fun K hK => ?_) | ((first | refine SW.region ?_ | refine SW.cond ?_ | refine SW.ret ?_ | (refine allF_i fun b hb => ?_; replace hD := And.intro hb hD; clear hb; try simp only [fresh_cons, fresh_nil, and_true, ne_eq, neF] at hD)); try simp only [go_sem, hD, h0i, hlq, true_implies]) | (apply hK; clear hK K)
    refine ret_pure ?_; simp only [resL_tmp, resL_nil, tupOf, go_sem, hD]
end Go.Proofs.YtpidncgibgiidaaGreat
