/- Several texts in one: C9, P6, CA, HB, CB, CC, CD, J1, J2, DA, DB, DC, DD, DE, DF, DG, DO, HC, HD. -/
import Derived.Test.YtpidncgibgiidaaGreatQ2
import Derived.Test.YtpidncgibgiidaaGreatZ10
import Derived.Test.YtpidncgibgiidaaGreatQ1
import Derived.Test.YtpidncgibgiidaaGreatZ17
import Derived.Test.YtpidncgibgiidaaGreatZ18
set_option linter.unusedSimpArgs false
set_option linter.unusedVariables false
set_option linter.unusedSectionVars false
set_option maxHeartbeats 4000000
set_option maxRecDepth 20000
namespace Go.Ab.A15
open Go Go.Ab Go.Ab.A34
end Go.Ab.A15
namespace Go.Proofs.YtpidncgibgiidaaGreat
open Go Go.Ab Go.Ab.A34 Go.Ab.A15
variable [Gl] [Tabs]
end Go.Proofs.YtpidncgibgiidaaGreat
namespace Go.Ab.A15
open Go Go.Ab Go.Ab.A34
def nmsOf (db : List Tb) : List ByteArray := db.map (·.name)
def nsOf (db : List Tb) : List Nat := db.map fun t => t.attrs.length
theorem tabI_idx {x : ByteArray} : ∀ {l : List Tb} {i : Nat}, x ∈ nmsOf l → tabI x i l = ((i + idxN x (nmsOf l) : Nat) : Int)
  | y :: l, i, h => by
    unfold tabI nmsOf
    rw [List.map_cons, idxN]
    by_cases h1 : y.name = x
    · rw [if_pos h1, if_pos h1]; rfl
    · rw [if_neg h1, if_neg h1, tabI_idx (i := i + 1) ((List.mem_cons.1 h).resolve_left (fun e => h1 e.symm))]
      unfold nmsOf
      congr 1
      omega
theorem tabI_mem {x : ByteArray} : ∀ {l : List Tb} {i : Nat}, 0 ≤ tabI x i l → x ∈ nmsOf l
  | [], i, h => by simp [tabI] at h
  | y :: l, i, h => by
    unfold tabI at h
    unfold nmsOf
    rw [List.map_cons]
    by_cases h1 : y.name = x
    · rw [h1]; exact List.mem_cons_self
    · rw [if_neg h1] at h
      exact List.mem_cons_of_mem _ (tabI_mem h)
theorem chkF_ok {db : List Tb} : ∀ {g i : Nat}, chkF db g i = 0 → i + g = db.length → ∀ j, i ≤ j → j < db.length → validS (db.getD j t0) = 0 ∧ tabI (db.getD j t0).name 0 (db.take j) < 0
  | 0, i, _, h, j, h1, h2 => by omega
  | g + 1, i, hc, h, j, h1, h2 => by
    unfold chkF at hc
    by_cases hv : validS (db.getD i t0) = 0
    · rw [if_neg (fun x => x hv)] at hc
      by_cases hq : 0 ≤ tabI (db.getD i t0).name 0 (db.take i)
      · rw [if_pos hq] at hc; cases hc
      · rw [if_neg hq] at hc
        rcases Nat.lt_or_ge i j with h3 | h3
        · exact chkF_ok hc (by omega) j h3 h2
        · obtain rfl : j = i := by omega
          exact ⟨hv, by omega⟩
    · rw [if_pos hv] at hc; exact absurd hc hv
structure Vdb (db : List Tb) : Prop where
  v : ∀ t ∈ db, validS t = 0
  n : (nmsOf db).Nodup
theorem chkS_ok {db : List Tb} (h : chkS db = 0) : Vdb db := by
  unfold chkS at h
  by_cases h50 : 50 < db.length
  · rw [if_pos h50] at h; cases h
  · rw [if_neg h50] at h
    have key := chkF_ok h (by omega)
    refine ⟨fun t ht => ?_, ?_⟩
    · obtain ⟨j, hj, rfl⟩ := List.getElem_of_mem ht
      have := (key j (Nat.zero_le _) hj).1
      rwa [show db.getD j t0 = db[j] by simp [List.getD_eq_getElem?_getD, hj]] at this
    · refine List.pairwise_iff_getElem.2 fun i j hi hj hij e => ?_
      unfold nmsOf at hi hj
      rw [List.length_map] at hi hj
      unfold nmsOf at e
      rw [List.getElem_map, List.getElem_map] at e
      have := (key j (Nat.zero_le _) hj).2
      rw [show db.getD j t0 = db[j] by simp [List.getD_eq_getElem?_getD, hj]] at this
      have hm : db[j].name ∈ nmsOf (db.take j) := by
        unfold nmsOf
        rw [← e]
        refine List.mem_map.2 ⟨db[i], ?_, rfl⟩
        have hl : i < (db.take j).length := by rw [List.length_take]; omega
        have : (db.take j)[i] = db[i] := List.getElem_take
        rw [← this]
        exact List.getElem_mem hl
      rw [tabI_idx hm] at this
      omega
theorem fits_ok {db : List Tb} {d : Dp} (h : fitsS db d = 0) : Fit (nmsOf db) (nsOf db) d := by
  unfold fitsS at h
  by_cases h1 : tabI d.f 0 db < 0 ∨ tabI d.t 0 db < 0
  · rw [if_pos h1] at h; cases h
  · rw [if_neg h1] at h
    have mf : d.f ∈ nmsOf db := tabI_mem (i := 0) (by omega)
    have mt : d.t ∈ nmsOf db := tabI_mem (i := 0) (by omega)
    have ef := tabI_idx (i := 0) mf
    have et := tabI_idx (i := 0) mt
    rw [ef, et] at h
    simp only [Nat.zero_add, Int.toNat_natCast] at h
    have gn : ∀ i, (nsOf db).getD i 0 = (db.getD i t0).attrs.length := fun i => by
      unfold nsOf
      simp only [List.getD_eq_getElem?_getD, List.getElem?_map]
      cases db[i]? <;> rfl
    split at h
    · cases h
    · rename_i h2
      split at h
      · rename_i h3
        have w1 : winB d.l (db.getD (idxN d.f (nmsOf db)) t0).attrs.length = true := by
          cases hw : winB d.l (db.getD (idxN d.f (nmsOf db)) t0).attrs.length with
          | true => rfl
          | false => exact absurd (.inr (.inl hw)) h2
        have w2 : winB d.r (db.getD (idxN d.t (nmsOf db)) t0).attrs.length = true := by
          cases hw : winB d.r (db.getD (idxN d.t (nmsOf db)) t0).attrs.length with
          | true => rfl
          | false => exact absurd (.inr (.inr hw)) h2
        refine ⟨mf, mt, Classical.byContradiction fun x => h2 (.inl x), ?_, ?_, h3.1, h3.2⟩
        · rw [gn]; exact winB_iff.1 w1
        · rw [gn]; exact winB_iff.1 w2
      · cases h
structure Vall (db : List Tb) (l : List Dp) (g : Dp) : Prop where
  vd : Vdb db
  l : ∀ d ∈ l, Fit (nmsOf db) (nsOf db) d
  g : Fit (nmsOf db) (nsOf db) g
theorem Vdb.name {db : List Tb} (h : Vdb db) : ∀ x ∈ nmsOf db, nameB x.data.toList = true := fun x hx => by
  obtain ⟨t, ht, rfl⟩ := List.mem_map.1 hx
  have := h.v t ht
  unfold validS at this
  split at this
  · assumption
  · cases this
theorem Vdb.ns {db : List Tb} (h : Vdb db) (i : Nat) : (nsOf db).getD i 0 ≤ 16 := by
  unfold nsOf
  simp only [List.getD_eq_getElem?_getD, List.getElem?_map]
  cases hi : db[i]? with
  | none => exact Nat.zero_le _
  | some t => exact (valid_rows (h.v t (List.mem_of_getElem? hi))).2.1
theorem Fit.in16l {db : List Tb} {d : Dp} (h : Vdb db) (hf : Fit (nmsOf db) (nsOf db) d) : In16 d.l := fun x hx => by
  have := hf.l x hx
  have h2 := h.ns (idxN d.f (nmsOf db))
  omega
theorem Fit.in16r {db : List Tb} {d : Dp} (h : Vdb db) (hf : Fit (nmsOf db) (nsOf db) d) : In16 d.r := fun x hx => by
  have := hf.r x hx
  have h2 := h.ns (idxN d.t (nmsOf db))
  omega
theorem in16_len {a : List Int} (hn : a.Nodup) (h : In16 a) : a.length ≤ 16 := by
  have key := nodup_bound 16 (a.map Int.toNat) ?_ ?_
  · rwa [List.length_map] at key
  · have hp := List.pairwise_iff_getElem.1 hn
    refine List.pairwise_iff_getElem.2 fun i j hi hj hij e => ?_
    rw [List.length_map] at hi hj
    rw [List.getElem_map, List.getElem_map] at e
    have h1 := h _ (List.getElem_mem hi)
    have h2 := h _ (List.getElem_mem hj)
    exact hp i j hi hj hij (by omega)
  · intro x hx
    obtain ⟨y, hy, rfl⟩ := List.mem_map.1 hx
    have := h y hy
    omega
theorem Vall.small {db : List Tb} {l : List Dp} {g : Dp} (h : Vall db l g) (h4 : db.length ≤ 4) (h3 : g.l.length ≤ 3) : Small l g (nmsOf db) where
  n4 := by unfold nmsOf; rw [List.length_map]; exact h4
  g3 := h3
  gl := h.g.in16l h.vd
  gf := h.g.f
  lr d hd := (h.l d hd).lr
  r16 d hd := (h.l d hd).in16r h.vd
  lt d hd := (h.l d hd).t
end Go.Ab.A15
namespace Go.Ab.A15
open Go Go.Ab Go.Ab.A34
structure Few (db : List Tb) (l : List Dp) (g : Dp) : Prop where
  d4 : db.length ≤ 4
  ll : l.length ≤ 1000000
  okl : ∀ d ∈ l, OkD d
  okg : OkD g
  g3 : g.l.length ≤ 3
  r3 : g.r.length ≤ 3
end Go.Ab.A15
namespace Go.Proofs.YtpidncgibgiidaaGreat
open Go Go.Ab Go.Ab.A34 Go.Ab.A15
variable [Gl] [Tabs]
end Go.Proofs.YtpidncgibgiidaaGreat
namespace Go.Ab
theorem cmpV_zero {k n : Int} {s : ByteArray} {k' n' : Int} {s' : ByteArray} : cmpV k n s k' n' s' = 0 ↔ k = k' ∧ n = n' ∧ s = s' := by
  unfold cmpV
  constructor
  · intro h
    split at h
    · rename_i h1
      split at h
      · rename_i h2
        refine ⟨sgn_zero.1 h1, sgn_zero.1 h2, ?_⟩
        rcases cb_cases s.data.toList s'.data.toList with h3 | ⟨_, h3⟩ | h3
        · omega
        · cases s; cases s'; simp only at h3; rw [Array.toList_inj.1 h3]
        · omega
      · rename_i h2; exact absurd h h2
    · rename_i h1; exact absurd h h1
  · rintro ⟨rfl, rfl, rfl⟩
    rw [if_pos (sgn_zero.2 rfl), if_pos (sgn_zero.2 rfl)]
    rcases cb_cases s.data.toList s.data.toList with h3 | ⟨h3, _⟩ | h3
    · have h4 : ∀ l : List UInt8, Lib.compareBytes l l = 0 := fun l => by
        induction l with
        | nil => rfl
        | cons c l ih => unfold Lib.compareBytes; simp [ih]
      exact h4 _
    · exact h3
    · have h4 : ∀ l : List UInt8, Lib.compareBytes l l = 0 := fun l => by
        induction l with
        | nil => rfl
        | cons c l ih => unfold Lib.compareBytes; simp [ih]
      exact h4 _
end Go.Ab
namespace Go.Ab.A15
open Go Go.Ab Go.Ab.A34
def agB (a b : List Int) (x y : List V3) : Bool := (List.range a.length).all fun i => decide (x.getD (a.getD i 0).toNat v0 = y.getD (b.getD i 0).toNat v0)
theorem agB_iff {a b : List Int} {x y : List V3} : agB a b x y = true ↔ Agr v0 a b x y := by
  unfold agB Agr
  simp [List.all_eq_true]
def violP (F T : List R3) (a b : List Int) (i : Nat) : List Int := ((F.take i).filter fun x => !(T.any fun y => agB a b x.2 y.2)).map (·.1)
def violS (F T : List R3) (a b : List Int) : List Int := violP F T a b F.length
theorem violP_succ {F T : List R3} {a b : List Int} {i : Nat} (h : i < F.length) : violP F T a b (i + 1) = if (T.any fun y => agB a b (F.getD i r0).2 y.2) = true then violP F T a b i else violP F T a b i ++ [(F.getD i r0).1] := by
  have g : F.getD i r0 = F[i] := by simp [List.getD_eq_getElem?_getD, h]
  unfold violP
  rw [List.take_succ_eq_append_getElem h, List.filter_append, List.map_append, g]
  by_cases hc : (T.any fun y => agB a b F[i].2 y.2) = true
  · rw [if_pos hc]; simp [hc]
  · rw [if_neg hc]; simp [hc]
theorem violP_len (F T : List R3) (a b : List Int) (i : Nat) : (violP F T a b i).length ≤ i := by
  unfold violP
  rw [List.length_map]
  refine Nat.le_trans (List.length_filter_le _ _) ?_
  rw [List.length_take]
  omega
theorem any_succ {T : List R3} {p : R3 → Bool} {k : Nat} (h : k < T.length) : (T.take (k + 1)).any p = ((T.take k).any p || p (T.getD k r0)) := by
  have g : T.getD k r0 = T[k] := by simp [List.getD_eq_getElem?_getD, h]
  rw [List.take_succ_eq_append_getElem h, List.any_append, g]
  simp
end Go.Ab.A15
def Go.Ab.zHB_1 : Go.Ab.OZ := (.one 0 [0, 1, 7, 8, 18, 19] (.one 1 [1, 7, 8, 18, 19] (.one 2 [2, 3, 5, 6, 7, 8, 18, 19] (.one 3 [3, 5, 6, 7, 8, 18, 19] (.one 4 [4, 5, 6, 7, 8, 18, 19] (.one 5 [5, 6, 7, 8, 18, 19] (.one 6 [6, 7, 8, 18, 19] (.one 7 [7, 8, 18, 19] (.one 8 [8, 18, 19] (.one 9 [9, 10, 16, 17, 18, 19] (.one 10 [10, 16, 17, 18, 19] (.one 11 [11, 12, 14, 15, 16, 17, 18, 19] (.one 12 [12, 14, 15, 16, 17, 18, 19] (.one 13 [13, 14, 15, 16, 17, 18, 19] (.one 14 [14, 15, 16, 17, 18, 19] (.one 15 [15, 16, 17, 18, 19] (.one 16 [16, 17, 18, 19] (.one 17 [17, 18, 19] (.one 18 [18, 19] (.one 19 [19] .done))))))))))))))))))))
namespace Go.Proofs.YtpidncgibgiidaaGreat
open Go Go.Ab Go.Ab.A34 Go.Ab.A15
variable [Gl] [Tabs]
theorem partner_r (d : Dp) (x y : R3) (hlr : d.l.length = d.r.length) (hll : d.l.length ≤ 1000) (hl : ∀ a ∈ d.l, 0 ≤ a ∧ a < x.2.length) (hr : ∀ a ∈ d.r, 0 ≤ a ∧ a < y.2.length) (ox : ∀ v ∈ x.2, okV v = true) (oy : ∀ v ∈ y.2, okV v = true) :
    PCall Tryz.prog 103 [DV d, .agg [I64 x.1, VL x.2], .agg [I64 y.1, VL y.2]] (SB (agB d.l d.r x.2 y.2)) := by
  obtain ⟨R, hR⟩ : ∃ R, R = agB d.l d.r x.2 y.2 := ⟨_, rfl⟩
  rw [← hR]
  have hbad : ∀ i, i < d.l.length → ¬ x.2.getD (d.l.getD i 0).toNat v0 = y.2.getD (d.r.getD i 0).toNat v0 → R = false := fun i hi hn => by
    rw [hR, Bool.eq_false_iff]
    intro h
    exact hn (agB_iff.1 h i hi)
  have hgood : (∀ i, i < d.l.length → x.2.getD (d.l.getD i 0).toNat v0 = y.2.getD (d.r.getD i 0).toNat v0) → R = true := fun h => by rw [hR]; exact agB_iff.2 h
  clear hR
  obtain ⟨xi, xs⟩ := x
  obtain ⟨yi, ys⟩ := y
  obtain ⟨df, dl, dt, dr⟩ := d
  simp only at *
  refine Call.enter' (N := 35) (rs := [.tmp 6]) Tryz.func103 rfl rfl rfl (by decide) rfl ?_; simp only [argT]; have hD : (0 : Nat) = 0 := rfl
  repeat' first | (refine SW.seq_k fun K hK => ?_) | (refine SW.block ?_) | ((first | refine SW.region ?_ | (refine allF_i fun b hb => ?_; replace hD := And.intro hb hD; clear hb; try simp only [fresh_cons, fresh_nil, and_true, ne_eq, neF] at hD)); try simp only [go_sem, hD, true_implies]) | (apply hK; clear hK K)
  obtain ⟨b5, rfl⟩ : ∃ x, x = b := ⟨_, rfl⟩
  obtain ⟨b4, rfl⟩ : ∃ x, x = b := ⟨_, rfl⟩
  obtain ⟨b3, rfl⟩ : ∃ x, x = b := ⟨_, rfl⟩
  refine Ab.SW.le (S' := ⟨[(3, .fp [Str df, IL dl, Str dt, IL dr]), (4, .fp [I64 xi, VL xs]), (5, .fp [I64 yi, VL ys]), (6, SB false), (7, I64 (0 : Nat))], []⟩) ?_ ?_
  · refine St.le.trans (St.le_freezeP (i := 3) (b := b3) (off := 0) (n := 4) (k := .svs [Str df, IL dl, Str dt, IL dr]) rfl (by simp [find_cons, hD]) (by exact Nat.le_refl 4)) ?_
    simp only [getN, Blk.get, go_sem, hD]
    refine St.le.trans (St.le_freezeP (i := 4) (b := b4) (off := 0) (n := 2) (k := .svs [I64 xi, VL xs]) rfl (by simp [find_cons, hD]) (by exact Nat.le_refl 2)) ?_
    simp only [getN, Blk.get, go_sem, hD]
    refine St.le.trans (St.le_freezeP (i := 5) (b := b5) (off := 0) (n := 2) (k := .svs [I64 yi, VL ys]) rfl (by simp [find_cons, hD]) (by exact Nat.le_refl 2)) ?_
    simp only [getN, Blk.get, go_sem, hD]
    exact St.le_sub (by repeat' (first | exact rfl | exact trivial | constructor))
  clear hD
  have hD : (0 : Nat) = 0 := rfl
  obtain ⟨I, hI⟩ : ∃ I : Nat → St → Prop, ∀ k S, I k S ↔ (∃ (i : Nat) , k = dl.length - i ∧ i ≤ dl.length ∧ (∀ j, j < i → xs.getD (dl.getD j 0).toNat v0 = ys.getD (dr.getD j 0).toNat v0) ∧ S = ⟨[(3, .fp [Str df, IL dl, Str dt, IL dr]), (4, .fp [I64 xi, VL xs]), (5, .fp [I64 yi, VL ys]), (6, SB false), (7, I64 i)], []⟩) := ⟨fun k S => _, fun _ _ => Iff.rfl⟩
  refine SW.loop' I (dl.length) ((hI _ _).2 ⟨0, rfl, Nat.zero_le _, (fun j hj => absurd hj (Nat.not_lt_zero _)), rfl⟩) (by repeat' (first | exact rfl | exact trivial | constructor)) ?_
  intro k S hIn
  obtain ⟨i, rfl, hi, hG, rfl⟩ := (hI _ _).1 hIn
  clear hIn
  have ie : ((i : Nat) : Int).toNat = i := Int.toNat_natCast _
  have i0 : (0 : Int) ≤ ((i : Nat) : Int) := by omega
  by_cases hlt : i < dl.length
  · have hli : ((i : Nat) : Int) < (((dl.length) : Nat) : Int) := by omega
    have w1 : IntKind.i64.wrap ((i : Int) + 1) = ((i + 1 : Nat) : Int) := by rw [i64_wrap (by omega) (by omega)]; omega
    have hlr2 : ((i : Nat) : Int) < ((dr.length : Nat) : Int) := by omega
    have fl : iF dl i = [I64 (dl.getD i 0)] := rfl
    have fr : iF dr i = [I64 (dr.getD i 0)] := rfl
    have hx := hl _ (getD_mem' 0 hlt)
    have hy := hr _ (getD_mem' 0 (show i < dr.length by omega))
    have hb := hbad i hlt
    have hG2 : xs.getD (dl.getD i 0).toNat v0 = ys.getD (dr.getD i 0).toNat v0 → ∀ j, j < i + 1 → xs.getD (dl.getD j 0).toNat v0 = ys.getD (dr.getD j 0).toNat v0 := fun h1 j hj => by
      rcases Nat.lt_or_eq_of_le (Nat.lt_succ_iff.1 hj) with h | h
      · exact hG j h
      · rw [h]; exact h1
    clear hbad hgood
    generalize dl.getD i 0 = p at *
    generalize dr.getD i 0 = q at *
    obtain ⟨p0, p1⟩ := hx
    obtain ⟨q0, q1⟩ := hy
    have mx : xs.getD p.toNat v0 ∈ xs := getD_mem v0 (by omega)
    have my : ys.getD q.toNat v0 ∈ ys := getD_mem v0 (by omega)
    have sx := okV_size (ox _ mx)
    have sy := okV_size (oy _ my)
    have fx : vF xs p.toNat = vC (xs.getD p.toNat v0) := rfl
    have fy : vF ys q.toNat = vC (ys.getD q.toNat v0) := rfl
    generalize xs.getD p.toNat v0 = v at *
    generalize ys.getD q.toNat v0 = w at *
    obtain ⟨v1, v2, v3⟩ := v
    obtain ⟨w1', w2, w3⟩ := w
    simp only at sx sy
    have cr := compare_r v1 v2 v3 w1' w2 w3 (by omega) (by omega)
    have cz := @cmpV_zero v1 v2 v3 w1' w2 w3
    generalize cmpV v1 v2 v3 w1' w2 w3 = c at *
    by_cases hc : c = 0
    · subst hc
      obtain ⟨rfl, rfl, rfl⟩ := cz.1 rfl
      repeat' first | (refine SW.seq_k fun K hK => ?_) | (refine SW.block ?_) | ((first | refine SW.region ?_ | refine SW.regionZ (id := 4) (Checked.mixed Tryz.checked) Go.Ab.zHB_1 (by kernel_rfl) ?_ | refine SW.cond ?_ | refine SW.skip ?_ | refine ⟨_, cr, ?_⟩); try simp only [Go.Ab.zHB_1, go_sem, hD, hli, hlr2, ie, i0, w1, fl, fr, p0, p1, q0, q1, fx, fy, true_implies]) | (apply hK; clear hK K)
      all_goals
        refine Rnd.sub (dl.length - (i + 1)) (by omega) ((hI _ _).2 ⟨i + 1, rfl, by omega, hG2 rfl, rfl⟩) (by repeat' (first | exact rfl | exact trivial | constructor))
    · have hR2 := hb fun e => hc (cz.2 (by simpa using e))
      subst hR2
      repeat' first | (refine SW.seq_k fun K hK => ?_) | (refine SW.block ?_) | ((first | refine SW.region ?_ | refine SW.regionZ (id := 4) (Checked.mixed Tryz.checked) Go.Ab.zHB_1 (by kernel_rfl) ?_ | refine SW.cond ?_ | refine SW.skip ?_ | refine SW.ret ?_ | refine ⟨_, cr, ?_⟩); try simp only [Go.Ab.zHB_1, go_sem, hD, hli, hlr2, ie, i0, w1, fl, fr, p0, p1, q0, q1, fx, fy, hc, true_implies]) | (apply hK; clear hK K)
      all_goals
        refine ret_pure ?_; simp only [resL_tmp, resL_nil, tupOf, go_sem, hD]
  · have hli : ¬ ((i : Nat) : Int) < (((dl.length) : Nat) : Int) := by omega
    have hR2 := hgood fun j hj => hG j (by omega)
    subst hR2
    repeat' first | (refine SW.seq_k fun K hK => ?_) | ((first | refine SW.region ?_ | refine SW.cond ?_ | refine SW.exit ?_ | refine SW.ret ?_); try simp only [go_sem, hD, hli, true_implies]) | (apply hK; clear hK K) | (clear hK K; apply hK; clear hK K)
    refine ret_pure ?_; simp only [resL_tmp, resL_nil, tupOf, go_sem, hD]
end Go.Proofs.YtpidncgibgiidaaGreat
namespace Go.Ab.A15
open Go Go.Ab Go.Ab.A34
theorem map_get {a : List Int} {j : Nat} (h : j < a.length) : (a.map fun x => I64 x).getD j .any = I64 (a.getD j 0) := by simp [List.getD_eq_getElem?_getD, h]
theorem fl_map (l : List Int) : flCells (iF l) l.length = l.map fun x => I64 x := by
  have e : l = (List.range l.length).map fun i => l.getD i 0 := by
    refine List.ext_getElem (by simp) fun i h1 h2 => ?_
    simp [List.getD_eq_getElem?_getD, h1]
  unfold flCells
  conv => rhs; rw [e]
  rw [List.map_map]
  unfold iF
  induction (List.range l.length) with
  | nil => rfl
  | cons x r ih => rw [List.flatMap_cons, List.map_cons, ih]; rfl
end Go.Ab.A15
namespace Go.Proofs.YtpidncgibgiidaaGreat
open Go Go.Ab Go.Ab.A34 Go.Ab.A15
variable [Gl] [Tabs]
theorem clone_i (l : List Int) (hl : l.length ≤ 1000000) : Ab.Call Tryz.prog 130 [IL l] [] (fun r h' => (l = [] ∧ r = SN ∧ h' = []) ∨ ∃ b, r = .os b 0 l.length 1 ∧ h' = [(b, .svs (l.map fun x => I64 x))]) := by
  have hfm := fl_map l
  refine Call.enter' (N := 8) (rs := [.tmp 2]) Tryz.func130 rfl rfl rfl (by decide) rfl ?_; simp only [argT]; have hD : (0 : Nat) = 0 := rfl
  refine SW.seq_k fun K0 hK0 => ?_
  refine SW.region ?_
  simp only [go_sem, hD]
  refine hK0 _ ?_
  clear hK0 K0
  refine SW.seq_k fun K hK => ?_
  refine SW.seq_k fun K2 hK2 => ?_
  refine SW.region_nil (i := 0) (j := 3) (k := 4) rfl rfl rfl rfl rfl rfl Tryz.underlying38 rfl (by decide) (by decide) (fun hn => ?_) ?_
  · refine hK2 _ ?_
    clear hK2 K2
    have hl0 : l = [] := List.eq_nil_of_length_eq_zero hn
    subst hl0
    repeat' first | (refine SW.seq_k fun K hK => ?_) | ((first | refine SW.region ?_ | refine SW.cond ?_ | refine SW.ret ?_); try simp only [go_sem, hD]) | (apply hK; clear hK K)
    refine retQ_le (fun M w0 D N a w r => r) ?_
    simp only [resL_tmp, resL_nil, tupOf, go_sem, hD]
    try exact .inl ⟨rfl, rfl, rfl⟩
  · refine hK2 _ ?_
    clear hK2 K2
    repeat' first | (refine SW.seq_k fun K hK => ?_) | ((first | refine SW.region ?_ | refine SW.cond ?_ | refine SW.skip ?_ | (refine allF_i fun b hb => ?_; replace hD := And.intro hb hD; clear hb; try simp only [fresh_cons, fresh_nil, and_true, ne_eq, neF] at hD) | simp only [appK, appOsK]); try simp only [go_sem, hD]) | (apply hK; clear hK K)
    rw [hfm]
    refine ⟨?_, by omega, by omega, allF_i fun b' hb' => ?_⟩
    · rw [List.all_eq_true]
      intro x hx
      obtain ⟨r, _, rfl⟩ := List.mem_map.1 hx
      rfl
    · apply hK
      clear hK K
      repeat' (refine SW.ret ?_; try simp only [go_sem, hD])
      refine retQ_le (fun M w0 D N a w r => r) ?_
      simp only [resL_tmp, resL_nil, tupOf, go_sem, hD]
      exact .inr ⟨_, rfl, rfl⟩
end Go.Proofs.YtpidncgibgiidaaGreat
namespace Go.Proofs.YtpidncgibgiidaaGreat
open Go Go.Ab Go.Ab.A34 Go.Ab.A15
variable [Gl] [Tabs]
end Go.Proofs.YtpidncgibgiidaaGreat
namespace Go.Proofs.YtpidncgibgiidaaGreat
open Go Go.Ab Go.Ab.A34 Go.Ab.A15
variable [Gl] [Tabs]
end Go.Proofs.YtpidncgibgiidaaGreat
namespace Go.Ab.A34
open Go Go.Ab Go.Proofs
abbrev U8 (n : Int) : SV := .sc (.int .u8 n)
def codeV (c : Int) : V3 :=
  if c % 12 = 0 then (1, 0, ⟨#[]⟩) else if c % 12 = 1 then (1, 1, ⟨#[]⟩) else if c % 12 = 2 then (1, 2, ⟨#[]⟩) else if c % 12 = 3 then (0, 0, ⟨#[]⟩)
  else if c % 12 = 4 then (2, 0, ⟨#[97]⟩) else if c % 12 = 5 then (2, 0, ⟨#[98]⟩) else if c % 12 = 6 then (2, 0, ⟨#[]⟩) else if c % 12 = 7 then (3, 1, ⟨#[]⟩)
  else if c % 12 = 8 then (1, -1, ⟨#[]⟩) else if c % 12 = 9 then (2, 0, ⟨#[97, 98]⟩) else if c % 12 = 10 then (3, 2, ⟨#[]⟩) else (1, 7, ⟨#[]⟩)
def nm8 : List ByteArray := [⟨#[97]⟩, ⟨#[98]⟩, ⟨#[99]⟩, ⟨#[100]⟩, ⟨#[101]⟩, ⟨#[102]⟩, ⟨#[103]⟩, ⟨#[104]⟩]
abbrev UL (l : List Int) : SV := .fl l.length 1 (fun j => [U8 (l.getD j 0)])
abbrev UU (l : List (List Int)) : SV := .fl l.length 1 (fun i => [UL (l.getD i [])])
structure Rc where
  attrs : Int
  gap : Int
  rows : List (List Int)
abbrev RCC (x : Rc) : List SV := [U8 x.attrs, U8 x.gap, UU x.rows]
abbrev RC (x : Rc) : SV := .agg (RCC x)
def okRc (x : Rc) : Prop := (0 ≤ x.attrs ∧ x.attrs < 256) ∧ (0 ≤ x.gap ∧ x.gap < 256) ∧ ∀ r ∈ x.rows, ∀ c ∈ r, 0 ≤ c ∧ c < 256
def rowS (gap : Int) (n i : Nat) (r : List Int) : R3 := (1 + (i : Int) * (1 + gap % 3), (List.range n).map fun k => codeV (r.getD k 0))
def wideS (x : Rc) (n : Nat) : Tb := ⟨⟨#[114]⟩, nm8.take n, (List.range x.rows.length).map fun i => rowS x.gap n i (x.rows.getD i [])⟩
end Go.Ab.A34
namespace Go.Proofs.YtpidncgibgiidaaGreat
open Go Go.Ab Go.Ab.A34
variable [Gl] [Tabs]
theorem code_r (c : Int) (h1 : 0 ≤ c) (h2 : c < 256) : PCall Tryz.prog 126 [U8 c] (VV (codeV c)) := by
  have hm : c.tmod 12 = c % 12 := Int.tmod_eq_emod_of_nonneg h1
  have hk : c % 12 = 0 ∨ c % 12 = 1 ∨ c % 12 = 2 ∨ c % 12 = 3 ∨ c % 12 = 4 ∨ c % 12 = 5 ∨ c % 12 = 6 ∨ c % 12 = 7 ∨ c % 12 = 8 ∨ c % 12 = 9 ∨ c % 12 = 10 ∨ c % 12 = 11 := by omega
  obtain ⟨X, hX⟩ : ∃ X, X = codeV c := ⟨_, rfl⟩
  rw [← hX]
  unfold codeV at hX
  rcases hk with h | h | h | h | h | h | h | h | h | h | h | h
  all_goals
    rw [h] at hm hX
    simp only [Int.reduceEq, if_true, if_false] at hX
    subst hX
    refine Call.enter' (N := 39) (rs := [.cell 2 114]) Tryz.func126 rfl rfl rfl (by decide) rfl ?_; simp only [argT]; have hD : (0 : Nat) = 0 := rfl
    repeat' first | (refine SW.seq_k fun K hK => ?_) | (refine SW.block ?_) | ((first | refine SW.region ?_ | refine SW.cond ?_ | refine SW.skip ?_ | refine SW.ret ?_ | (refine allF_i fun b hb => ?_; replace hD := And.intro hb hD; clear hb; try simp only [fresh_cons, fresh_nil, and_true, ne_eq, neF] at hD)); try simp only [go_sem, hD, hm]) | (apply hK; clear hK K)
    apply ret_cell (i := 2) (n := 3); exact rfl; (simp only [go_sem, hD]; try rfl); (first | exact Nat.le_refl _ | decide); simp only [resL_tmp, resL_cellE, resC_ok, resL_nil, tupOf, getN, go_sem, hD]
end Go.Proofs.YtpidncgibgiidaaGreat
def Go.Ab.zJ2_1 : Go.Ab.OZ := (.one 0 [0, 1, 5, 6, 7] (.one 1 [1, 5, 6, 7] (.one 2 [2, 3, 4, 5, 6, 7] (.one 3 [3, 4, 5, 6, 7] (.alt 4 (.alt 5 (.one 6 [6, 7] (.alt 7 .done .nil)) .nil) .nil)))))
namespace Go.Proofs.YtpidncgibgiidaaGreat
open Go Go.Ab Go.Ab.A34
variable [Gl] [Tabs]
theorem wide_r (x : Rc) (hx : okRc x) (n : Nat) (hn : n ≤ 5) (hr : x.rows.length ≤ 1000) : PCall Tryz.prog 87 [RC x, I64 n] (TB (wideS x n)) := by
  obtain ⟨at', gap, rows⟩ := x
  obtain ⟨hx1, hx2, hx3⟩ := hx
  unfold wideS
  simp only at hx1 hx2 hx3 hr ⊢
  refine Call.enter' (N := 67) (rs := [.cell 4 72]) Tryz.func87 rfl rfl rfl (by decide) rfl ?_; simp only [argT]; have hD : (0 : Nat) = 0 := rfl
  refine SW.seq_k fun K hK => ?_
  (refine SW.region ?_; try simp only [go_sem, hD])
  ((refine allF_i fun b hb => ?_; replace hD := And.intro hb hD; clear hb; try simp only [fresh_cons, fresh_nil, and_true, ne_eq, neF] at hD); try simp only [go_sem, hD])
  ((refine allF_i fun b hb => ?_; replace hD := And.intro hb hD; clear hb; try simp only [fresh_cons, fresh_nil, and_true, ne_eq, neF] at hD); try simp only [go_sem, hD])
  (apply hK; clear hK K)
  obtain ⟨rb, rfl⟩ : ∃ x, x = b := ⟨_, rfl⟩
  obtain ⟨xb, rfl⟩ : ∃ x, x = b := ⟨_, rfl⟩
  have hrx : ¬ rb = xb := by simp [hD]
  have hxr : ¬ xb = rb := by simp [hD]
  clear hD
  have hD := And.intro (eq_false hrx) (eq_false hxr)
  refine SW.seq_k fun K hK => ?_
  have key : ∃ C Q', (∀ S, Ab.SW Tryz.prog 67 C Q' S → K S) ∧ ∀ tb, ¬ tb = rb → ¬ tb = xb → ¬ rb = tb → ¬ xb = tb → Ab.SW Tryz.prog 67 C Q' ⟨[(1, I64 n), (2, .op xb 0), (4, .op rb 0), (5, .op tb 0)], [(xb, .svs (RCC ⟨at', gap, rows⟩)), (tb, .svs [Str ⟨#[114]⟩, .fl n 1 (sF (nm8.take n)), .sc (.slice none 0 0)]), (rb, .svs [Str ⟨#[]⟩, .sc (.slice none 0 0), .sc (.slice none 0 0)])]⟩ := by
    refine ⟨_, _, hK, fun tb d1 d2 d3 d4 => ?_⟩
    clear hK K
    clear hD
    have hD := And.intro (eq_false d1) (And.intro (eq_false d2) (And.intro (eq_false d3) (And.intro (eq_false d4) (And.intro (eq_false hrx) (eq_false hxr)))))
    repeat' first | (refine SW.seq_k fun K hK => ?_) | (refine SW.block ?_) | (refine SW.region ?_; try simp only [go_sem, hD]) | (apply hK; clear hK K)
    obtain ⟨I, hI⟩ : ∃ I : Nat → St → Prop, ∀ k S, I k S ↔ (∃ (i : Nat) (h : Heap), k = rows.length - i ∧ i ≤ rows.length ∧ ((i = 0 ∧ h = [(xb, .svs (RCC ⟨at', gap, rows⟩)), (tb, .svs [Str ⟨#[114]⟩, .fl n 1 (sF (nm8.take n)), .sc (.slice none 0 0)]), (rb, .svs [Str ⟨#[]⟩, .sc (.slice none 0 0), .sc (.slice none 0 0)])]) ∨ (0 < i ∧ ∃ g, ¬ g = xb ∧ ¬ xb = g ∧ ¬ g = tb ∧ ¬ tb = g ∧ ¬ g = rb ∧ ¬ rb = g ∧ h = [(xb, .svs (RCC ⟨at', gap, rows⟩)), (g, .svs (fC rC ((List.range i).map fun j => rowS gap n j (rows.getD j [])))), (tb, .svs [Str ⟨#[114]⟩, .fl n 1 (sF (nm8.take n)), .os g 0 i 2]), (rb, .svs [Str ⟨#[]⟩, .sc (.slice none 0 0), .sc (.slice none 0 0)])])) ∧ S = ⟨[(1, I64 n), (2, .op xb 0), (4, .op rb 0), (5, .op tb 0), (6, I64 i)], h⟩) := ⟨fun k S => _, fun _ _ => Iff.rfl⟩
    refine SW.loop' I (rows.length) ((hI _ _).2 ⟨0, _, rfl, Nat.zero_le _, .inl ⟨rfl, rfl⟩, rfl⟩) (by repeat' (first | exact rfl | exact trivial | constructor)) ?_
    intro k S hIn
    obtain ⟨i, h, rfl, hi, hB, rfl⟩ := (hI _ _).1 hIn
    clear hIn
    have ie : ((i : Nat) : Int).toNat = i := Int.toNat_natCast _
    have i0 : (0 : Int) ≤ ((i : Nat) : Int) := by omega
    by_cases hlt : i < rows.length
    · have hli : ((i : Nat) : Int) < (((rows.length) : Nat) : Int) := by omega
      have w1 : IntKind.i64.wrap ((i : Int) + 1) = ((i + 1 : Nat) : Int) := by rw [i64_wrap (by omega) (by omega)]; omega
      have hg3 : gap.tmod 3 = gap % 3 := Int.tmod_eq_emod_of_nonneg hx2.1
      have q1 : IntKind.i64.wrap (gap % 3) = gap % 3 := by rw [i64_wrap (by omega) (by omega)]
      have q2 : IntKind.i64.wrap (1 + gap % 3) = 1 + gap % 3 := by rw [i64_wrap (by omega) (by omega)]
      have q5 : 0 ≤ (i : Int) * (1 + gap % 3) ∧ (i : Int) * (1 + gap % 3) ≤ 3000 := by
        have : gap % 3 = 0 ∨ gap % 3 = 1 ∨ gap % 3 = 2 := by omega
        rcases this with h | h | h <;> rw [h] <;> omega
      have q3 : IntKind.i64.wrap ((i : Int) * (1 + gap % 3)) = (i : Int) * (1 + gap % 3) := by rw [i64_wrap (by omega) (by omega)]
      obtain ⟨id, hid⟩ : ∃ z, 1 + (i : Int) * (1 + gap % 3) = z := ⟨_, rfl⟩
      have q4 : IntKind.i64.wrap (1 + (i : Int) * (1 + gap % 3)) = id := by rw [i64_wrap (by omega) (by omega), hid]
      obtain ⟨row, hrow⟩ : ∃ r, rows.getD i [] = r := ⟨_, rfl⟩
      have hr3 := hx3 _ (getD_mem [] hlt)
      rw [hrow] at hr3
      have hmp : ((List.range (i + 1)).map fun j => rowS gap n j (rows.getD j [])) = ((List.range i).map fun j => rowS gap n j (rows.getD j [])) ++ [rowS gap n i row] := by rw [List.range_succ, List.map_append, ← hrow]; rfl
      have hsl : ((List.range i).map fun j => rowS gap n j (rows.getD j [])).length = i := by simp
      have hrw : rowS gap n i row = (id, (List.range n).map fun k => codeV (row.getD k 0)) := by unfold rowS; rw [hid]
      generalize ((List.range i).map fun j => rowS gap n j (rows.getD j [])) = Li at *
      have ba : (i + 1) * 32 ≤ 140737488355328 := by omega
      rcases hB with ⟨hi0, rfl⟩ | ⟨hi0, g, u1, u2, u3, u4, u5, u6, rfl⟩
      · repeat' first | (refine SW.seq_k fun K hK => ?_) | (refine SW.block ?_) | ((first | refine SW.region ?_ | refine SW.cond ?_ | refine SW.skip ?_ | (refine allF_i fun b hb => ?_; replace hD := And.intro hb hD; clear hb; try simp only [fresh_cons, fresh_nil, and_true, ne_eq, neF] at hD)); try simp only [go_sem, hD, hli, ie, i0, w1, hg3, q1, q2, q3, q4]) | (apply hK; clear hK K)
        obtain ⟨vb, rfl⟩ : ∃ x, x = b := ⟨_, rfl⟩
        obtain ⟨R, hR⟩ : ∃ R : Heap, R = [(tb, .svs [Str ⟨#[114]⟩, .fl n 1 (sF (nm8.take n)), .sc (.slice none 0 0)]), (rb, .svs [Str ⟨#[]⟩, .sc (.slice none 0 0), .sc (.slice none 0 0)])] := ⟨_, rfl⟩
        rw [← hR]
        have v1 : ¬ vb = xb := by simp [hD]
        have v2 : ¬ xb = vb := by simp [hD]
        have v3 : fresh R vb := by rw [hR]; simp [fresh_cons, fresh_nil, hD]
        have v4 : fresh R xb := by rw [hR]; simp [fresh_cons, fresh_nil, d2, d4, hrx, hxr]
        clear hD
        have hD := And.intro (eq_false v1) (eq_false v2)
        obtain ⟨J, hJ⟩ : ∃ J : Nat → St → Prop, ∀ m S, J m S ↔ (∃ (k : Nat) (h : Heap), m = n - k ∧ k ≤ n ∧ ((k = 0 ∧ h = (vb, .svs [I64 id, .sc (.slice none 0 0)]) :: (xb, .svs (RCC ⟨at', gap, rows⟩)) :: R) ∨ (0 < k ∧ ∃ g2, ¬ g2 = vb ∧ ¬ vb = g2 ∧ ¬ g2 = xb ∧ ¬ xb = g2 ∧ fresh R g2 ∧ h = (g2, .svs (vCs ((List.range k).map fun k => codeV (row.getD k 0)))) :: (vb, .svs [I64 id, .os g2 0 k 3]) :: (xb, .svs (RCC ⟨at', gap, rows⟩)) :: R)) ∧ S = ⟨[(1, I64 n), (2, .op xb 0), (4, .op rb 0), (5, .op tb 0), (6, I64 i), (7, .op vb 0), (8, I64 k)], h⟩) := ⟨fun m S => _, fun _ _ => Iff.rfl⟩
        refine SW.loop' J n ((hJ _ _).2 ⟨0, _, rfl, Nat.zero_le _, .inl ⟨rfl, rfl⟩, rfl⟩) (by repeat' (first | exact rfl | exact trivial | constructor)) ?_
        intro m S hIn
        obtain ⟨k, h, rfl, hk, hV, rfl⟩ := (hJ _ _).1 hIn
        clear hIn
        have ke : ((k : Nat) : Int).toNat = k := Int.toNat_natCast _
        have k0 : (0 : Int) ≤ ((k : Nat) : Int) := by omega
        by_cases hkn : k < n
        · have hkni : ((k : Nat) : Int) < ((n : Nat) : Int) := by omega
          have wk : IntKind.i64.wrap ((k : Int) + 1) = ((k + 1 : Nat) : Int) := by rw [i64_wrap (by omega) (by omega)]; omega
          have hvp : ((List.range (k + 1)).map fun k => codeV (row.getD k 0)) = ((List.range k).map fun k => codeV (row.getD k 0)) ++ [codeV (row.getD k 0)] := by rw [List.range_succ, List.map_append]; rfl
          have hvl : ((List.range k).map fun k => codeV (row.getD k 0)).length = k := by simp
          have bk : (k + 1) * 32 ≤ 140737488355328 := by omega
          by_cases hkr : k < row.length
          · have hkri : ((k : Nat) : Int) < ((row.length : Nat) : Int) := by omega
            have hc3 := hr3 _ (getD_mem 0 hkr)
            have cr := code_r (row.getD k 0) hc3.1 hc3.2
            generalize codeV (row.getD k 0) = cv at *
            obtain ⟨ck, cn, ct⟩ := cv
            rcases hV with ⟨hk0, rfl⟩ | ⟨hk0, g2, f1, f2, f3, f4, f5, rfl⟩
            · subst hk0
              repeat' first | (with_reducible refine And.intro (by omega) ?_) | (refine SW.seq_k fun K hK => ?_) | (refine SW.block ?_) | ((first | refine SW.region ?_ | refine SW.regionZ (id := 12) (Checked.mixed Tryz.checked) Go.Ab.zJ2_1 (by kernel_rfl) ?_ | refine SW.cond ?_ | refine SW.skip ?_ | refine ⟨_, cr, ?_⟩ | (refine allF_i fun b hb => ?_; replace hD := And.intro hb hD; clear hb; try simp only [fresh_cons, fresh_nil, and_true, ne_eq, neF] at hD) | simp only [appK, appOsK]); try simp only [Go.Ab.zJ2_1, go_sem, hD, hli, ie, i0, hkni, ke, k0, wk, hrow, hkri, bk, true_implies]) | (refine And.intro (by omega) ?_) | (refine ifI (fun hc => ?_) (fun hc => ?_) <;> first | (exfalso; omega) | skip) | (apply hK; clear hK K)
              obtain ⟨nb, rfl⟩ : ∃ x, x = b := ⟨_, rfl⟩
              refine Rnd.le (St.le_del (b := b)) ?_
              simp only [go_sem, hD]
              refine Rnd.sub (n - (0 + 1)) (by omega) ((hJ _ _).2 ⟨0 + 1, _, rfl, by omega, .inr ⟨by omega, nb, by simp [hD], by simp [hD], by simp [hD], by simp [hD], by simp [hD], by rw [hvp]; rfl⟩, rfl⟩) (by repeat' (first | exact rfl | exact trivial | constructor))
            · have hD := And.intro (And.intro (eq_false f1) (eq_false f2)) (And.intro (And.intro (eq_false f3) (eq_false f4)) hD)
              have hvc : (vCs ((List.range k).map fun k => codeV (row.getD k 0))).length = k * 3 := by rw [← vCs_len, hvl]
              repeat' first | (with_reducible refine And.intro (by omega) ?_) | (refine SW.seq_k fun K hK => ?_) | (refine SW.block ?_) | ((first | refine SW.region ?_ | refine SW.regionZ (id := 12) (Checked.mixed Tryz.checked) Go.Ab.zJ2_1 (by kernel_rfl) ?_ | refine SW.cond ?_ | refine SW.skip ?_ | refine ⟨_, cr, ?_⟩ | (refine allF_i fun b hb => ?_; replace hD := And.intro hb hD; clear hb; try simp only [fresh_cons, fresh_nil, and_true, ne_eq, neF] at hD) | simp only [appK, appOsK]); try simp only [Go.Ab.zJ2_1, go_sem, hD, hli, ie, i0, hkni, ke, k0, wk, hrow, hkri, bk, hvc, true_implies]) | (apply hK; clear hK K)
              obtain ⟨nb, rfl⟩ : ∃ x, x = b := ⟨_, rfl⟩
              refine Rnd.le (St.le_del (b := b)) ?_
              simp only [go_sem, hD]
              refine Rnd.sub (n - (k + 1)) (by omega) ((hJ _ _).2 ⟨k + 1, _, rfl, by omega, .inr ⟨by omega, nb, by simp [hD], by simp [hD], by simp [hD], by simp [hD], by simp [hD], by rw [hvp, ← vCs_snoc]⟩, rfl⟩) (by repeat' (first | exact rfl | exact trivial | constructor))
          · have hkri : ¬ ((k : Nat) : Int) < ((row.length : Nat) : Int) := by omega
            have hz : row.getD k 0 = 0 := by rw [List.getD_eq_getElem?_getD, List.getElem?_eq_none (by omega)]; rfl
            have cr := code_r 0 (by omega) (by omega)
            rw [hz] at hvp
            generalize codeV 0 = cv at *
            obtain ⟨ck, cn, ct⟩ := cv
            rcases hV with ⟨hk0, rfl⟩ | ⟨hk0, g2, f1, f2, f3, f4, f5, rfl⟩
            · subst hk0
              repeat' first | (with_reducible refine And.intro (by omega) ?_) | (refine SW.seq_k fun K hK => ?_) | (refine SW.block ?_) | ((first | refine SW.region ?_ | refine SW.regionZ (id := 12) (Checked.mixed Tryz.checked) Go.Ab.zJ2_1 (by kernel_rfl) ?_ | refine SW.cond ?_ | refine SW.skip ?_ | refine ⟨_, cr, ?_⟩ | (refine allF_i fun b hb => ?_; replace hD := And.intro hb hD; clear hb; try simp only [fresh_cons, fresh_nil, and_true, ne_eq, neF] at hD) | simp only [appK, appOsK]); try simp only [Go.Ab.zJ2_1, go_sem, hD, hli, ie, i0, hkni, ke, k0, wk, hrow, hkri, bk, true_implies]) | (refine And.intro (by omega) ?_) | (refine ifI (fun hc => ?_) (fun hc => ?_) <;> first | (exfalso; omega) | skip) | (apply hK; clear hK K)
              obtain ⟨nb, rfl⟩ : ∃ x, x = b := ⟨_, rfl⟩
              refine Rnd.le (St.le_del (b := b)) ?_
              simp only [go_sem, hD]
              refine Rnd.sub (n - (0 + 1)) (by omega) ((hJ _ _).2 ⟨0 + 1, _, rfl, by omega, .inr ⟨by omega, nb, by simp [hD], by simp [hD], by simp [hD], by simp [hD], by simp [hD], by rw [hvp]; rfl⟩, rfl⟩) (by repeat' (first | exact rfl | exact trivial | constructor))
            · have hD := And.intro (And.intro (eq_false f1) (eq_false f2)) (And.intro (And.intro (eq_false f3) (eq_false f4)) hD)
              have hvc : (vCs ((List.range k).map fun k => codeV (row.getD k 0))).length = k * 3 := by rw [← vCs_len, hvl]
              repeat' first | (with_reducible refine And.intro (by omega) ?_) | (refine SW.seq_k fun K hK => ?_) | (refine SW.block ?_) | ((first | refine SW.region ?_ | refine SW.regionZ (id := 12) (Checked.mixed Tryz.checked) Go.Ab.zJ2_1 (by kernel_rfl) ?_ | refine SW.cond ?_ | refine SW.skip ?_ | refine ⟨_, cr, ?_⟩ | (refine allF_i fun b hb => ?_; replace hD := And.intro hb hD; clear hb; try simp only [fresh_cons, fresh_nil, and_true, ne_eq, neF] at hD) | simp only [appK, appOsK]); try simp only [Go.Ab.zJ2_1, go_sem, hD, hli, ie, i0, hkni, ke, k0, wk, hrow, hkri, bk, hvc, true_implies]) | (apply hK; clear hK K)
              obtain ⟨nb, rfl⟩ : ∃ x, x = b := ⟨_, rfl⟩
              refine Rnd.le (St.le_del (b := b)) ?_
              simp only [go_sem, hD]
              refine Rnd.sub (n - (k + 1)) (by omega) ((hJ _ _).2 ⟨k + 1, _, rfl, by omega, .inr ⟨by omega, nb, by simp [hD], by simp [hD], by simp [hD], by simp [hD], by simp [hD], by rw [hvp, ← vCs_snoc]⟩, rfl⟩) (by repeat' (first | exact rfl | exact trivial | constructor))
        have hkni : ¬ ((k : Nat) : Int) < ((n : Nat) : Int) := by omega
        obtain rfl : k = n := by omega
        have hVl : ((List.range k).map fun k => codeV (row.getD k 0)).length = k := by simp
        have hwl := hrw
        generalize ((List.range k).map fun k => codeV (row.getD k 0)) = V at *
        apply Ab.SW.le (S' := ⟨[(1, I64 k), (2, .op xb 0), (4, .op rb 0), (5, .op tb 0), (6, I64 i), (7, .op vb 0), (8, I64 k)], (vb, .svs [I64 id, VL V]) :: (xb, .svs (RCC ⟨at', gap, rows⟩)) :: R⟩)
        · rcases hV with ⟨hk0, rfl⟩ | ⟨hk0, g2, f1, f2, f3, f4, f5, rfl⟩
          · subst hk0
            have hVn : V = [] := List.eq_nil_of_length_eq_zero hVl
            subst hVn
            have := St.le_nilC (t := [(1, I64 (0 : Nat)), (2, .op xb 0), (4, .op rb 0), (5, .op tb 0), (6, I64 i), (7, .op vb 0), (8, I64 (0 : Nat))]) (h := (vb, .svs [I64 id, .sc (.slice none 0 0)]) :: (xb, .svs (RCC ⟨at', gap, rows⟩)) :: R) (c := vb) (j := 1) (sz := 3) (f := vF []) (by rw [find_cons, if_pos rfl]) (by show 1 < 2; omega) rfl
            rw [upd_cons, if_pos rfl] at this
            exact this
          · have := St.le_accC (t := [(1, I64 k), (2, .op xb 0), (4, .op rb 0), (5, .op tb 0), (6, I64 i), (7, .op vb 0), (8, I64 k)]) (sz := 3) (n := k) (c := vb) (j := 1) (Acc.osH (b := g2) (cs := vCs V) (h0 := (vb, .svs [I64 id, .os g2 0 k 3]) :: (xb, .svs (RCC ⟨at', gap, rows⟩)) :: R) (by simp only [fresh_cons, ne_eq]; exact ⟨⟨f2, f1⟩, ⟨f4, f3⟩, f5⟩) (by rw [← vCs_len, hVl])) (by rw [find_cons, if_pos rfl]) (by show 1 < 2; omega) rfl (vF V) (fun j hj => vCs_at V j (by omega))
            rw [upd_cons, if_pos rfl] at this
            unfold VL
            rw [hVl]
            exact this
        subst hR
        simp only [fresh_cons, fresh_nil, and_true, ne_eq, neF] at v3 v4
        have hD := And.intro v3 (And.intro v4 (And.intro (And.intro (eq_false v1) (eq_false v2)) (And.intro (And.intro (eq_false d1) (eq_false d3)) (And.intro (eq_false hrx) (eq_false hxr)))))
        subst hi0
        have hLn : Li = [] := List.eq_nil_of_length_eq_zero hsl
        subst hLn
        repeat' first | (with_reducible refine And.intro (by omega) ?_) | (refine SW.seq_k fun K hK => ?_) | ((first | refine SW.region ?_ | refine SW.cond ?_ | refine SW.exit ?_ | (refine allF_i fun b hb => ?_; replace hD := And.intro hb hD; clear hb; try simp only [fresh_cons, fresh_nil, and_true, ne_eq, neF] at hD) | simp only [appK, appOsK]); try simp only [go_sem, hD, hkni, w1, ba, true_implies]) | (refine And.intro (by omega) ?_) | (apply hK; clear hK K) | (clear hK K; apply hK; clear hK K)
        refine Rnd.le (St.le_pick _ ?_ ?_) (Rnd.sub (rows.length - (0 + 1)) (by omega) ((hI _ _).2 ⟨0 + 1, [(xb, .svs (RCC ⟨at', gap, rows⟩)), (b, .svs (rC (id, V))), (tb, .svs [Str ⟨#[114]⟩, .fl k 1 (sF (nm8.take k)), .os b 0 1 2]), (rb, .svs [Str ⟨#[]⟩, .sc (.slice none 0 0), .sc (.slice none 0 0)])], rfl, by omega, .inr ⟨by omega, b, by simp [hD], by simp [hD], by simp [hD], by simp [hD], by simp [hD], by simp [hD], by rw [hmp, hrw]; rfl⟩, rfl⟩) (by repeat' (first | exact rfl | exact trivial | constructor)))
        · repeat' (first | exact (fun x hx => (List.not_mem_nil hx).elim) | refine List.forall_mem_cons.2 ⟨?_, ?_⟩ | exact List.mem_cons_self | apply List.mem_cons_of_mem)
        · simp [fresh_cons, fresh_nil, hD]
      · have hD := And.intro (And.intro (eq_false u1) (eq_false u2)) (And.intro (And.intro (eq_false u3) (eq_false u4)) (And.intro (And.intro (eq_false u5) (eq_false u6)) hD))
        repeat' first | (refine SW.seq_k fun K hK => ?_) | (refine SW.block ?_) | ((first | refine SW.region ?_ | refine SW.cond ?_ | refine SW.skip ?_ | (refine allF_i fun b hb => ?_; replace hD := And.intro hb hD; clear hb; try simp only [fresh_cons, fresh_nil, and_true, ne_eq, neF] at hD)); try simp only [go_sem, hD, hli, ie, i0, w1, hg3, q1, q2, q3, q4]) | (apply hK; clear hK K)
        obtain ⟨vb, rfl⟩ : ∃ x, x = b := ⟨_, rfl⟩
        obtain ⟨R, hR⟩ : ∃ R : Heap, R = [(g, .svs (fC rC Li)), (tb, .svs [Str ⟨#[114]⟩, .fl n 1 (sF (nm8.take n)), .os g 0 i 2]), (rb, .svs [Str ⟨#[]⟩, .sc (.slice none 0 0), .sc (.slice none 0 0)])] := ⟨_, rfl⟩
        rw [← hR]
        have v1 : ¬ vb = xb := by simp [hD]
        have v2 : ¬ xb = vb := by simp [hD]
        have v3 : fresh R vb := by rw [hR]; simp [fresh_cons, fresh_nil, hD]
        have v4 : fresh R xb := by rw [hR]; simp [fresh_cons, fresh_nil, d2, d4, hrx, hxr, u1, u2]
        clear hD
        have hD := And.intro (eq_false v1) (eq_false v2)
        obtain ⟨J, hJ⟩ : ∃ J : Nat → St → Prop, ∀ m S, J m S ↔ (∃ (k : Nat) (h : Heap), m = n - k ∧ k ≤ n ∧ ((k = 0 ∧ h = (vb, .svs [I64 id, .sc (.slice none 0 0)]) :: (xb, .svs (RCC ⟨at', gap, rows⟩)) :: R) ∨ (0 < k ∧ ∃ g2, ¬ g2 = vb ∧ ¬ vb = g2 ∧ ¬ g2 = xb ∧ ¬ xb = g2 ∧ fresh R g2 ∧ h = (g2, .svs (vCs ((List.range k).map fun k => codeV (row.getD k 0)))) :: (vb, .svs [I64 id, .os g2 0 k 3]) :: (xb, .svs (RCC ⟨at', gap, rows⟩)) :: R)) ∧ S = ⟨[(1, I64 n), (2, .op xb 0), (4, .op rb 0), (5, .op tb 0), (6, I64 i), (7, .op vb 0), (8, I64 k)], h⟩) := ⟨fun m S => _, fun _ _ => Iff.rfl⟩
        refine SW.loop' J n ((hJ _ _).2 ⟨0, _, rfl, Nat.zero_le _, .inl ⟨rfl, rfl⟩, rfl⟩) (by repeat' (first | exact rfl | exact trivial | constructor)) ?_
        intro m S hIn
        obtain ⟨k, h, rfl, hk, hV, rfl⟩ := (hJ _ _).1 hIn
        clear hIn
        have ke : ((k : Nat) : Int).toNat = k := Int.toNat_natCast _
        have k0 : (0 : Int) ≤ ((k : Nat) : Int) := by omega
        by_cases hkn : k < n
        · have hkni : ((k : Nat) : Int) < ((n : Nat) : Int) := by omega
          have wk : IntKind.i64.wrap ((k : Int) + 1) = ((k + 1 : Nat) : Int) := by rw [i64_wrap (by omega) (by omega)]; omega
          have hvp : ((List.range (k + 1)).map fun k => codeV (row.getD k 0)) = ((List.range k).map fun k => codeV (row.getD k 0)) ++ [codeV (row.getD k 0)] := by rw [List.range_succ, List.map_append]; rfl
          have hvl : ((List.range k).map fun k => codeV (row.getD k 0)).length = k := by simp
          have bk : (k + 1) * 32 ≤ 140737488355328 := by omega
          by_cases hkr : k < row.length
          · have hkri : ((k : Nat) : Int) < ((row.length : Nat) : Int) := by omega
            have hc3 := hr3 _ (getD_mem 0 hkr)
            have cr := code_r (row.getD k 0) hc3.1 hc3.2
            generalize codeV (row.getD k 0) = cv at *
            obtain ⟨ck, cn, ct⟩ := cv
            rcases hV with ⟨hk0, rfl⟩ | ⟨hk0, g2, f1, f2, f3, f4, f5, rfl⟩
            · subst hk0
              repeat' first | (with_reducible refine And.intro (by omega) ?_) | (refine SW.seq_k fun K hK => ?_) | (refine SW.block ?_) | ((first | refine SW.region ?_ | refine SW.regionZ (id := 12) (Checked.mixed Tryz.checked) Go.Ab.zJ2_1 (by kernel_rfl) ?_ | refine SW.cond ?_ | refine SW.skip ?_ | refine ⟨_, cr, ?_⟩ | (refine allF_i fun b hb => ?_; replace hD := And.intro hb hD; clear hb; try simp only [fresh_cons, fresh_nil, and_true, ne_eq, neF] at hD) | simp only [appK, appOsK]); try simp only [Go.Ab.zJ2_1, go_sem, hD, hli, ie, i0, hkni, ke, k0, wk, hrow, hkri, bk, true_implies]) | (refine And.intro (by omega) ?_) | (refine ifI (fun hc => ?_) (fun hc => ?_) <;> first | (exfalso; omega) | skip) | (apply hK; clear hK K)
              obtain ⟨nb, rfl⟩ : ∃ x, x = b := ⟨_, rfl⟩
              refine Rnd.le (St.le_del (b := b)) ?_
              simp only [go_sem, hD]
              refine Rnd.sub (n - (0 + 1)) (by omega) ((hJ _ _).2 ⟨0 + 1, _, rfl, by omega, .inr ⟨by omega, nb, by simp [hD], by simp [hD], by simp [hD], by simp [hD], by simp [hD], by rw [hvp]; rfl⟩, rfl⟩) (by repeat' (first | exact rfl | exact trivial | constructor))
            · have hD := And.intro (And.intro (eq_false f1) (eq_false f2)) (And.intro (And.intro (eq_false f3) (eq_false f4)) hD)
              have hvc : (vCs ((List.range k).map fun k => codeV (row.getD k 0))).length = k * 3 := by rw [← vCs_len, hvl]
              repeat' first | (with_reducible refine And.intro (by omega) ?_) | (refine SW.seq_k fun K hK => ?_) | (refine SW.block ?_) | ((first | refine SW.region ?_ | refine SW.regionZ (id := 12) (Checked.mixed Tryz.checked) Go.Ab.zJ2_1 (by kernel_rfl) ?_ | refine SW.cond ?_ | refine SW.skip ?_ | refine ⟨_, cr, ?_⟩ | (refine allF_i fun b hb => ?_; replace hD := And.intro hb hD; clear hb; try simp only [fresh_cons, fresh_nil, and_true, ne_eq, neF] at hD) | simp only [appK, appOsK]); try simp only [Go.Ab.zJ2_1, go_sem, hD, hli, ie, i0, hkni, ke, k0, wk, hrow, hkri, bk, hvc, true_implies]) | (apply hK; clear hK K)
              obtain ⟨nb, rfl⟩ : ∃ x, x = b := ⟨_, rfl⟩
              refine Rnd.le (St.le_del (b := b)) ?_
              simp only [go_sem, hD]
              refine Rnd.sub (n - (k + 1)) (by omega) ((hJ _ _).2 ⟨k + 1, _, rfl, by omega, .inr ⟨by omega, nb, by simp [hD], by simp [hD], by simp [hD], by simp [hD], by simp [hD], by rw [hvp, ← vCs_snoc]⟩, rfl⟩) (by repeat' (first | exact rfl | exact trivial | constructor))
          · have hkri : ¬ ((k : Nat) : Int) < ((row.length : Nat) : Int) := by omega
            have hz : row.getD k 0 = 0 := by rw [List.getD_eq_getElem?_getD, List.getElem?_eq_none (by omega)]; rfl
            have cr := code_r 0 (by omega) (by omega)
            rw [hz] at hvp
            generalize codeV 0 = cv at *
            obtain ⟨ck, cn, ct⟩ := cv
            rcases hV with ⟨hk0, rfl⟩ | ⟨hk0, g2, f1, f2, f3, f4, f5, rfl⟩
            · subst hk0
              repeat' first | (with_reducible refine And.intro (by omega) ?_) | (refine SW.seq_k fun K hK => ?_) | (refine SW.block ?_) | ((first | refine SW.region ?_ | refine SW.regionZ (id := 12) (Checked.mixed Tryz.checked) Go.Ab.zJ2_1 (by kernel_rfl) ?_ | refine SW.cond ?_ | refine SW.skip ?_ | refine ⟨_, cr, ?_⟩ | (refine allF_i fun b hb => ?_; replace hD := And.intro hb hD; clear hb; try simp only [fresh_cons, fresh_nil, and_true, ne_eq, neF] at hD) | simp only [appK, appOsK]); try simp only [Go.Ab.zJ2_1, go_sem, hD, hli, ie, i0, hkni, ke, k0, wk, hrow, hkri, bk, true_implies]) | (refine And.intro (by omega) ?_) | (refine ifI (fun hc => ?_) (fun hc => ?_) <;> first | (exfalso; omega) | skip) | (apply hK; clear hK K)
              obtain ⟨nb, rfl⟩ : ∃ x, x = b := ⟨_, rfl⟩
              refine Rnd.le (St.le_del (b := b)) ?_
              simp only [go_sem, hD]
              refine Rnd.sub (n - (0 + 1)) (by omega) ((hJ _ _).2 ⟨0 + 1, _, rfl, by omega, .inr ⟨by omega, nb, by simp [hD], by simp [hD], by simp [hD], by simp [hD], by simp [hD], by rw [hvp]; rfl⟩, rfl⟩) (by repeat' (first | exact rfl | exact trivial | constructor))
            · have hD := And.intro (And.intro (eq_false f1) (eq_false f2)) (And.intro (And.intro (eq_false f3) (eq_false f4)) hD)
              have hvc : (vCs ((List.range k).map fun k => codeV (row.getD k 0))).length = k * 3 := by rw [← vCs_len, hvl]
              repeat' first | (with_reducible refine And.intro (by omega) ?_) | (refine SW.seq_k fun K hK => ?_) | (refine SW.block ?_) | ((first | refine SW.region ?_ | refine SW.regionZ (id := 12) (Checked.mixed Tryz.checked) Go.Ab.zJ2_1 (by kernel_rfl) ?_ | refine SW.cond ?_ | refine SW.skip ?_ | refine ⟨_, cr, ?_⟩ | (refine allF_i fun b hb => ?_; replace hD := And.intro hb hD; clear hb; try simp only [fresh_cons, fresh_nil, and_true, ne_eq, neF] at hD) | simp only [appK, appOsK]); try simp only [Go.Ab.zJ2_1, go_sem, hD, hli, ie, i0, hkni, ke, k0, wk, hrow, hkri, bk, hvc, true_implies]) | (apply hK; clear hK K)
              obtain ⟨nb, rfl⟩ : ∃ x, x = b := ⟨_, rfl⟩
              refine Rnd.le (St.le_del (b := b)) ?_
              simp only [go_sem, hD]
              refine Rnd.sub (n - (k + 1)) (by omega) ((hJ _ _).2 ⟨k + 1, _, rfl, by omega, .inr ⟨by omega, nb, by simp [hD], by simp [hD], by simp [hD], by simp [hD], by simp [hD], by rw [hvp, ← vCs_snoc]⟩, rfl⟩) (by repeat' (first | exact rfl | exact trivial | constructor))
        have hkni : ¬ ((k : Nat) : Int) < ((n : Nat) : Int) := by omega
        obtain rfl : k = n := by omega
        have hVl : ((List.range k).map fun k => codeV (row.getD k 0)).length = k := by simp
        have hwl := hrw
        generalize ((List.range k).map fun k => codeV (row.getD k 0)) = V at *
        apply Ab.SW.le (S' := ⟨[(1, I64 k), (2, .op xb 0), (4, .op rb 0), (5, .op tb 0), (6, I64 i), (7, .op vb 0), (8, I64 k)], (vb, .svs [I64 id, VL V]) :: (xb, .svs (RCC ⟨at', gap, rows⟩)) :: R⟩)
        · rcases hV with ⟨hk0, rfl⟩ | ⟨hk0, g2, f1, f2, f3, f4, f5, rfl⟩
          · subst hk0
            have hVn : V = [] := List.eq_nil_of_length_eq_zero hVl
            subst hVn
            have := St.le_nilC (t := [(1, I64 (0 : Nat)), (2, .op xb 0), (4, .op rb 0), (5, .op tb 0), (6, I64 i), (7, .op vb 0), (8, I64 (0 : Nat))]) (h := (vb, .svs [I64 id, .sc (.slice none 0 0)]) :: (xb, .svs (RCC ⟨at', gap, rows⟩)) :: R) (c := vb) (j := 1) (sz := 3) (f := vF []) (by rw [find_cons, if_pos rfl]) (by show 1 < 2; omega) rfl
            rw [upd_cons, if_pos rfl] at this
            exact this
          · have := St.le_accC (t := [(1, I64 k), (2, .op xb 0), (4, .op rb 0), (5, .op tb 0), (6, I64 i), (7, .op vb 0), (8, I64 k)]) (sz := 3) (n := k) (c := vb) (j := 1) (Acc.osH (b := g2) (cs := vCs V) (h0 := (vb, .svs [I64 id, .os g2 0 k 3]) :: (xb, .svs (RCC ⟨at', gap, rows⟩)) :: R) (by simp only [fresh_cons, ne_eq]; exact ⟨⟨f2, f1⟩, ⟨f4, f3⟩, f5⟩) (by rw [← vCs_len, hVl])) (by rw [find_cons, if_pos rfl]) (by show 1 < 2; omega) rfl (vF V) (fun j hj => vCs_at V j (by omega))
            rw [upd_cons, if_pos rfl] at this
            unfold VL
            rw [hVl]
            exact this
        subst hR
        simp only [fresh_cons, fresh_nil, and_true, ne_eq, neF] at v3 v4
        have hD := And.intro v3 (And.intro v4 (And.intro (And.intro (eq_false v1) (eq_false v2)) (And.intro (And.intro (eq_false d1) (eq_false d3)) (And.intro (eq_false hrx) (And.intro (eq_false hxr) (And.intro (And.intro (eq_false u3) (eq_false u4)) (And.intro (eq_false u5) (eq_false u6))))))))
        have hfc : (fC rC Li).length = i * 2 := by rw [← fC_len (k := 2) (fun _ => rfl), hsl]
        repeat' first | (with_reducible refine And.intro (by omega) ?_) | (refine SW.seq_k fun K hK => ?_) | ((first | refine SW.region ?_ | refine SW.cond ?_ | refine SW.exit ?_ | (refine allF_i fun b hb => ?_; replace hD := And.intro hb hD; clear hb; try simp only [fresh_cons, fresh_nil, and_true, ne_eq, neF] at hD) | simp only [appK, appOsK]); try simp only [go_sem, hD, hkni, w1, ba, hfc, true_implies]) | (apply hK; clear hK K) | (clear hK K; apply hK; clear hK K)
        refine Rnd.le (St.le_pick _ ?_ ?_) (Rnd.sub (rows.length - (i + 1)) (by omega) ((hI _ _).2 ⟨i + 1, [(xb, .svs (RCC ⟨at', gap, rows⟩)), (b, .svs (fC rC Li ++ rC (id, V))), (tb, .svs [Str ⟨#[114]⟩, .fl k 1 (sF (nm8.take k)), .os b 0 (i + 1) 2]), (rb, .svs [Str ⟨#[]⟩, .sc (.slice none 0 0), .sc (.slice none 0 0)])], rfl, by omega, .inr ⟨by omega, b, by simp [hD], by simp [hD], by simp [hD], by simp [hD], by simp [hD], by simp [hD], by rw [hmp, hrw, ← fC_snoc]⟩, rfl⟩) (by repeat' (first | exact rfl | exact trivial | constructor)))
        · repeat' (first | exact (fun x hx => (List.not_mem_nil hx).elim) | refine List.forall_mem_cons.2 ⟨?_, ?_⟩ | exact List.mem_cons_self | apply List.mem_cons_of_mem)
        · simp [fresh_cons, fresh_nil, hD]
    · have hli : ¬ ((i : Nat) : Int) < (((rows.length) : Nat) : Int) := by omega
      obtain rfl : i = rows.length := by omega
      have hsl : ((List.range rows.length).map fun j => rowS gap n j (rows.getD j [])).length = rows.length := by simp
      have hnl : (nm8.take n).length = n := by rw [List.length_take]; show min n 8 = n; omega
      generalize ((List.range rows.length).map fun j => rowS gap n j (rows.getD j [])) = Li at *
      apply Ab.SW.le (S' := ⟨[(1, I64 n), (2, .op xb 0), (4, .op rb 0), (5, .op tb 0), (6, I64 rows.length)], [(xb, .svs (RCC ⟨at', gap, rows⟩)), (tb, .svs [Str ⟨#[114]⟩, .fl n 1 (sF (nm8.take n)), RL Li]), (rb, .svs [Str ⟨#[]⟩, .sc (.slice none 0 0), .sc (.slice none 0 0)])]⟩)
      · rcases hB with ⟨hi0, rfl⟩ | ⟨hi0, g, u1, u2, u3, u4, u5, u6, rfl⟩
        · have hLn : Li = [] := List.eq_nil_of_length_eq_zero (by omega)
          subst hLn
          have := St.le_nilC (t := [(1, I64 n), (2, .op xb 0), (4, .op rb 0), (5, .op tb 0), (6, I64 rows.length)]) (h := [(xb, .svs (RCC ⟨at', gap, rows⟩)), (tb, .svs [Str ⟨#[114]⟩, .fl n 1 (sF (nm8.take n)), .sc (.slice none 0 0)]), (rb, .svs [Str ⟨#[]⟩, .sc (.slice none 0 0), .sc (.slice none 0 0)])]) (c := tb) (j := 2) (sz := 2) (f := rF []) (by rw [find_cons, if_neg d4, find_cons, if_pos rfl]) (by show 2 < 3; omega) rfl
          rw [upd_cons, if_neg d4, upd_cons, if_pos rfl] at this
          exact this
        · have h1 := St.le_perm (t := [(1, I64 n), (2, .op xb 0), (4, .op rb 0), (5, .op tb 0), (6, I64 rows.length)]) (List.Perm.swap (xb, .svs (RCC ⟨at', gap, rows⟩)) (g, Blk.svs (fC rC Li)) [(tb, .svs [Str ⟨#[114]⟩, .fl n 1 (sF (nm8.take n)), .os g 0 rows.length 2]), (rb, .svs [Str ⟨#[]⟩, .sc (.slice none 0 0), .sc (.slice none 0 0)])])
          have := St.le_accC (t := [(1, I64 n), (2, .op xb 0), (4, .op rb 0), (5, .op tb 0), (6, I64 rows.length)]) (sz := 2) (n := rows.length) (c := tb) (j := 2) (Acc.osH (b := g) (cs := fC rC Li) (h0 := [(xb, .svs (RCC ⟨at', gap, rows⟩)), (tb, .svs [Str ⟨#[114]⟩, .fl n 1 (sF (nm8.take n)), .os g 0 rows.length 2]), (rb, .svs [Str ⟨#[]⟩, .sc (.slice none 0 0), .sc (.slice none 0 0)])]) (by simp [fresh_cons, fresh_nil, u1, u2, u3, u4, u5, u6]) (by rw [← fC_len (k := 2) (fun _ => rfl), hsl])) (by rw [find_cons, if_neg d4, find_cons, if_pos rfl]) (by show 2 < 3; omega) rfl (rF Li) (fun j hj => fC_at (enc := rC) (k := 2) (fun _ => rfl) r0 Li j (by omega))
          rw [upd_cons, if_neg d4, upd_cons, if_pos rfl] at this
          unfold RL
          rw [hsl]
          exact h1.trans this
      · repeat' first | (refine SW.seq_k fun K hK => ?_) | ((first | refine SW.region ?_ | refine SW.cond ?_ | refine SW.exit ?_ | refine SW.ret ?_); try simp only [go_sem, hD, hli, true_implies]) | (apply hK; clear hK K) | (clear hK K; apply hK; clear hK K)
        apply ret_cell (i := 4) (n := 3); exact rfl; (simp only [go_sem, hD]; try rfl); (first | exact Nat.le_refl _ | decide); simp only [resL_tmp, resL_cellE, resC_ok, resL_nil, tupOf, getN, go_sem, hD]
        unfold TB SL
        simp only
        rw [hnl]
  obtain ⟨C, Q', hK2, key⟩ := key
  clear hK
  have hK := hK2
  clear hK2
  have nn : (((n : Nat) : Int) - 0).toNat = n := by omega
  have hn6 : n = 0 ∨ n = 1 ∨ n = 2 ∨ n = 3 ∨ n = 4 ∨ n = 5 := by omega
  rcases hn6 with h | h | h | h | h | h
  all_goals
    have nn2 := nn.trans h
    repeat' first | (with_reducible refine And.intro (by omega) ?_) | ((first | refine SW.region ?_ | (refine allF_i fun b hb => ?_; replace hD := And.intro hb hD; clear hb; try simp only [fresh_cons, fresh_nil, and_true, ne_eq, neF] at hD) | simp only [appK, appOsK]); try simp only [go_sem, hD, nn2, getN, List.all_cons, List.all_nil, Bool.and_self, Bool.true_and]) | (apply hK; clear hK K)
    obtain ⟨tb, rfl⟩ : ∃ x, x = b := ⟨_, rfl⟩
    obtain ⟨ab, rfl⟩ : ∃ x, x = b := ⟨_, rfl⟩
    have d1 : ¬ tb = rb := by simp [hD]
    have d2 : ¬ tb = xb := by simp [hD]
    have d3 : ¬ rb = tb := by simp [hD]
    have d4 : ¬ xb = tb := by simp [hD]
    have d5 : ¬ tb = ab := by simp [hD]
    apply Ab.SW.le
    · apply St.le_freezeC (c := tb) (j := 1) (b := ab) (off := 0) (sz := 1) (f := sF (nm8.take n))
      · rw [find_cons, if_pos rfl]
      · exact d5
      · show 1 < 3
        omega
      · rfl
      · simp [find_cons, d5, hD]; rfl
      · decide
      · intro p hp
        rw [h]
        have h5 : p = 0 ∨ p = 1 ∨ p = 2 ∨ p = 3 ∨ p = 4 := by omega
        rcases h5 with rfl | rfl | rfl | rfl | rfl
        all_goals first | (exfalso; omega) | rfl
    simp only [go_sem, hD, d5]
    subst h
    refine Ab.SW.le ((St.le_pick [(xb, .svs (RCC ⟨at', gap, rows⟩)), (tb, .svs [Str ⟨#[114]⟩, .fl _ 1 (sF (nm8.take _)), .sc (.slice none 0 0)]), (rb, .svs [Str ⟨#[]⟩, .sc (.slice none 0 0), .sc (.slice none 0 0)])] ?_ ?_).trans (St.le_sub ?_)) (key tb d1 d2 d3 d4)
    · repeat' (first | exact (fun x hx => (List.not_mem_nil hx).elim) | refine List.forall_mem_cons.2 ⟨?_, ?_⟩ | exact List.mem_cons_self | apply List.mem_cons_of_mem)
    · simp [fresh_cons, fresh_nil, hD]
    · repeat' (first | exact rfl | exact trivial | constructor)
end Go.Proofs.YtpidncgibgiidaaGreat
namespace Go.Ab.A15
open Go Go.Ab Go.Ab.A34
def tabS (x : Rc) : Tb := wideS x (x.attrs % 6).toNat
abbrev TZ : SV := .agg [Str ⟨#[]⟩, SN, SN]
def U8s (l : List Int) : Prop := ∀ c ∈ l, 0 ≤ c ∧ c < 256
theorem few_nums {l : List Int} {n : Nat} (h : l.Nodup) (hb : ∀ x ∈ l, 0 ≤ x ∧ x < (n : Int)) : l.length ≤ n := by
  have key := nodup_bound n (l.map Int.toNat) ?_ ?_
  · rwa [List.length_map] at key
  · have hp := List.pairwise_iff_getElem.1 h
    refine List.pairwise_iff_getElem.2 fun i j hi hj hij e => ?_
    rw [List.length_map] at hi hj
    rw [List.getElem_map, List.getElem_map] at e
    have h1 := hb _ (List.getElem_mem hi)
    have h2 := hb _ (List.getElem_mem hj)
    exact hp i j hi hj hij (by omega)
  · intro x hx
    obtain ⟨y, hy, rfl⟩ := List.mem_map.1 hx
    have := hb y hy
    omega
end Go.Ab.A15
namespace Go.Proofs.YtpidncgibgiidaaGreat
open Go Go.Ab Go.Ab.A34 Go.Ab.A15
variable [Gl] [Tabs]
theorem rtab_big (x : Rc) (m : Nat) (h : m < x.rows.length) : PCall Tryz.prog 44 [RC x, I64 m] (.tup [TZ, SB false]) := by
  have hi : ((m : Nat) : Int) < ((x.rows.length : Nat) : Int) := by omega
  obtain ⟨a, g, l⟩ := x
  simp only at hi
  refine Call.enter' (N := 18) (rs := [.cell 4 72, .tmp 5]) Tryz.func44 rfl rfl rfl (by decide) rfl ?_; simp only [argT]; have hD : (0 : Nat) = 0 := rfl
  repeat' first | (refine SW.seq_k fun K hK => ?_) | ((first | refine SW.region ?_ | refine SW.cond ?_ | refine SW.ret ?_ | (refine allF_i fun b hb => ?_; replace hD := And.intro hb hD; clear hb; try simp only [fresh_cons, fresh_nil, and_true, ne_eq, neF] at hD)); try simp only [go_sem, hD, hi]) | (apply hK; clear hK K)
  apply ret_cell (i := 4) (n := 3); exact rfl; (simp only [go_sem, hD]; try rfl); (first | exact Nat.le_refl _ | decide); simp only [resL_tmp, resL_cellE, resC_ok, resL_nil, tupOf, getN, go_sem, hD]
theorem rtab_r (x : Rc) (hx : okRc x) (m : Nat) (h : x.rows.length ≤ m) (hm : m ≤ 1000) : PCall Tryz.prog 44 [RC x, I64 m] (.tup [TB (tabS x), SB true]) := by
  have hi : ¬ ((m : Nat) : Int) < ((x.rows.length : Nat) : Int) := by omega
  have a1 : x.attrs.tmod 6 = x.attrs % 6 := Int.tmod_eq_emod_of_nonneg hx.1.1
  have a2 : IntKind.i64.wrap (x.attrs % 6) = (((x.attrs % 6).toNat : Nat) : Int) := by rw [i64_wrap (by omega) (by omega)]; omega
  have wr := wide_r x hx (x.attrs % 6).toNat (by omega) (by omega)
  unfold tabS
  generalize wideS x (x.attrs % 6).toNat = t at *
  obtain ⟨a, g, l⟩ := x
  simp only at hi a1 a2 wr
  refine Call.enter' (N := 18) (rs := [.cell 4 72, .tmp 5]) Tryz.func44 rfl rfl rfl (by decide) rfl ?_; simp only [argT]; have hD : (0 : Nat) = 0 := rfl
  repeat' first | (refine SW.seq_k fun K hK => ?_) | ((first | refine SW.region ?_ | refine SW.cond ?_ | refine SW.skip ?_ | refine SW.ret ?_ | refine Call.of_pure (wr) ?_ | (refine allF_i fun b hb => ?_; replace hD := And.intro hb hD; clear hb; try simp only [fresh_cons, fresh_nil, and_true, ne_eq, neF] at hD)); try simp only [go_sem, hD, hi, a1, a2]) | (apply hK; clear hK K)
  apply ret_cell (i := 4) (n := 3); exact rfl; (simp only [go_sem, hD]; try rfl); (first | exact Nat.le_refl _ | decide); simp only [resL_tmp, resL_cellE, resC_ok, resL_nil, tupOf, getN, go_sem, hD]
end Go.Proofs.YtpidncgibgiidaaGreat
namespace Go.Ab.A15
open Go Go.Ab Go.Ab.A34
def rc0 : Rc := ⟨0, 0, []⟩
def nmT (i : Nat) : ByteArray := if i = 0 then ⟨#[114]⟩ else if i = 1 then ⟨#[115]⟩ else ⟨#[116]⟩
def cutR (x : Rc) : Rc := ⟨x.attrs % 4, x.gap, x.rows⟩
def tabD (x : Rc) (i : Nat) : Tb := ⟨nmT i, (tabS (cutR x)).attrs, (tabS (cutR x)).rows⟩
def ofT (d : List Rc) : List Tb := (List.range (min d.length 3)).map fun i => tabD (d.getD i rc0) i
abbrev RF (d : List Rc) (i : Nat) : List SV := RCC (d.getD i rc0)
abbrev RcL (d : List Rc) : SV := .fl d.length 3 (RF d)
def goodD (d : List Rc) : Prop := ∀ i, i < min d.length 3 → (d.getD i rc0).rows.length ≤ 6
instance (d : List Rc) : Decidable (goodD d) := by unfold goodD; infer_instance
def ofV (d : List Rc) : SV := if goodD d then .tup [DB (ofT d), SB (decide (d.length ≤ 3))] else .tup [.agg [SN], SB false]
structure Lk where
  f : Int
  t : Int
  l : List Int
  r : List Int
structure OkK (x : Lk) : Prop where
  f : 0 ≤ x.f ∧ x.f < 256
  t : 0 ≤ x.t ∧ x.t < 256
  l : U8s x.l
  r : U8s x.r
  nl : x.l.length ≤ 9223372036854775807
  nr : x.r.length ≤ 9223372036854775807
end Go.Ab.A15
namespace Go.Proofs.YtpidncgibgiidaaGreat
open Go Go.Ab Go.Ab.A34 Go.Ab.A15
variable [Gl] [Tabs]
end Go.Proofs.YtpidncgibgiidaaGreat
namespace Go.Ab.A15
open Go Go.Ab Go.Ab.A34
def outD (d : List Rc) (i : Nat) : List Tb := (List.range i).map fun j => tabD (d.getD j rc0) j
theorem outD_succ (d : List Rc) (i : Nat) : outD d (i + 1) = outD d i ++ [tabD (d.getD i rc0) i] := by
  unfold outD
  rw [List.range_succ, List.map_append]
  rfl
theorem outD_len (d : List Rc) (i : Nat) : (outD d i).length = i := by simp [outD]
def OkRcs (d : List Rc) : Prop := ∀ x ∈ d, okRc x
end Go.Ab.A15
def Go.Ab.zDC_1 : Go.Ab.OZ := (.one 0 [0, 2, 3, 4, 5, 16, 17, 18, 19, 20, 22, 23] (.one 1 [1, 2, 3, 4, 5, 16, 17, 18, 19, 20, 22, 23] (.one 2 [2, 3, 4, 5, 16, 17, 18, 19, 20, 22, 23] (.one 3 [3, 4, 5, 16, 17, 18, 19, 20, 22, 23] (.one 4 [4, 5, 16, 17, 18, 19, 20, 22, 23] (.one 5 [5, 16, 17, 18, 19, 20, 22, 23] (.one 6 [6, 8, 9, 10, 16, 17, 18, 19, 20, 22, 23] (.one 7 [7, 8, 9, 10, 16, 17, 18, 19, 20, 22, 23] (.one 8 [8, 9, 10, 16, 17, 18, 19, 20, 22, 23] (.one 9 [9, 10, 16, 17, 18, 19, 20, 22, 23] (.one 10 [10, 16, 17, 18, 19, 20, 22, 23] (.one 11 [11, 13, 14, 15, 16, 17, 18, 19, 20, 22, 23] (.one 12 [12, 13, 14, 15, 16, 17, 18, 19, 20, 22, 23] (.one 13 [13, 14, 15, 16, 17, 18, 19, 20, 22, 23] (.one 14 [14, 15, 16, 17, 18, 19, 20, 22, 23] (.one 15 [15, 16, 17, 18, 19, 20, 22, 23] (.one 16 [16, 17, 18, 19, 20, 22, 23] (.one 17 [17, 18, 19, 20, 22, 23] (.one 18 [18, 19, 20, 22, 23] (.one 19 [19, 22, 23] (.alt 20 (.alt 21 (.alt 22 (.one 23 [23] .done) .nil) .nil) (.alt 21 (.alt 20 (.alt 22 (.one 23 [23] .done) .nil) (.alt 22 (.one 20 [20, 23] (.one 23 [23] .done)) .nil)) .nil))))))))))))))))))))))
namespace Go.Proofs.YtpidncgibgiidaaGreat
open Go Go.Ab Go.Ab.A34 Go.Ab.A15
variable [Gl] [Tabs]
theorem of_r (d : List Rc) (hd : OkRcs d) (hl : d.length ≤ 9223372036854775807) : PCall Tryz.prog 10 [RcL d] (ofV d) := by
  obtain ⟨V, hV⟩ : ∃ V, V = ofV d := ⟨_, rfl⟩
  rw [← hV]
  have h6 : ((6 : Nat) : Int) = 6 := rfl
  refine Call.enter' (N := 57) (rs := [.cell 2 26, .tmp 3]) Tryz.func10 rfl rfl rfl (by decide) rfl ?_; simp only [argT]; have hD : (0 : Nat) = 0 := rfl
  repeat' first | (refine SW.seq_k fun K hK => ?_) | (refine SW.block ?_) | ((first | refine SW.region ?_ | (refine allF_i fun b hb => ?_; replace hD := And.intro hb hD; clear hb; try simp only [fresh_cons, fresh_nil, and_true, ne_eq, neF] at hD)); try simp only [go_sem, hD]) | (apply hK; clear hK K)
  obtain ⟨ob, rfl⟩ : ∃ x, x = b := ⟨_, rfl⟩
  obtain ⟨rb, rfl⟩ : ∃ x, x = b := ⟨_, rfl⟩
  have k1 : ¬ ob = rb := by simp [hD]
  have k2 : ¬ rb = ob := by simp [hD]
  clear hD
  have hE := And.intro (eq_false k1) (eq_false k2)
  obtain ⟨I, hI⟩ : ∃ I : Nat → St → Prop, ∀ k S, I k S ↔ (∃ (i : Nat) (h : Heap), k = min d.length 3 - i ∧ i ≤ min d.length 3 ∧ (∀ j, j < i → (d.getD j rc0).rows.length ≤ 6) ∧ ((i = 0 ∧ h = [(ob, .svs [SN]), (rb, .svs [SN])]) ∨ (0 < i ∧ ∃ g, fresh [(ob, .svs []), (rb, .svs [])] g ∧ h = [(g, .svs (fC tC (outD d i))), (ob, .svs [.os g 0 i 3]), (rb, .svs [SN])])) ∧ S = ⟨[(0, RcL d), (2, .op rb 0), (3, SB false), (4, .op ob 0), (5, I64 i)], h⟩) := ⟨fun k S => _, fun _ _ => Iff.rfl⟩
  refine SW.loop' I (min d.length 3) ((hI _ _).2 ⟨0, _, rfl, Nat.zero_le _, (fun j hj => absurd hj (Nat.not_lt_zero _)), .inl ⟨rfl, rfl⟩, rfl⟩) (by repeat' (first | exact rfl | exact trivial | constructor)) ?_
  intro k S hIn
  obtain ⟨i, h, rfl, hi, hG, hB, rfl⟩ := (hI _ _).1 hIn
  clear hIn
  have ie : ((i : Nat) : Int).toNat = i := Int.toNat_natCast _
  have i0 : (0 : Int) ≤ ((i : Nat) : Int) := by omega
  have u0 : ∀ g1, fresh [(ob, .svs []), (rb, .svs [])] g1 → ((ob = g1) = False ∧ (g1 = ob) = False) ∧ ((rb = g1) = False ∧ (g1 = rb) = False) := fun g1 u1 => by simpa only [fresh_cons, fresh_nil, and_true, ne_eq, neF] using u1
  by_cases hlt : i < min d.length 3
  · have hli : ((i : Nat) : Int) < ((d.length : Nat) : Int) := by omega
    have hl3 : ((i : Nat) : Int) < 3 := by omega
    have i3 : i < 3 := by omega
    have w1 : IntKind.i64.wrap ((i : Int) + 1) = ((i + 1 : Nat) : Int) := by rw [i64_wrap (by omega) (by omega)]; omega
    have hx := hd _ (getD_mem' rc0 (show i < d.length by omega))
    have hsc := outD_succ d i
    have fi : RF d i = RCC (d.getD i rc0) := rfl
    have hol := outD_len d i
    have hol2 := outD_len d (i + 1)
    have hgd : ¬ (d.getD i rc0).rows.length ≤ 6 → ¬ goodD d := fun h1 h2 => h1 (h2 i hlt)
    have hG2 : (d.getD i rc0).rows.length ≤ 6 → ∀ j, j < i + 1 → (d.getD j rc0).rows.length ≤ 6 := fun h1 j hj => by
      rcases Nat.lt_or_eq_of_le (Nat.lt_succ_iff.1 hj) with h | h
      · exact hG j h
      · rw [h]; exact h1
    have a1 : (d.getD i rc0).attrs.tmod 4 = (d.getD i rc0).attrs % 4 := Int.tmod_eq_emod_of_nonneg hx.1.1
    have hok : okRc (cutR (d.getD i rc0)) := ⟨⟨by show 0 ≤ (d.getD i rc0).attrs % 4; omega, by show (d.getD i rc0).attrs % 4 < 256; omega⟩, hx.2⟩
    by_cases h7 : (d.getD i rc0).rows.length ≤ 6
    · have c := rtab_r (cutR (d.getD i rc0)) hok 6 h7 (by omega)
      rw [h6] at c
      replace hG2 := hG2 h7
      clear hgd hG h7
      unfold tabD at hsc
      unfold cutR at c hsc
      generalize d.getD i rc0 = x at *
      obtain ⟨xa, xg, xl⟩ := x
      simp only at c hsc a1
      generalize tabS ⟨xa % 4, xg, xl⟩ = t at *
      obtain ⟨tn, ta, tr⟩ := t
      simp only at c hsc
      have gm : [Str ⟨#[114]⟩, Str ⟨#[115]⟩, Str ⟨#[116]⟩].getD i SV.any = Str (nmT i) := by
        rcases (by omega : i = 0 ∨ i = 1 ∨ i = 2) with rfl | rfl | rfl <;> rfl
      have z0 : 0 + i * 1 = i := by omega
      have hsn : fC tC (outD d (i + 1)) = fC tC (outD d i) ++ [Str (nmT i), SL ta, RL tr] := by rw [hsc, ← fC_snoc]
      have lc : i * 3 = (fC tC (outD d i)).length := by
        have := fC_len (enc := tC) (k := 3) (fun _ => rfl) (outD d i)
        rwa [hol] at this
      have ba : (i + 1) * 64 ≤ 140737488355328 := by omega
      rcases hB with ⟨hm0, rfl⟩ | ⟨hm0, g, u1, rfl⟩
      · subst hm0
        have hs0 : fC tC (outD d (0 + 1)) = [Str (nmT 0), SL ta, RL tr] := hsn
        have hD := hE
        repeat' first | (with_reducible refine And.intro (by omega) ?_) | (refine SW.seq_k fun K hK => ?_) | (refine SW.block ?_) | ((first | refine SW.region ?_ | refine SW.regionZ (id := 5) (Checked.mixed Tryz.checked) Go.Ab.zDC_1 (by kernel_rfl) ?_ | refine SW.cond ?_ | refine SW.skip ?_ | refine ⟨_, c, ?_⟩ | (refine allF_i fun b hb => ?_; replace hD := And.intro hb hD; clear hb; try simp only [fresh_cons, fresh_nil, and_true, ne_eq, neF] at hD) | simp only [appK, appOsK]); try simp only [Go.Ab.zDC_1, go_sem, hD, hli, hl3, i3, ie, i0, w1, fi, a1, gm, z0, true_implies]) | (refine And.intro (by omega) ?_) | (refine ifI (fun hc => ?_) (fun hc => ?_) <;> first | (exfalso; omega) | skip) | (apply hK; clear hK K) | (refine And.intro ?_ ?_)
        all_goals
          obtain ⟨c1, rfl⟩ : ∃ x, x = b := ⟨_, rfl⟩
          refine Rnd.le (St.le_pick _ ?_ ?_) (Rnd.sub (min d.length 3 - (0 + 1)) (by omega) ((hI _ _).2 ⟨0 + 1, [(c1, .svs [Str (nmT 0), SL ta, RL tr]), (ob, .svs [.os c1 0 1 3]), (rb, .svs [SN])], rfl, by omega, hG2, .inr ⟨by omega, c1, by simp [fresh_cons, fresh_nil, hD], by rw [hs0]⟩, rfl⟩) (by repeat' (first | exact rfl | exact trivial | constructor)))
          · repeat' (first | exact (fun x hx => (List.not_mem_nil hx).elim) | refine List.forall_mem_cons.2 ⟨?_, ?_⟩ | exact List.mem_cons_self | apply List.mem_cons_of_mem)
          · simp [fresh_cons, fresh_nil, hD]
      · have hD := And.intro (u0 g u1) hE
        repeat' first | (with_reducible refine And.intro (by omega) ?_) | (refine SW.seq_k fun K hK => ?_) | (refine SW.block ?_) | ((first | refine SW.region ?_ | refine SW.regionZ (id := 5) (Checked.mixed Tryz.checked) Go.Ab.zDC_1 (by kernel_rfl) ?_ | refine SW.cond ?_ | refine SW.skip ?_ | refine ⟨_, c, ?_⟩ | (refine allF_i fun b hb => ?_; replace hD := And.intro hb hD; clear hb; try simp only [fresh_cons, fresh_nil, and_true, ne_eq, neF] at hD) | simp only [appK, appOsK]); try simp only [Go.Ab.zDC_1, go_sem, hD, hli, hl3, i3, ie, i0, w1, fi, a1, gm, z0, ba, lc, true_implies]) | (apply hK; clear hK K) | (refine And.intro ?_ ?_)
        all_goals
          obtain ⟨c1, rfl⟩ : ∃ x, x = b := ⟨_, rfl⟩
          refine Rnd.le (St.le_pick _ ?_ ?_) (Rnd.sub (min d.length 3 - (i + 1)) (by omega) ((hI _ _).2 ⟨i + 1, [(c1, .svs (fC tC (outD d i) ++ [Str (nmT i), SL ta, RL tr])), (ob, .svs [.os c1 0 (i + 1) 3]), (rb, .svs [SN])], rfl, by omega, hG2, .inr ⟨by omega, c1, by simp [fresh_cons, fresh_nil, hD], by rw [hsn]⟩, rfl⟩) (by repeat' (first | exact rfl | exact trivial | constructor)))
          · repeat' (first | exact (fun x hx => (List.not_mem_nil hx).elim) | refine List.forall_mem_cons.2 ⟨?_, ?_⟩ | exact List.mem_cons_self | apply List.mem_cons_of_mem)
          · simp [fresh_cons, fresh_nil, hD]
    · have c := rtab_big (cutR (d.getD i rc0)) 6 (by show 6 < (d.getD i rc0).rows.length; omega)
      rw [h6] at c
      have hV2 : V = .tup [.agg [SN], SB false] := by rw [hV]; unfold ofV; exact if_neg (hgd h7)
      clear hV hgd hG hG2
      subst hV2
      unfold cutR at c
      generalize d.getD i rc0 = x at *
      obtain ⟨xa, xg, xl⟩ := x
      simp only at c a1
      rcases hB with ⟨hm0, rfl⟩ | ⟨hm0, g, u1, rfl⟩
      · have hD := hE
        repeat' first | (refine SW.seq_k fun K hK => ?_) | (refine SW.block ?_) | ((first | refine SW.region ?_ | refine SW.regionZ (id := 5) (Checked.mixed Tryz.checked) Go.Ab.zDC_1 (by kernel_rfl) ?_ | refine SW.cond ?_ | refine SW.skip ?_ | refine SW.ret ?_ | refine ⟨_, c, ?_⟩ | (refine allF_i fun b hb => ?_; replace hD := And.intro hb hD; clear hb; try simp only [fresh_cons, fresh_nil, and_true, ne_eq, neF] at hD)); try simp only [Go.Ab.zDC_1, go_sem, hD, hli, hl3, i3, ie, i0, w1, fi, a1, true_implies]) | (apply hK; clear hK K) | (refine And.intro ?_ ?_)
        all_goals
          apply ret_cell (i := 2) (n := 1); exact rfl; (simp only [go_sem, hD]; try rfl); (first | exact Nat.le_refl _ | decide); simp only [resL_tmp, resL_cellE, resC_ok, resL_nil, tupOf, getN, go_sem, hD]
      · have hD := And.intro (u0 g u1) hE
        repeat' first | (refine SW.seq_k fun K hK => ?_) | (refine SW.block ?_) | ((first | refine SW.region ?_ | refine SW.regionZ (id := 5) (Checked.mixed Tryz.checked) Go.Ab.zDC_1 (by kernel_rfl) ?_ | refine SW.cond ?_ | refine SW.skip ?_ | refine SW.ret ?_ | refine ⟨_, c, ?_⟩ | (refine allF_i fun b hb => ?_; replace hD := And.intro hb hD; clear hb; try simp only [fresh_cons, fresh_nil, and_true, ne_eq, neF] at hD)); try simp only [Go.Ab.zDC_1, go_sem, hD, hli, hl3, i3, ie, i0, w1, fi, a1, true_implies]) | (apply hK; clear hK K) | (refine And.intro ?_ ?_)
        all_goals
          apply ret_cell (i := 2) (n := 1); exact rfl; (simp only [go_sem, hD]; try rfl); (first | exact Nat.le_refl _ | decide); simp only [resL_tmp, resL_cellE, resC_ok, resL_nil, tupOf, getN, go_sem, hD]
  · obtain rfl : i = min d.length 3 := by omega
    have hgood : goodD d := fun j hj => hG j hj
    have hV2 : V = .tup [DB (ofT d), SB (decide (d.length ≤ 3))] := by rw [hV]; unfold ofV; exact if_pos hgood
    have hol : (ofT d).length = min d.length 3 := outD_len d _
    have hoD : outD d (min d.length 3) = ofT d := rfl
    rw [hoD] at hB
    clear hV hG hgood hoD
    subst hV2
    apply Ab.SW.le (S' := ⟨[(0, RcL d), (2, .op rb 0), (3, SB false), (4, .op ob 0), (5, I64 (min d.length 3 : Nat))], [(ob, .svs [TL (ofT d)]), (rb, .svs [SN])]⟩)
    · rcases hB with ⟨hm0, rfl⟩ | ⟨hm0, g, u1, rfl⟩
      · have e2 : ofT d = [] := List.eq_nil_of_length_eq_zero (by omega)
        rw [e2]
        have s1 := St.le_nilC (t := [(0, RcL d), (2, .op rb 0), (3, SB false), (4, .op ob 0), (5, I64 (min d.length 3 : Nat))]) (h := [(ob, .svs [SN]), (rb, .svs [SN])]) (c := ob) (j := 0) (sz := 3) (f := tF []) (by rw [find_cons, if_pos rfl]) (by show 0 < 1; omega) rfl
        rw [upd_cons, if_pos rfl] at s1
        exact s1
      · simp only [fresh_cons, fresh_nil, and_true, ne_eq] at u1
        obtain ⟨⟨v1, v2⟩, _⟩ := u1
        have s1 := St.le_freezeC (t := [(0, RcL d), (2, .op rb 0), (3, SB false), (4, .op ob 0), (5, I64 (min d.length 3 : Nat))]) (h := [(g, .svs (fC tC (ofT d))), (ob, .svs [.os g 0 (min d.length 3) 3]), (rb, .svs [SN])]) (c := ob) (j := 0) (b := g) (off := 0) (len := min d.length 3) (sz := 3) (by rw [find_cons, if_neg v2, find_cons, if_pos rfl]) v1 (by show 0 < 1; omega) rfl (by rw [find_cons, if_pos rfl]) (by show 0 + min d.length 3 * 3 ≤ (fC tC (ofT d)).length; rw [← fC_len (enc := tC) (k := 3) (fun _ => rfl)]; omega) (tF (ofT d)) (fun j hj => by
          rw [getN_take _ _ _ (by show 0 + j * 3 + 3 ≤ (fC tC (ofT d)).length; have := fC_lt (enc := tC) (k := 3) (fun _ => rfl) (show j < (ofT d).length by omega) (show 2 < 3 by omega); omega), Nat.zero_add]
          exact fC_at (enc := tC) (k := 3) (fun _ => rfl) t0 (ofT d) j (by omega))
        rw [del_cons, if_pos rfl, upd_cons, if_pos rfl] at s1
        rw [show TL (ofT d) = .fl (min d.length 3) 3 (tF (ofT d)) by unfold TL; rw [hol]]
        exact s1
    · have hD := hE
      generalize ofT d = T at *
      by_cases h3 : d.length < 3
      · have hmi : min d.length 3 = d.length := by omega
        have hli : ¬ ((d.length : Nat) : Int) < ((d.length : Nat) : Int) := by omega
        have hle : ((d.length : Nat) : Int) ≤ 3 := by omega
        have hle2 : d.length ≤ 3 := by omega
        rw [hmi]
        repeat' first | (refine SW.seq_k fun K hK => ?_) | ((first | refine SW.region ?_ | refine SW.cond ?_ | refine SW.exit ?_ | refine SW.ret ?_); try simp only [go_sem, hD, hli, hle, hle2, true_implies]) | (apply hK; clear hK K) | (clear hK K; apply hK; clear hK K)
        all_goals
          apply ret_cell (i := 2) (n := 1); exact rfl; (simp only [go_sem, hD]; try rfl); (first | exact Nat.le_refl _ | decide); simp only [resL_tmp, resL_cellE, resC_ok, resL_nil, tupOf, getN, go_sem, hD]
      · have hmi : min d.length 3 = 3 := by omega
        have hli : (3 : Int) < ((d.length : Nat) : Int) ∨ ¬ (3 : Int) < ((d.length : Nat) : Int) := by omega
        have h33 : ((3 : Nat) : Int) = 3 := rfl
        have hdi : decide (((d.length : Nat) : Int) ≤ 3) = decide (d.length ≤ 3) := by rw [Bool.eq_iff_iff, decide_eq_true_iff, decide_eq_true_iff]; omega
        rw [hmi, h33]
        rcases hli with hli | hli
        · repeat' first | (refine SW.seq_k fun K hK => ?_) | ((first | refine SW.region ?_ | refine SW.cond ?_ | refine SW.exit ?_ | refine SW.ret ?_); try simp only [go_sem, hD, hli, hdi, true_implies]) | (apply hK; clear hK K) | (clear hK K; apply hK; clear hK K)
          all_goals
            apply ret_cell (i := 2) (n := 1); exact rfl; (simp only [go_sem, hD]; try rfl); (first | exact Nat.le_refl _ | decide); simp only [resL_tmp, resL_cellE, resC_ok, resL_nil, tupOf, getN, go_sem, hD]
        · repeat' first | (refine SW.seq_k fun K hK => ?_) | ((first | refine SW.region ?_ | refine SW.cond ?_ | refine SW.exit ?_ | refine SW.ret ?_); try simp only [go_sem, hD, hli, hdi, true_implies]) | (apply hK; clear hK K) | (clear hK K; apply hK; clear hK K)
          all_goals
            apply ret_cell (i := 2) (n := 1); exact rfl; (simp only [go_sem, hD]; try rfl); (first | exact Nat.le_refl _ | decide); simp only [resL_tmp, resL_cellE, resC_ok, resL_nil, tupOf, getN, go_sem, hD]
end Go.Proofs.YtpidncgibgiidaaGreat
namespace Go.Ab.A15
open Go Go.Ab Go.Ab.A34
end Go.Ab.A15
namespace Go.Proofs.YtpidncgibgiidaaGreat
open Go Go.Ab Go.Ab.A34 Go.Ab.A15
variable [Gl] [Tabs]
end Go.Proofs.YtpidncgibgiidaaGreat
namespace Go.Ab.A15
open Go Go.Ab Go.Ab.A34
end Go.Ab.A15
namespace Go.Proofs.YtpidncgibgiidaaGreat
open Go Go.Ab Go.Ab.A34 Go.Ab.A15
variable [Gl] [Tabs]
end Go.Proofs.YtpidncgibgiidaaGreat
namespace Go.Ab.A15
open Go Go.Ab Go.Ab.A34
def cmpI (x y : Int) : Int := if x < y then -1 else if y < x then 1 else 0
def lexI : List Int → List Int → Int
  | [], [] => 0
  | [], _ :: _ => -1
  | _ :: _, [] => 1
  | x :: a, y :: b => if cmpI x y = 0 then lexI a b else cmpI x y
theorem lexI_step {a b : List Int} {i : Nat} (h : i < a.length) : lexI (a.drop i) (b.drop i) = if i < b.length then (if cmpI (a.getD i 0) (b.getD i 0) = 0 then lexI (a.drop (i + 1)) (b.drop (i + 1)) else cmpI (a.getD i 0) (b.getD i 0)) else 1 := by
  have g : a.getD i 0 = a[i] := by simp [List.getD_eq_getElem?_getD, h]
  rw [List.drop_eq_getElem_cons h, g]
  by_cases hb : i < b.length
  · have g2 : b.getD i 0 = b[i] := by simp [List.getD_eq_getElem?_getD, hb]
    rw [List.drop_eq_getElem_cons hb, g2, if_pos hb]
    rfl
  · rw [if_neg hb, List.drop_of_length_le (show b.length ≤ i by omega)]
    rfl
theorem lexI_end {a b : List Int} {i : Nat} (h : a.length ≤ i) : lexI (a.drop i) (b.drop i) = if i < b.length then -1 else 0 := by
  rw [List.drop_of_length_le h]
  by_cases hb : i < b.length
  · rw [List.drop_eq_getElem_cons hb, if_pos hb]
    rfl
  · rw [if_neg hb, List.drop_of_length_le (show b.length ≤ i by omega)]
    rfl
end Go.Ab.A15
namespace Go.Proofs.YtpidncgibgiidaaGreat
open Go Go.Ab Go.Ab.A34 Go.Ab.A15
variable [Gl] [Tabs]
end Go.Proofs.YtpidncgibgiidaaGreat
namespace Go.Ab
open Go
theorem PCall.nilA [Gl] {P : Program} {f : FuncId} {args : List SV} {r : SV} (i : Nat) {sz : Nat} {g : Nat → List SV} (hi : i < args.length) (ha : args.getD i .any = .sc (.slice none 0 0)) (hc : PCall P f (args.set i (.fl 0 sz g)) r) : PCall P f args r := by
  refine Call.le (fun c hc => hc) (fun M w vs own hr => ⟨own, by simpa using hr.1, fun j hj => ?_⟩) hc
  rw [getD_set hi]
  have h0 := hr.2 j (by simpa using hj)
  by_cases hij : i = j
  · subst hij
    rw [if_pos rfl]
    rw [ha] at h0
    exact Rep.fl_nil h0
  · rw [if_neg hij]; exact h0
end Go.Ab
namespace Go.Ab.A15
open Go Go.Ab Go.Ab.A34
end Go.Ab.A15
namespace Go.Proofs.YtpidncgibgiidaaGreat
open Go Go.Ab Go.Ab.A34 Go.Ab.A15
variable [Gl] [Tabs]
end Go.Proofs.YtpidncgibgiidaaGreat
namespace Go.Ab
open Go.RowKit
theorem St.le_slist [Gl] {t : List (Nat × SV)} {h h' : Heap} (hs : h'.Sublist h) : (St.mk t h).le ⟨t, h'⟩ := St.le_sublist (fun _ hx => hs.subset hx) (fun hn => (hs.map _).nodup hn)
end Go.Ab
namespace Go.Ab.A15
open Go Go.Ab Go.Ab.A34
def vE (db : List Tb) (d : Dp) : Int := if ¬ chkS db = 0 then chkS db else fitsS db d
def rowsAt (db : List Tb) (x : ByteArray) : List R3 := (db.getD (idxN x (nmsOf db)) t0).rows
def OkN (db : List Tb) : Prop := ∀ t ∈ db, ∀ r ∈ t.rows, ∀ v ∈ r.2, inV v
theorem vE_ok {db : List Tb} {d : Dp} (h : vE db d = 0) : Vdb db ∧ Fit (nmsOf db) (nsOf db) d := by
  unfold vE at h
  by_cases h1 : chkS db = 0
  · rw [if_neg (fun x => x h1)] at h
    exact ⟨chkS_ok h1, fits_ok h⟩
  · rw [if_pos h1] at h
    exact absurd h h1
structure RowsK (db : List Tb) (x : ByteArray) (R : List R3) : Prop where
  n : R.length ≤ 1000
  l : ∀ r ∈ R, r.2.length = (nsOf db).getD (idxN x (nmsOf db)) 0
  v : ∀ r ∈ R, ∀ v ∈ r.2, okV v = true
theorem rows_k {db : List Tb} (V : Vdb db) {x : ByteArray} (h : x ∈ nmsOf db) : RowsK db x (rowsAt db x) := by
  have hl := idxN_lt h
  have hl2 : idxN x (nmsOf db) < db.length := by unfold nmsOf at hl; rwa [List.length_map] at hl
  have hv := valid_rows (V.v _ (getD_mem' t0 hl2))
  have hns : (nsOf db).getD (idxN x (nmsOf db)) 0 = (db.getD (idxN x (nmsOf db)) t0).attrs.length := by
    unfold nsOf
    simp [List.getD_eq_getElem?_getD, hl2]
  exact ⟨hv.1, fun r hr => by rw [hns]; exact (hv.2.2 r hr).1, fun r hr => (hv.2.2 r hr).2⟩
theorem rows_n {db : List Tb} (hn : OkN db) {x : ByteArray} (h : x ∈ nmsOf db) : ∀ r ∈ rowsAt db x, ∀ v ∈ r.2, inV v := by
  have hl := idxN_lt h
  have hl2 : idxN x (nmsOf db) < db.length := by unfold nmsOf at hl; rwa [List.length_map] at hl
  exact hn _ (getD_mem' t0 hl2)
end Go.Ab.A15
def Go.Ab.zHC_1 : Go.Ab.OZ := (.one 0 [0, 1, 2, 3, 4, 5, 6, 7, 8, 9, 10, 11, 12, 13, 14, 15] (.one 1 [1, 2, 3, 4, 5, 6, 7, 8, 9, 10, 11, 12, 13, 14, 15] (.one 2 [2, 13, 14, 15] (.one 3 [3, 4, 6, 7, 13, 14, 15] (.one 4 [4, 6, 7, 13, 14, 15] (.one 5 [5, 6, 7, 13, 14, 15] (.one 6 [6, 7, 13, 14, 15] (.one 7 [7, 13, 14, 15] (.one 8 [8, 9, 11, 12, 13, 14, 15] (.one 9 [9, 11, 12, 13, 14, 15] (.one 10 [10, 11, 12, 13, 14, 15] (.one 11 [11, 12, 13, 14, 15] (.one 12 [12, 13, 14, 15] (.one 13 [13, 14, 15] (.one 14 [14, 15] (.one 15 [15] .done))))))))))))))))
namespace Go.Proofs.YtpidncgibgiidaaGreat
open Go Go.Ab Go.Ab.A34 Go.Ab.A15
variable [Gl] [Tabs]
theorem viol_rbad (db : List Tb) (d : Dp) (hdb : db.length ≤ 9223372036854775807) (hok : OkDb db) (hd : OkD d) (h : ¬ vE db d = 0) : PCall Tryz.prog 66 [DB db, DV d] (.tup [SN, I64 (vE db d)]) := by
  have c := valid_ir db d hdb hok hd
  rw [show (if ¬ chkS db = 0 then chkS db else fitsS db d) = vE db d from rfl] at c
  generalize vE db d = v at *
  obtain ⟨df, dl, dt, dr⟩ := d
  refine Call.enter' (N := 78) (rs := [.tmp 4, .tmp 5]) Tryz.func66 rfl rfl rfl (by decide) rfl ?_; simp only [argT]; have hD : (0 : Nat) = 0 := rfl
  repeat' first | (refine SW.seq_k fun K hK => ?_) | ((first | refine SW.region ?_ | refine SW.cond ?_ | refine SW.ret ?_ | refine Call.of_pure (c) ?_ | (refine allF_i fun b hb => ?_; replace hD := And.intro hb hD; clear hb; try simp only [fresh_cons, fresh_nil, and_true, ne_eq, neF] at hD)); try simp only [go_sem, hD, h, true_implies]) | (apply hK; clear hK K)
  refine ret_pure ?_; simp only [resL_tmp, resL_nil, tupOf, go_sem, hD]
theorem viol_r (db : List Tb) (d : Dp) (hdb : db.length ≤ 9223372036854775807) (hok : OkDb db) (hd : OkD d) (h : vE db d = 0) : PCall Tryz.prog 66 [DB db, DV d] (.tup [IL (violS (rowsAt db d.f) (rowsAt db d.t) d.l d.r), I64 0]) := by
  have c := valid_ir db d hdb hok hd
  rw [show (if ¬ chkS db = 0 then chkS db else fitsS db d) = vE db d from rfl, h] at c
  obtain ⟨V, F⟩ := vE_ok h
  have kf := rows_k V F.f
  have kt := rows_k V F.t
  have l1 := idxN_lt F.f
  have l2 := idxN_lt F.t
  have nl : (nmsOf db).length = db.length := by unfold nmsOf; rw [List.length_map]
  rw [nl] at l1 l2
  have c1 := table_r d.f db db.length (by omega) rfl (tF db) (fun i hi => rfl)
  have c2 := table_r d.t db db.length (by omega) rfl (tF db) (fun i hi => rfl)
  have e1 := tabI_idx (i := 0) F.f
  have e2 := tabI_idx (i := 0) F.t
  rw [Nat.zero_add] at e1 e2
  rw [e1] at c1
  rw [e2] at c2
  have b16 := in16_len F.nl (F.in16l V)
  have pr := fun x (hx : x ∈ rowsAt db d.f) y (hy : y ∈ rowsAt db d.t) => partner_r d x y F.lr (by omega) (fun a ha => by rw [kf.l x hx]; exact F.l a ha) (fun a ha => by rw [kt.l y hy]; exact F.r a ha) (kf.v x hx) (kt.v y hy)
  have kfn := kf.n
  have ktn := kt.n
  unfold rowsAt at pr kfn ktn ⊢
  have ff : tF db (idxN d.f (nmsOf db)) = tC (db.getD (idxN d.f (nmsOf db)) t0) := rfl
  have ft : tF db (idxN d.t (nmsOf db)) = tC (db.getD (idxN d.t (nmsOf db)) t0) := rfl
  clear kf kt F V e1 e2 h
  generalize idxN d.f (nmsOf db) = p at *
  generalize idxN d.t (nmsOf db) = q at *
  have p1 : ((p : Nat) : Int) < ((db.length : Nat) : Int) := by omega
  have q1 : ((q : Nat) : Int) < ((db.length : Nat) : Int) := by omega
  have p0 : (0 : Int) ≤ ((p : Nat) : Int) := by omega
  have q0 : (0 : Int) ≤ ((q : Nat) : Int) := by omega
  have pe : ((p : Nat) : Int).toNat = p := Int.toNat_natCast _
  have qe : ((q : Nat) : Int).toNat = q := Int.toNat_natCast _
  generalize db.getD p t0 = tp at *
  generalize db.getD q t0 = tq at *
  obtain ⟨pn, pa, fr⟩ := tp
  obtain ⟨qn, qa, tr⟩ := tq
  obtain ⟨df, dl, dt, dr⟩ := d
  simp only at pr kfn ktn c1 c2 ⊢
  obtain ⟨W, hW⟩ : ∃ W, W = violP fr tr dl dr := ⟨_, rfl⟩
  have hWs := fun i hi => @violP_succ fr tr dl dr i hi
  have hWl := violP_len fr tr dl dr
  have hWe : violS fr tr dl dr = W fr.length := by rw [hW]; rfl
  have hW0 : W 0 = [] := by rw [hW]; rfl
  rw [← hW] at hWs hWl
  rw [hWe]
  clear hW hWe
  refine Call.enter' (N := 78) (rs := [.tmp 4, .tmp 5]) Tryz.func66 rfl rfl rfl (by decide) rfl ?_; simp only [argT]; have hD : (0 : Nat) = 0 := rfl
  repeat' first | (refine SW.seq_k fun K hK => ?_) | ((first | refine SW.region ?_ | refine SW.cond ?_ | refine SW.skip ?_ | refine Call.of_pure (c) ?_ | (refine allF_i fun b hb => ?_; replace hD := And.intro hb hD; clear hb; try simp only [fresh_cons, fresh_nil, and_true, ne_eq, neF] at hD)); try simp only [go_sem, hD, true_implies]) | (apply hK; clear hK K)
  obtain ⟨b3, rfl⟩ : ∃ x, x = b := ⟨_, rfl⟩
  obtain ⟨b2, rfl⟩ : ∃ x, x = b := ⟨_, rfl⟩
  refine Ab.SW.le (S' := ⟨[(2, .fp [TL db]), (3, .fp [Str df, IL dl, Str dt, IL dr]), (4, SN), (5, I64 0)], []⟩) ?_ ?_
  · refine St.le.trans (St.le_freezeP (i := 3) (b := b3) (off := 0) (n := 4) (k := .svs [Str df, IL dl, Str dt, IL dr]) rfl (by simp [find_cons, hD]) (by exact Nat.le_refl 4)) ?_
    simp only [getN, Blk.get, go_sem, hD]
    refine St.le.trans (St.le_freezeP (i := 2) (b := b2) (off := 0) (n := 1) (k := .svs [TL db]) rfl (by simp [find_cons, hD]) (by exact Nat.le_refl 1)) ?_
    simp only [getN, Blk.get, go_sem, hD]
    exact St.le_sub (by repeat' (first | exact rfl | exact trivial | constructor))
  clear hD
  have hD : (0 : Nat) = 0 := rfl
  have key : ∃ C Q', (∀ S, Ab.SW Tryz.prog 78 C Q' S → K S) ∧ Ab.SW Tryz.prog 78 C Q' ⟨[(2, .fp [TL db]), (3, .fp [Str df, IL dl, Str dt, IL dr]), (4, SN), (5, I64 0), (7, .fp [Str pn, SL pa, RL fr]), (8, .fp [Str qn, SL qa, RL tr])], []⟩ := by
    refine ⟨_, _, hK, ?_⟩
    clear hK K c c1 c2
    repeat' first | (refine SW.seq_k fun K hK => ?_) | (refine SW.block ?_) | (refine SW.region ?_; try simp only [go_sem, hD, true_implies]) | (apply hK; clear hK K)
    obtain ⟨I, hI⟩ : ∃ I : Nat → St → Prop, ∀ k S, I k S ↔ (∃ (i : Nat) (x : SV) (h : Heap), k = fr.length - i ∧ i ≤ fr.length ∧ ((W i = [] ∧ x = SN ∧ h = []) ∨ ∃ g, x = .os g 0 (W i).length 1 ∧ h = [(g, .ints .i64 (W i))]) ∧ S = ⟨[(2, .fp [TL db]), (3, .fp [Str df, IL dl, Str dt, IL dr]), (4, SN), (5, I64 0), (7, .fp [Str pn, SL pa, RL fr]), (8, .fp [Str qn, SL qa, RL tr]), (9, x), (10, I64 i)], h⟩) := ⟨fun k S => _, fun _ _ => Iff.rfl⟩
    refine SW.loop' I (fr.length) ((hI _ _).2 ⟨0, SN, [], rfl, Nat.zero_le _, .inl ⟨hW0, rfl, rfl⟩, rfl⟩) (by repeat' (first | exact rfl | exact trivial | constructor)) ?_
    intro k S hIn
    obtain ⟨i, x, h, rfl, hi, hB, rfl⟩ := (hI _ _).1 hIn
    clear hIn
    have ie : ((i : Nat) : Int).toNat = i := Int.toNat_natCast _
    have i0 : (0 : Int) ≤ ((i : Nat) : Int) := by omega
    by_cases hlt : i < fr.length
    · have hli : ((i : Nat) : Int) < (((fr.length) : Nat) : Int) := by omega
      have w1 : IntKind.i64.wrap ((i : Int) + 1) = ((i + 1 : Nat) : Int) := by rw [i64_wrap (by omega) (by omega)]; omega
      have fi : rF fr i = [I64 (fr.getD i r0).1, VL (fr.getD i r0).2] := rfl
      have hx := pr _ (getD_mem r0 hlt)
      have hst := hWs i hlt
      have hwl := hWl i
      generalize hA : (fun y : R3 => agB dl dr (fr.getD i r0).2 y.2) = A at *
      have hAy : ∀ y, A y = agB dl dr (fr.getD i r0).2 y.2 := fun y => by rw [← hA]
      simp only [← hAy] at hx
      generalize fr.getD i r0 = xr at *
      obtain ⟨xi, xs⟩ := xr
      simp only at hx hst fi
      have hIO := hI
      have ow1 := w1
      have oi0 := i0
      have oie := ie
      have oli := hli
      clear hI
      repeat' first | (refine SW.seq_k fun K hK => ?_) | (refine SW.block ?_) | ((first | refine SW.region ?_ | refine SW.cond ?_ | refine SW.skip ?_); try simp only [go_sem, hD, hli, true_implies]) | (apply hK; clear hK K)
      obtain ⟨I, hI⟩ : ∃ I : Nat → St → Prop, ∀ k S, I k S ↔ (∃ (k2 : Nat) , k = tr.length - k2 ∧ k2 ≤ tr.length ∧ S = ⟨[(2, .fp [TL db]), (3, .fp [Str df, IL dl, Str dt, IL dr]), (4, SN), (5, I64 0), (7, .fp [Str pn, SL pa, RL fr]), (8, .fp [Str qn, SL qa, RL tr]), (9, x), (10, I64 i), (11, SB ((tr.take k2).any A)), (12, I64 k2)], h⟩) := ⟨fun k S => _, fun _ _ => Iff.rfl⟩
      refine SW.loop' I (tr.length) ((hI _ _).2 ⟨0, rfl, Nat.zero_le _, rfl⟩) (by repeat' (first | exact rfl | exact trivial | constructor)) ?_
      intro k S hIn
      obtain ⟨k2, rfl, hi, rfl⟩ := (hI _ _).1 hIn
      clear hIn
      have ie : ((k2 : Nat) : Int).toNat = k2 := Int.toNat_natCast _
      have i0 : (0 : Int) ≤ ((k2 : Nat) : Int) := by omega
      by_cases hlk : k2 < tr.length
      · have hli : ((k2 : Nat) : Int) < (((tr.length) : Nat) : Int) := by omega
        have w1 : IntKind.i64.wrap ((k2 : Int) + 1) = ((k2 + 1 : Nat) : Int) := by rw [i64_wrap (by omega) (by omega)]; omega
        have fk : rF tr k2 = [I64 (tr.getD k2 r0).1, VL (tr.getD k2 r0).2] := rfl
        have hp := hx _ (getD_mem r0 hlk)
        have has := any_succ (p := A) hlk
        generalize tr.getD k2 r0 = yr at *
        obtain ⟨yi, ys⟩ := yr
        simp only at hp fk
        generalize A (yi, ys) = av at *
        generalize hfo : (tr.take k2).any A = fo at *
        generalize hfo2 : (tr.take (k2 + 1)).any A = fo2 at *
        cases fo with
        | true =>
          obtain rfl : fo2 = true := by rw [has]; rfl
          repeat' first | (refine SW.seq_k fun K hK => ?_) | (refine SW.block ?_) | ((first | refine SW.region ?_ | refine SW.regionZ (id := 13) (Checked.mixed Tryz.checked) Go.Ab.zHC_1 (by kernel_rfl) ?_ | refine SW.cond ?_ | refine SW.skip ?_); try simp only [Go.Ab.zHC_1, go_sem, hD, hli, ie, i0, w1, oli, oie, oi0, fi, fk, true_implies]) | (apply hK; clear hK K)
          all_goals
            refine Rnd.sub (tr.length - (k2 + 1)) (by omega) ((hI _ _).2 ⟨k2 + 1, rfl, by omega, by rw [hfo2]⟩) (by repeat' (first | exact rfl | exact trivial | constructor))
        | false =>
          obtain rfl : fo2 = av := by rw [has]; rfl
          repeat' first | (refine SW.seq_k fun K hK => ?_) | (refine SW.block ?_) | ((first | refine SW.region ?_ | refine SW.regionZ (id := 13) (Checked.mixed Tryz.checked) Go.Ab.zHC_1 (by kernel_rfl) ?_ | refine SW.cond ?_ | refine SW.skip ?_ | refine ⟨_, hp, ?_⟩); try simp only [Go.Ab.zHC_1, go_sem, hD, hli, ie, i0, w1, oli, oie, oi0, fi, fk, true_implies]) | (apply hK; clear hK K)
          all_goals
            refine Rnd.sub (tr.length - (k2 + 1)) (by omega) ((hI _ _).2 ⟨k2 + 1, rfl, by omega, by rw [hfo2]⟩) (by repeat' (first | exact rfl | exact trivial | constructor))
      · have hli : ¬ ((k2 : Nat) : Int) < (((tr.length) : Nat) : Int) := by omega
        obtain rfl : k2 = tr.length := by omega
        rw [List.take_length]
        generalize hfo : tr.any A = fo at *
        cases fo with
        | true =>
          rw [if_pos rfl] at hst
          repeat' first | (refine SW.seq_k fun K hK => ?_) | ((first | refine SW.region ?_ | refine SW.cond ?_ | refine SW.skip ?_ | refine SW.exit ?_); try simp only [go_sem, hD, hli, ow1, true_implies]) | (apply hK; clear hK K) | (clear hK K; apply hK; clear hK K)
          refine Rnd.sub (fr.length - (i + 1)) (by omega) ((hIO _ _).2 ⟨i + 1, x, h, rfl, by omega, by rw [hst]; exact hB, rfl⟩) (by repeat' (first | exact rfl | exact trivial | constructor))
        | false =>
          rw [if_neg (by simp)] at hst
          have ba : ((W i).length + 1) * 8 ≤ 140737488355328 := by omega
          rcases hB with ⟨hw0, rfl, rfl⟩ | ⟨g, rfl, rfl⟩
          · have hst2 : W (i + 1) = [xi] := by rw [hst, hw0]; rfl
            repeat' first | (with_reducible refine And.intro (by omega) ?_) | (refine SW.seq_k fun K hK => ?_) | ((first | refine SW.region ?_ | refine SW.cond ?_ | refine SW.exit ?_ | (refine allF_i fun b hb => ?_; replace hD := And.intro hb hD; clear hb; try simp only [fresh_cons, fresh_nil, and_true, ne_eq, neF] at hD) | simp only [appK, appOsK]); try simp only [go_sem, hD, hli, ow1, oli, oie, oi0, fi, ba, true_implies]) | (refine And.intro (by omega) ?_) | (apply hK; clear hK K) | (clear hK K; apply hK; clear hK K)
            refine Rnd.le (St.le_slist (List.Sublist.cons_cons _ (List.Sublist.cons _ (List.Sublist.refl _)))) ?_
            refine Rnd.sub (fr.length - (i + 1)) (by omega) ((hIO _ _).2 ⟨i + 1, .os b 0 1 1, [(b, .ints .i64 [xi])], rfl, by omega, .inr ⟨b, by rw [hst2]; rfl, by rw [hst2]⟩, rfl⟩) (by repeat' (first | exact rfl | exact trivial | constructor))
          · have hst2 : (W (i + 1)).length = (W i).length + 1 := by rw [hst, List.length_append]; rfl
            repeat' first | (with_reducible refine And.intro (by omega) ?_) | (refine SW.seq_k fun K hK => ?_) | ((first | refine SW.region ?_ | refine SW.cond ?_ | refine SW.exit ?_ | (refine allF_i fun b hb => ?_; replace hD := And.intro hb hD; clear hb; try simp only [fresh_cons, fresh_nil, and_true, ne_eq, neF] at hD) | simp only [appK, appOsK]); try simp only [go_sem, hD, hli, ow1, oli, oie, oi0, fi, ba, true_implies]) | (apply hK; clear hK K) | (clear hK K; apply hK; clear hK K)
            refine Rnd.le (St.le_slist (List.Sublist.cons _ (List.Sublist.refl _))) ?_
            refine Rnd.sub (fr.length - (i + 1)) (by omega) ((hIO _ _).2 ⟨i + 1, .os b 0 ((W i).length + 1) 1, [(b, .ints .i64 (W i ++ [xi]))], rfl, by omega, .inr ⟨b, by rw [hst2], by rw [hst]⟩, rfl⟩) (by repeat' (first | exact rfl | exact trivial | constructor))
    · have hli : ¬ ((i : Nat) : Int) < (((fr.length) : Nat) : Int) := by omega
      obtain rfl : i = fr.length := by omega
      generalize W fr.length = R at *
      rcases hB with ⟨rfl, rfl, rfl⟩ | ⟨g, rfl, rfl⟩
      · repeat' first | (refine SW.seq_k fun K hK => ?_) | ((first | refine SW.region ?_ | refine SW.cond ?_ | refine SW.exit ?_ | refine SW.ret ?_); try simp only [go_sem, hD, hli, true_implies]) | (apply hK; clear hK K) | (clear hK K; apply hK; clear hK K)
        refine retQ_le (St.le_say (i := 4) (v := IL []) (fun E u hr => Rep.fl_nil hr)) ?_
        simp only [resL_tmp, resL_nil, tupOf, go_sem, hD]
        try exact rfl
      · repeat' first | (refine SW.seq_k fun K hK => ?_) | ((first | refine SW.region ?_ | refine SW.cond ?_ | refine SW.exit ?_ | refine SW.ret ?_); try simp only [go_sem, hD, hli, true_implies]) | (apply hK; clear hK K) | (clear hK K; apply hK; clear hK K)
        refine retQ_le (St.le_ints (i := 4) .i64 R rfl rfl (by rw [find_cons, if_pos rfl]) rfl) ?_
        rw [del_head]
        simp only [resL_tmp, resL_nil, tupOf, go_sem, hD]
        try exact rfl
  obtain ⟨C, Q', hK2, key⟩ := key
  clear hK
  repeat' first | ((first | refine SW.regionZ (id := 4) (Checked.mixed Tryz.checked) ((.one 0 [0, 1, 7, 8, 20, 21] (.one 1 [1, 7, 8, 20, 21] (.one 2 [2, 3, 6, 7, 8, 15, 16, 17, 20, 21] (.one 3 [3, 6, 7, 8, 15, 16, 17, 20, 21] (.one 4 [4, 5, 6, 7, 8, 15, 16, 17, 20, 21] (.one 5 [5, 6, 7, 8, 15, 16, 17, 20, 21] (.one 6 [6, 7, 8, 15, 16, 17, 20, 21] (.one 7 [7, 8, 20, 21] (.one 8 [8, 20, 21] (.one 11 [11, 12, 15, 16, 17, 20, 21] (.one 12 [12, 15, 16, 17, 20, 21] (.one 13 [13, 14, 15, 16, 17, 20, 21] (.one 14 [14, 15, 16, 17, 20, 21] (.one 15 [15, 16, 17, 20, 21] (.alt 9 (.alt 10 (.alt 16 (.alt 17 (.alt 18 (.alt 19 (.alt 20 (.alt 21 .done .nil) .nil) .nil) (.alt 19 (.alt 18 (.alt 20 (.alt 21 .done .nil) .nil) .nil) .nil)) (.alt 18 (.alt 17 (.alt 19 (.alt 20 (.alt 21 .done .nil) .nil) .nil) (.alt 19 (.alt 17 (.alt 20 (.alt 21 .done .nil) .nil) (.alt 20 (.one 17 [17, 21] (.alt 21 .done .nil)) .nil)) .nil)) (.alt 19 (.alt 17 (.alt 18 (.alt 20 (.alt 21 .done .nil) .nil) .nil) (.alt 18 (.alt 17 (.alt 20 (.alt 21 .done .nil) .nil) (.alt 20 (.one 17 [17, 21] (.alt 21 .done .nil)) .nil)) .nil)) .nil))) (.alt 18 (.alt 16 (.alt 17 (.alt 19 (.alt 20 (.alt 21 .done .nil) .nil) .nil) (.alt 19 (.alt 17 (.alt 20 (.alt 21 .done .nil) .nil) (.alt 20 (.one 17 [17, 21] (.alt 21 .done .nil)) .nil)) .nil)) (.alt 19 (.alt 16 (.alt 17 (.alt 20 (.alt 21 .done .nil) .nil) (.alt 20 (.one 17 [17, 21] (.alt 21 .done .nil)) .nil)) (.alt 20 (.one 16 [16, 17, 21] (.one 17 [17, 21] (.alt 21 .done .nil))) .nil)) .nil)) (.alt 19 (.alt 16 (.alt 17 (.alt 18 (.alt 20 (.alt 21 .done .nil) .nil) .nil) (.alt 18 (.alt 17 (.alt 20 (.alt 21 .done .nil) .nil) (.alt 20 (.one 17 [17, 21] (.alt 21 .done .nil)) .nil)) .nil)) (.alt 18 (.alt 16 (.alt 17 (.alt 20 (.alt 21 .done .nil) .nil) (.alt 20 (.one 17 [17, 21] (.alt 21 .done .nil)) .nil)) (.alt 20 (.one 16 [16, 17, 21] (.one 17 [17, 21] (.alt 21 .done .nil))) .nil)) .nil)) .nil))) (.alt 18 (.alt 10 (.alt 16 (.alt 17 (.alt 19 (.alt 20 (.alt 21 .done .nil) .nil) .nil) (.alt 19 (.alt 17 (.alt 20 (.alt 21 .done .nil) .nil) (.alt 20 (.one 17 [17, 21] (.alt 21 .done .nil)) .nil)) .nil)) (.alt 19 (.alt 16 (.alt 17 (.alt 20 (.alt 21 .done .nil) .nil) (.alt 20 (.one 17 [17, 21] (.alt 21 .done .nil)) .nil)) (.alt 20 (.one 16 [16, 17, 21] (.one 17 [17, 21] (.alt 21 .done .nil))) .nil)) .nil)) (.alt 19 (.alt 10 (.alt 16 (.alt 17 (.alt 20 (.alt 21 .done .nil) .nil) (.alt 20 (.one 17 [17, 21] (.alt 21 .done .nil)) .nil)) (.alt 20 (.one 16 [16, 17, 21] (.one 17 [17, 21] (.alt 21 .done .nil))) .nil)) (.alt 20 (.one 10 [10, 16, 17, 21] (.one 16 [16, 17, 21] (.one 17 [17, 21] (.alt 21 .done .nil)))) .nil)) .nil)) (.alt 19 (.alt 10 (.alt 16 (.alt 17 (.alt 18 (.alt 20 (.alt 21 .done .nil) .nil) .nil) (.alt 18 (.alt 17 (.alt 20 (.alt 21 .done .nil) .nil) (.alt 20 (.one 17 [17, 21] (.alt 21 .done .nil)) .nil)) .nil)) (.alt 18 (.alt 16 (.alt 17 (.alt 20 (.alt 21 .done .nil) .nil) (.alt 20 (.one 17 [17, 21] (.alt 21 .done .nil)) .nil)) (.alt 20 (.one 16 [16, 17, 21] (.one 17 [17, 21] (.alt 21 .done .nil))) .nil)) .nil)) (.alt 18 (.alt 10 (.alt 16 (.alt 17 (.alt 20 (.alt 21 .done .nil) .nil) (.alt 20 (.one 17 [17, 21] (.alt 21 .done .nil)) .nil)) (.alt 20 (.one 16 [16, 17, 21] (.one 17 [17, 21] (.alt 21 .done .nil))) .nil)) (.alt 20 (.one 10 [10, 16, 17, 21] (.one 16 [16, 17, 21] (.one 17 [17, 21] (.alt 21 .done .nil)))) .nil)) .nil)) .nil))) (.alt 18 (.alt 9 (.alt 10 (.alt 16 (.alt 17 (.alt 19 (.alt 20 (.alt 21 .done .nil) .nil) .nil) (.alt 19 (.alt 17 (.alt 20 (.alt 21 .done .nil) .nil) (.alt 20 (.one 17 [17, 21] (.alt 21 .done .nil)) .nil)) .nil)) (.alt 19 (.alt 16 (.alt 17 (.alt 20 (.alt 21 .done .nil) .nil) (.alt 20 (.one 17 [17, 21] (.alt 21 .done .nil)) .nil)) (.alt 20 (.one 16 [16, 17, 21] (.one 17 [17, 21] (.alt 21 .done .nil))) .nil)) .nil)) (.alt 19 (.alt 10 (.alt 16 (.alt 17 (.alt 20 (.alt 21 .done .nil) .nil) (.alt 20 (.one 17 [17, 21] (.alt 21 .done .nil)) .nil)) (.alt 20 (.one 16 [16, 17, 21] (.one 17 [17, 21] (.alt 21 .done .nil))) .nil)) (.alt 20 (.one 10 [10, 16, 17, 21] (.one 16 [16, 17, 21] (.one 17 [17, 21] (.alt 21 .done .nil)))) .nil)) .nil)) (.alt 19 (.alt 9 (.alt 10 (.alt 16 (.alt 17 (.alt 20 (.alt 21 .done .nil) .nil) (.alt 20 (.one 17 [17, 21] (.alt 21 .done .nil)) .nil)) (.alt 20 (.one 16 [16, 17, 21] (.one 17 [17, 21] (.alt 21 .done .nil))) .nil)) (.alt 20 (.one 10 [10, 16, 17, 21] (.one 16 [16, 17, 21] (.one 17 [17, 21] (.alt 21 .done .nil)))) .nil)) (.alt 20 (.one 9 [9, 10, 16, 17, 21] (.one 10 [10, 16, 17, 21] (.one 16 [16, 17, 21] (.one 17 [17, 21] (.alt 21 .done .nil))))) .nil)) .nil)) (.alt 19 (.alt 9 (.alt 10 (.alt 16 (.alt 17 (.alt 18 (.alt 20 (.alt 21 .done .nil) .nil) .nil) (.alt 18 (.alt 17 (.alt 20 (.alt 21 .done .nil) .nil) (.alt 20 (.one 17 [17, 21] (.alt 21 .done .nil)) .nil)) .nil)) (.alt 18 (.alt 16 (.alt 17 (.alt 20 (.alt 21 .done .nil) .nil) (.alt 20 (.one 17 [17, 21] (.alt 21 .done .nil)) .nil)) (.alt 20 (.one 16 [16, 17, 21] (.one 17 [17, 21] (.alt 21 .done .nil))) .nil)) .nil)) (.alt 18 (.alt 10 (.alt 16 (.alt 17 (.alt 20 (.alt 21 .done .nil) .nil) (.alt 20 (.one 17 [17, 21] (.alt 21 .done .nil)) .nil)) (.alt 20 (.one 16 [16, 17, 21] (.one 17 [17, 21] (.alt 21 .done .nil))) .nil)) (.alt 20 (.one 10 [10, 16, 17, 21] (.one 16 [16, 17, 21] (.one 17 [17, 21] (.alt 21 .done .nil)))) .nil)) .nil)) (.alt 18 (.alt 9 (.alt 10 (.alt 16 (.alt 17 (.alt 20 (.alt 21 .done .nil) .nil) (.alt 20 (.one 17 [17, 21] (.alt 21 .done .nil)) .nil)) (.alt 20 (.one 16 [16, 17, 21] (.one 17 [17, 21] (.alt 21 .done .nil))) .nil)) (.alt 20 (.one 10 [10, 16, 17, 21] (.one 16 [16, 17, 21] (.one 17 [17, 21] (.alt 21 .done .nil)))) .nil)) (.alt 20 (.one 9 [9, 10, 16, 17, 21] (.one 10 [10, 16, 17, 21] (.one 16 [16, 17, 21] (.one 17 [17, 21] (.alt 21 .done .nil))))) .nil)) .nil)) .nil))))))))))))))))) : OZ) (by kernel_rfl) ?_ | refine ⟨_, c1, ?_⟩ | refine ⟨_, c2, ?_⟩ | (refine allF_i fun b hb => ?_; replace hD := And.intro hb hD; clear hb; try simp only [fresh_cons, fresh_nil, and_true, ne_eq, neF] at hD)); try simp only [go_sem, hD, p1, q1, p0, q0, pe, qe, ff, ft, true_implies]) | (refine And.intro ?_ ?_)
  all_goals
    obtain ⟨x1, rfl⟩ : ∃ x, x = b := ⟨_, rfl⟩
    obtain ⟨x2, rfl⟩ : ∃ x, x = b := ⟨_, rfl⟩
    refine hK2 _ (Ab.SW.le ?_ key)
    clear hK2 key
    refine St.le.trans (St.le_freezeP (i := 8) (off := 0) (n := 3) (k := .svs [Str qn, SL qa, RL tr]) rfl (by simp [find_cons, hD]) (by exact Nat.le_refl 3)) ?_
    simp only [getN, Blk.get, go_sem, hD]
    refine St.le.trans (St.le_freezeP (i := 7) (off := 0) (n := 3) (k := .svs [Str pn, SL pa, RL fr]) rfl (by simp [find_cons, hD]) (by exact Nat.le_refl 3)) ?_
    simp only [getN, Blk.get, go_sem, hD]
    exact St.le_sub (by repeat' (first | exact rfl | exact trivial | constructor))
end Go.Proofs.YtpidncgibgiidaaGreat
namespace Go.Ab.A15
open Go Go.Ab Go.Ab.A34 Go.Ab.A01
def mapB (S : List ByteArray) : List (Value × Value) := S.map fun s => (.string s, .bool true)
def fB (s : ByteArray) : Nat → List ByteArray → Option (Nat × Value)
  | _, [] => none
  | i, y :: l => if s = y then some (i, .bool true) else fB s (i + 1) l
theorem mfI_B (s : ByteArray) : ∀ (l : List ByteArray) (i : Nat), mfI .s (.string s) (mapB l) i = some (fB s i l)
  | [], i => rfl
  | y :: l, i => by
    show mfI .s (.string s) ((.string y, .bool true) :: mapB l) i = _
    rw [mfI, same_s]
    unfold fB
    by_cases e : s = y
    · rw [if_pos e, decide_eq_true e]
    · rw [if_neg e, decide_eq_false e]
      exact mfI_B s l (i + 1)
theorem fB_none {s : ByteArray} : ∀ {l : List ByteArray} {i : Nat}, s ∉ l → fB s i l = none
  | [], i, _ => rfl
  | y :: l, i, h => by
    unfold fB
    rw [if_neg (fun e => h (by rw [e]; exact List.mem_cons_self))]
    exact fB_none fun hm => h (List.mem_cons_of_mem _ hm)
theorem fB_some {s : ByteArray} : ∀ {l : List ByteArray} {i : Nat}, s ∈ l → ∃ k, fB s i l = some (i + k, .bool true) ∧ k < l.length ∧ l.getD k ⟨#[]⟩ = s
  | [], i, h => by cases h
  | y :: l, i, h => by
    unfold fB
    by_cases e : s = y
    · exact ⟨0, by rw [if_pos e]; rfl, by simp, by simp [e]⟩
    · obtain ⟨k, h1, h2, h3⟩ := fB_some (i := i + 1) ((List.mem_cons.1 h).resolve_left e)
      exact ⟨k + 1, by rw [if_neg e, h1, show i + 1 + k = i + (k + 1) by omega], by simpa using h2, by simpa using h3⟩
open Classical in
noncomputable def addB (l : List ByteArray) (s : ByteArray) : List ByteArray := if s ∈ l then l else l ++ [s]
theorem mset_B (s : ByteArray) (l : List ByteArray) : mset (.string s) (.bool true) (mapB l) (fB s 0 l) = mapB (addB l s) := by
  unfold addB
  by_cases h : s ∈ l
  · obtain ⟨k, h1, h2, h3⟩ := fB_some (i := 0) h
    rw [if_pos h, h1]
    show (mapB l).set (0 + k) (.string s, .bool true) = mapB l
    rw [Nat.zero_add]
    refine List.ext_getElem (by simp) fun j h4 h5 => ?_
    by_cases e : k = j
    · subst e
      rw [List.getElem_set_self]
      have e2 : (mapB l)[k] = (.string l[k], .bool true) := by simp [mapB]
      have : l.getD k ⟨#[]⟩ = l[k] := by simp [List.getD_eq_getElem?_getD, h2]
      rw [e2, ← this, h3]
    · rw [List.getElem_set_ne e]
  · rw [if_neg h, fB_none h]
    show mapB l ++ [(.string s, .bool true)] = mapB (l ++ [s])
    unfold mapB
    rw [List.map_append]
    rfl
theorem mem_addB {l : List ByteArray} {s x : ByteArray} : x ∈ addB l s ↔ x ∈ l ∨ x = s := by
  unfold addB
  by_cases h : s ∈ l
  · rw [if_pos h]
    exact ⟨.inl, fun h2 => h2.elim id (fun e => by rw [e]; exact h)⟩
  · rw [if_neg h, List.mem_append, List.mem_singleton]
noncomputable def keysB (T : List R3) (b : List Int) : Nat → List ByteArray
  | 0 => []
  | i + 1 => addB (keysB T b i) (mkB (catK (T.getD i r0) b))
theorem mem_keysB {T : List R3} {b : List Int} {x : ByteArray} : ∀ {i : Nat}, i ≤ T.length → (x ∈ keysB T b i ↔ ∃ j, j < i ∧ mkB (catK (T.getD j r0) b) = x)
  | 0, _ => ⟨fun h => (by cases h), fun ⟨j, h, _⟩ => absurd h (Nat.not_lt_zero _)⟩
  | i + 1, h => by
    rw [keysB, mem_addB, mem_keysB (i := i) (by omega)]
    constructor
    · rintro (⟨j, h1, h2⟩ | rfl)
      · exact ⟨j, by omega, h2⟩
      · exact ⟨i, by omega, rfl⟩
    · rintro ⟨j, h1, h2⟩
      rcases Nat.lt_or_eq_of_le (Nat.lt_succ_iff.1 h1) with h3 | h3
      · exact .inl ⟨j, h3, h2⟩
      · subst h3; exact .inr h2.symm
theorem mkB_inj {a b : List UInt8} (h : mkB a = mkB b) : a = b := by
  have := congrArg (fun x : ByteArray => x.data.toList) h
  simpa [mkB] using this
theorem key_any {T : List R3} {a b : List Int} {x : R3} (hab : a.length = b.length) (hx : OkR x) (hT : ∀ y ∈ T, OkR y) (ha : ∀ z ∈ a, 0 ≤ z ∧ z < x.2.length) (hb : ∀ y ∈ T, ∀ z ∈ b, 0 ≤ z ∧ z < y.2.length) :
    (mkB (catK x a) ∈ keysB T b T.length) ↔ (T.any fun y => agB a b x.2 y.2) = true := by
  rw [mem_keysB (Nat.le_refl _), List.any_eq_true]
  constructor
  · rintro ⟨j, hj, h⟩
    have hm := getD_mem r0 hj
    exact ⟨_, hm, agB_iff.2 ((catK_inj hx (hT _ hm) hab ha (hb _ hm)).1 (mkB_inj h).symm)⟩
  · rintro ⟨y, hy, h⟩
    obtain ⟨j, hj, rfl⟩ := List.getElem_of_mem hy
    have e : T.getD j r0 = T[j] := by simp [List.getD_eq_getElem?_getD, hj]
    exact ⟨j, hj, by rw [e, (catK_inj hx (hT _ hy) hab ha (hb _ hy)).2 (agB_iff.1 h)]⟩
end Go.Ab.A15
def Go.Ab.zHD_1 : Go.Ab.OZ := (.one 0 [0, 1, 7, 8, 9, 10] (.one 1 [1, 7, 8, 9, 10] (.one 2 [2, 3, 6, 7, 8, 9, 10] (.one 3 [3, 6, 7, 8, 9, 10] (.one 4 [4, 5, 6, 7, 8, 9, 10] (.one 5 [5, 6, 7, 8, 9, 10] (.one 6 [6, 7, 8, 9, 10] (.one 7 [7, 8, 9, 10] (.one 8 [8, 9, 10] (.one 9 [9, 10] (.one 10 [10] (.one 11 [11] .done))))))))))))
namespace Go.Proofs.YtpidncgibgiidaaGreat
open Go Go.Ab Go.Ab.A34 Go.Ab.A15 Go.Ab.A01
variable [Gl] [Tabs]
theorem viol_p (db : List Tb) (d : Dp) (hdb : db.length ≤ 9223372036854775807) (hd : OkD d) (hn : OkN db) (h : vE db d = 0) : PCall Tryz.prog 68 [DB db, DV d] (.tup [IL (violS (rowsAt db d.f) (rowsAt db d.t) d.l d.r), I64 0]) := by
  have c := valid_ip db d hdb hd
  rw [show (if ¬ chkS db = 0 then chkS db else fitsS db d) = vE db d from rfl, h] at c
  obtain ⟨V, F⟩ := vE_ok h
  have kf := rows_k V F.f
  have kt := rows_k V F.t
  have nf := rows_n hn F.f
  have nt := rows_n hn F.t
  have l1 := idxN_lt F.f
  have l2 := idxN_lt F.t
  have nl : (nmsOf db).length = db.length := by unfold nmsOf; rw [List.length_map]
  rw [nl] at l1 l2
  have c1 := find_p d.f db db.length (by omega) rfl (tF db) (fun i hi => rfl)
  have c2 := find_p d.t db db.length (by omega) rfl (tF db) (fun i hi => rfl)
  have e1 := tabI_idx (i := 0) F.f
  have e2 := tabI_idx (i := 0) F.t
  rw [Nat.zero_add] at e1 e2
  rw [e1] at c1
  rw [e2] at c2
  have b16 := in16_len F.nl (F.in16l V)
  have b16r := in16_len F.nr (F.in16r V)
  have fl : ∀ x ∈ rowsAt db d.f, ∀ z ∈ d.l, 0 ≤ z ∧ z < x.2.length := fun x hx z hz => by rw [kf.l x hx]; exact F.l z hz
  have tl : ∀ y ∈ rowsAt db d.t, ∀ z ∈ d.r, 0 ≤ z ∧ z < y.2.length := fun y hy z hz => by rw [kt.l y hy]; exact F.r z hz
  have okf : ∀ x ∈ rowsAt db d.f, OkR x := fun x hx => ⟨kf.v x hx, nf x hx⟩
  have okt : ∀ x ∈ rowsAt db d.t, OkR x := fun x hx => ⟨kt.v x hx, nt x hx⟩
  have kpf := fun x (hx : x ∈ rowsAt db d.f) => key_p x d.l (okf x hx) (fl x hx) (by omega)
  have kpt := fun x (hx : x ∈ rowsAt db d.t) => key_p x d.r (okt x hx) (tl x hx) (by omega)
  have kan := fun x (hx : x ∈ rowsAt db d.f) => key_any (T := rowsAt db d.t) (x := x) F.lr (okf x hx) okt (fl x hx) tl
  have kfn := kf.n
  have ktn := kt.n
  unfold rowsAt at kpf kpt kan kfn ktn ⊢
  have ff : tF db (idxN d.f (nmsOf db)) = tC (db.getD (idxN d.f (nmsOf db)) t0) := rfl
  have ft : tF db (idxN d.t (nmsOf db)) = tC (db.getD (idxN d.t (nmsOf db)) t0) := rfl
  clear kf kt nf nt F V e1 e2 h fl tl okf okt
  generalize idxN d.f (nmsOf db) = p at *
  generalize idxN d.t (nmsOf db) = q at *
  have p1 : ((p : Nat) : Int) < ((db.length : Nat) : Int) := by omega
  have q1 : ((q : Nat) : Int) < ((db.length : Nat) : Int) := by omega
  have p0 : (0 : Int) ≤ ((p : Nat) : Int) := by omega
  have q0 : (0 : Int) ≤ ((q : Nat) : Int) := by omega
  have pe : ((p : Nat) : Int).toNat = p := Int.toNat_natCast _
  have qe : ((q : Nat) : Int).toNat = q := Int.toNat_natCast _
  generalize db.getD p t0 = tp at *
  generalize db.getD q t0 = tq at *
  obtain ⟨pn, pa, fr⟩ := tp
  obtain ⟨qn, qa, tr⟩ := tq
  obtain ⟨df, dl, dt, dr⟩ := d
  simp only at kpf kpt kan kfn ktn c1 c2 ⊢
  obtain ⟨W, hW⟩ : ∃ W, W = violP fr tr dl dr := ⟨_, rfl⟩
  have hWs := fun i hi => @violP_succ fr tr dl dr i hi
  have hWl := violP_len fr tr dl dr
  have hWe : violS fr tr dl dr = W fr.length := by rw [hW]; rfl
  have hW0 : W 0 = [] := by rw [hW]; rfl
  rw [← hW] at hWs hWl
  rw [hWe]
  clear hW hWe
  refine Call.enter' (N := 70) (rs := [.tmp 4, .tmp 5]) Tryz.func68 rfl rfl rfl (by decide) rfl ?_; simp only [argT]; have hD : (0 : Nat) = 0 := rfl
  repeat' first | (refine SW.seq_k fun K hK => ?_) | ((first | refine SW.region ?_ | refine SW.cond ?_ | refine SW.skip ?_ | refine Call.of_pure (c) ?_ | (refine allF_i fun b hb => ?_; replace hD := And.intro hb hD; clear hb; try simp only [fresh_cons, fresh_nil, and_true, ne_eq, neF] at hD)); try simp only [go_sem, hD, true_implies]) | (apply hK; clear hK K)
  obtain ⟨mb, rfl⟩ : ∃ x, x = b := ⟨_, rfl⟩
  obtain ⟨b3, rfl⟩ : ∃ x, x = b := ⟨_, rfl⟩
  obtain ⟨b2, rfl⟩ : ∃ x, x = b := ⟨_, rfl⟩
  refine Ab.SW.le (S' := ⟨[(2, .fp [TL db]), (3, .fp [Str df, IL dl, Str dt, IL dr]), (4, SN), (5, I64 0), (7, .mp mb)], [(mb, .mp [])]⟩) ?_ ?_
  · refine St.le.trans (St.le_freezeP (i := 3) (b := b3) (off := 0) (n := 4) (k := .svs [Str df, IL dl, Str dt, IL dr]) rfl (by simp [find_cons, hD]) (by exact Nat.le_refl 4)) ?_
    simp only [getN, Blk.get, go_sem, hD]
    refine St.le.trans (St.le_freezeP (i := 2) (b := b2) (off := 0) (n := 1) (k := .svs [TL db]) rfl (by simp [find_cons, hD]) (by exact Nat.le_refl 1)) ?_
    simp only [getN, Blk.get, go_sem, hD]
    exact St.le_sub (by repeat' (first | exact rfl | exact trivial | constructor))
  clear hD
  have hD : (0 : Nat) = 0 := rfl
  repeat' first | (refine SW.block ?_) | ((first | refine SW.regionZ (id := 5) (Checked.mixed Tryz.checked) Go.Ab.zHD_1 (by kernel_rfl) ?_ | refine ⟨_, c2, ?_⟩); try simp only [Go.Ab.zHD_1, go_sem, hD, p1, q1, p0, q0, pe, qe, ff, ft, true_implies]) | (apply hK; clear hK K)
  obtain ⟨I, hI⟩ : ∃ I : Nat → St → Prop, ∀ k S, I k S ↔ (∃ (i : Nat) , k = tr.length - i ∧ i ≤ tr.length ∧ S = ⟨[(2, .fp [TL db]), (3, .fp [Str df, IL dl, Str dt, IL dr]), (4, SN), (5, I64 0), (7, .mp mb), (29, RL tr), (30, I64 tr.length), (31, I64 i)], [(mb, .mp (mapB (keysB tr dr i)))]⟩) := ⟨fun k S => _, fun _ _ => Iff.rfl⟩
  refine SW.loop' I (tr.length) ((hI _ _).2 ⟨0, rfl, Nat.zero_le _, rfl⟩) (by repeat' (first | exact rfl | exact trivial | constructor)) ?_
  intro k S hIn
  obtain ⟨i, rfl, hi, rfl⟩ := (hI _ _).1 hIn
  clear hIn
  have ie : ((i : Nat) : Int).toNat = i := Int.toNat_natCast _
  have i0 : (0 : Int) ≤ ((i : Nat) : Int) := by omega
  by_cases hlt : i < tr.length
  · have hli : ((i : Nat) : Int) < (((tr.length) : Nat) : Int) := by omega
    have w1 : IntKind.i64.wrap ((i : Int) + 1) = ((i + 1 : Nat) : Int) := by rw [i64_wrap (by omega) (by omega)]; omega
    have fi : rF tr i = [I64 (tr.getD i r0).1, VL (tr.getD i r0).2] := rfl
    have kp := kpt _ (getD_mem r0 hlt)
    have mf := mfI_B (mkB (catK (tr.getD i r0) dr)) (keysB tr dr i) 0
    have ms := mset_B (mkB (catK (tr.getD i r0) dr)) (keysB tr dr i)
    have hks : keysB tr dr (i + 1) = addB (keysB tr dr i) (mkB (catK (tr.getD i r0) dr)) := rfl
    rw [← hks] at ms
    clear hks
    generalize mkB (catK (tr.getD i r0) dr) = key at *
    generalize tr.getD i r0 = y at *
    obtain ⟨yi, ys⟩ := y
    simp only at fi kp
    generalize fB key 0 (keysB tr dr i) = fz at *
    repeat' first | (refine SW.seq_k fun K hK => ?_) | (refine SW.block ?_) | ((first | refine SW.region ?_ | refine SW.cond ?_ | refine SW.skip ?_ | refine Call.of_pure (kp) ?_ | (refine allF_i fun b hb => ?_; replace hD := And.intro hb hD; clear hb; try simp only [fresh_cons, fresh_nil, and_true, ne_eq, neF] at hD)); try simp only [go_sem, hD, hli, ie, i0, w1, fi, mf, ms, true_implies]) | (apply hK; clear hK K)
    refine Rnd.le (St.le_slist (List.Sublist.cons _ (List.Sublist.refl _))) ?_
    refine Rnd.sub (tr.length - (i + 1)) (by omega) ((hI _ _).2 ⟨i + 1, rfl, by omega, rfl⟩) (by repeat' (first | exact rfl | exact trivial | constructor))
  · have hli : ¬ ((i : Nat) : Int) < (((tr.length) : Nat) : Int) := by omega
    obtain rfl : i = tr.length := by omega
    generalize keysB tr dr tr.length = Ks at *
    repeat' first | (refine SW.seq_k fun K hK => ?_) | (refine SW.block ?_) | ((first | refine SW.region ?_ | refine SW.regionZ (id := 11) (Checked.mixed Tryz.checked) Go.Ab.zHD_1 (by kernel_rfl) ?_ | refine SW.cond ?_ | refine SW.exit ?_ | refine ⟨_, c1, ?_⟩); try simp only [Go.Ab.zHD_1, go_sem, hD, hli, p1, q1, p0, q0, pe, qe, ff, ft, true_implies]) | (apply hK; clear hK K) | (clear hK K; apply hK; clear hK K)
    have hD : (0 : Nat) = 0 := rfl
    obtain ⟨I, hI⟩ : ∃ I : Nat → St → Prop, ∀ k S, I k S ↔ (∃ (k2 : Nat) (x : SV) (h : Heap), k = fr.length - k2 ∧ k2 ≤ fr.length ∧ ((W k2 = [] ∧ x = SN ∧ h = []) ∨ ∃ g, ¬ g = mb ∧ ¬ mb = g ∧ x = .os g 0 (W k2).length 1 ∧ h = [(g, .ints .i64 (W k2))]) ∧ S = ⟨[(2, .fp [TL db]), (3, .fp [Str df, IL dl, Str dt, IL dr]), (4, SN), (5, I64 0), (7, .mp mb), (10, x), (50, RL fr), (51, I64 fr.length), (52, I64 k2)], (mb, .mp (mapB Ks)) :: h⟩) := ⟨fun k S => _, fun _ _ => Iff.rfl⟩
    refine SW.loop' I (fr.length) ((hI _ _).2 ⟨0, SN, [], rfl, Nat.zero_le _, .inl ⟨hW0, rfl, rfl⟩, rfl⟩) (by repeat' (first | exact rfl | exact trivial | constructor)) ?_
    intro k S hIn
    obtain ⟨k2, x, h, rfl, hi, hB, rfl⟩ := (hI _ _).1 hIn
    clear hIn
    have ie : ((k2 : Nat) : Int).toNat = k2 := Int.toNat_natCast _
    have i0 : (0 : Int) ≤ ((k2 : Nat) : Int) := by omega
    by_cases hlk : k2 < fr.length
    · have hli : ((k2 : Nat) : Int) < (((fr.length) : Nat) : Int) := by omega
      have w1 : IntKind.i64.wrap ((k2 : Int) + 1) = ((k2 + 1 : Nat) : Int) := by rw [i64_wrap (by omega) (by omega)]; omega
      have fi : rF fr k2 = [I64 (fr.getD k2 r0).1, VL (fr.getD k2 r0).2] := rfl
      have kp := kpf _ (getD_mem r0 hlk)
      have ka := kan _ (getD_mem r0 hlk)
      have mf := mfI_B (mkB (catK (fr.getD k2 r0) dl)) Ks 0
      have hst := hWs k2 hlk
      have hwl := hWl k2
      generalize (tr.any fun y => agB dl dr (fr.getD k2 r0).2 y.2) = av at *
      generalize mkB (catK (fr.getD k2 r0) dl) = key at *
      generalize fr.getD k2 r0 = y at *
      obtain ⟨yi, ys⟩ := y
      simp only at fi kp hst
      cases av with
      | true =>
        obtain ⟨j, hj, _⟩ := fB_some (i := 0) (ka.2 rfl)
        rw [hj] at mf
        rw [if_pos rfl] at hst
        rcases hB with ⟨hw0, rfl, rfl⟩ | ⟨g, u1, u2, rfl, rfl⟩
        · repeat' first | (refine SW.seq_k fun K hK => ?_) | (refine SW.block ?_) | ((first | refine SW.region ?_ | refine SW.cond ?_ | refine SW.skip ?_ | refine Call.of_pure (kp) ?_ | (refine allF_i fun b hb => ?_; replace hD := And.intro hb hD; clear hb; try simp only [fresh_cons, fresh_nil, and_true, ne_eq, neF] at hD)); try simp only [go_sem, hD, hli, ie, i0, w1, fi, mf, true_implies]) | (apply hK; clear hK K)
          refine Rnd.le (St.le_slist (List.Sublist.cons _ (List.Sublist.refl _))) ?_
          refine Rnd.sub (fr.length - (k2 + 1)) (by omega) ((hI _ _).2 ⟨k2 + 1, SN, [], rfl, by omega, .inl ⟨by rw [hst, hw0], rfl, rfl⟩, rfl⟩) (by repeat' (first | exact rfl | exact trivial | constructor))
        · have hD := And.intro (eq_false u1) (eq_false u2)
          repeat' first | (refine SW.seq_k fun K hK => ?_) | (refine SW.block ?_) | ((first | refine SW.region ?_ | refine SW.cond ?_ | refine SW.skip ?_ | refine Call.of_pure (kp) ?_ | (refine allF_i fun b hb => ?_; replace hD := And.intro hb hD; clear hb; try simp only [fresh_cons, fresh_nil, and_true, ne_eq, neF] at hD)); try simp only [go_sem, hD, hli, ie, i0, w1, fi, mf, true_implies]) | (apply hK; clear hK K)
          refine Rnd.le (St.le_slist (List.Sublist.cons _ (List.Sublist.refl _))) ?_
          refine Rnd.sub (fr.length - (k2 + 1)) (by omega) ((hI _ _).2 ⟨k2 + 1, .os g 0 (W k2).length 1, [(g, .ints .i64 (W k2))], rfl, by omega, .inr ⟨g, u1, u2, by rw [hst], by rw [hst]⟩, rfl⟩) (by repeat' (first | exact rfl | exact trivial | constructor))
      | false =>
        have hj := fB_none (i := 0) (fun h => by have := ka.1 h; cases this)
        rw [hj] at mf
        rw [if_neg (by simp)] at hst
        have ba : ((W k2).length + 1) * 8 ≤ 140737488355328 := by omega
        rcases hB with ⟨hw0, rfl, rfl⟩ | ⟨g, u1, u2, rfl, rfl⟩
        · have hst2 : W (k2 + 1) = [yi] := by rw [hst, hw0]; rfl
          repeat' first | (with_reducible refine And.intro (by omega) ?_) | (refine SW.seq_k fun K hK => ?_) | (refine SW.block ?_) | ((first | refine SW.region ?_ | refine SW.cond ?_ | refine SW.skip ?_ | refine Call.of_pure (kp) ?_ | (refine allF_i fun b hb => ?_; replace hD := And.intro hb hD; clear hb; try simp only [fresh_cons, fresh_nil, and_true, ne_eq, neF] at hD) | simp only [appK, appOsK]); try simp only [go_sem, hD, hli, ie, i0, w1, fi, mf, ba, true_implies]) | (refine And.intro (by omega) ?_) | (apply hK; clear hK K)
          refine Rnd.le ((St.le_slist (List.Sublist.cons_cons _ (List.Sublist.cons _ (List.Sublist.cons _ (List.Sublist.refl _))))).trans (St.le_perm (h' := [(mb, .mp (mapB Ks)), (b, .ints .i64 [yi])]) (List.Perm.swap _ _ _))) ?_
          refine Rnd.sub (fr.length - (k2 + 1)) (by omega) ((hI _ _).2 ⟨k2 + 1, .os b 0 1 1, [(b, .ints .i64 [yi])], rfl, by omega, .inr ⟨b, by simp [hD], by simp [hD], by rw [hst2]; rfl, by rw [hst2]⟩, rfl⟩) (by repeat' (first | exact rfl | exact trivial | constructor))
        · have hD := And.intro (eq_false u1) (eq_false u2)
          have hst2 : (W (k2 + 1)).length = (W k2).length + 1 := by rw [hst, List.length_append]; rfl
          repeat' first | (with_reducible refine And.intro (by omega) ?_) | (refine SW.seq_k fun K hK => ?_) | (refine SW.block ?_) | ((first | refine SW.region ?_ | refine SW.cond ?_ | refine SW.skip ?_ | refine Call.of_pure (kp) ?_ | (refine allF_i fun b hb => ?_; replace hD := And.intro hb hD; clear hb; try simp only [fresh_cons, fresh_nil, and_true, ne_eq, neF] at hD) | simp only [appK, appOsK]); try simp only [go_sem, hD, hli, ie, i0, w1, fi, mf, ba, true_implies]) | (apply hK; clear hK K)
          refine Rnd.le (St.le_slist (List.Sublist.cons _ (List.Sublist.cons _ (List.Sublist.refl _)))) ?_
          refine Rnd.sub (fr.length - (k2 + 1)) (by omega) ((hI _ _).2 ⟨k2 + 1, .os b 0 ((W k2).length + 1) 1, [(b, .ints .i64 (W k2 ++ [yi]))], rfl, by omega, .inr ⟨b, by simp [hD], by simp [hD], by rw [hst2], by rw [hst]⟩, rfl⟩) (by repeat' (first | exact rfl | exact trivial | constructor))
    · have hli : ¬ ((k2 : Nat) : Int) < (((fr.length) : Nat) : Int) := by omega
      obtain rfl : k2 = fr.length := by omega
      generalize W fr.length = R at *
      rcases hB with ⟨rfl, rfl, rfl⟩ | ⟨g, u1, u2, rfl, rfl⟩
      · repeat' first | (refine SW.seq_k fun K hK => ?_) | ((first | refine SW.region ?_ | refine SW.cond ?_ | refine SW.exit ?_ | refine SW.ret ?_); try simp only [go_sem, hD, hli, true_implies]) | (apply hK; clear hK K) | (clear hK K; apply hK; clear hK K)
        refine retQ_le (S' := ⟨[(4, IL []), (5, I64 0)], []⟩) ?_ ?_
        · refine St.le.trans (St.le_say (i := 4) (v := IL []) (fun E u hr => Rep.fl_nil hr)) ?_
          exact St.le.trans St.le_drop (St.le_sub (by repeat' (first | exact rfl | exact trivial | constructor)))
        simp only [resL_tmp, resL_nil, tupOf, go_sem, hD]
        try exact rfl
      · have hD := And.intro (eq_false u1) (eq_false u2)
        repeat' first | (refine SW.seq_k fun K hK => ?_) | ((first | refine SW.region ?_ | refine SW.cond ?_ | refine SW.exit ?_ | refine SW.ret ?_); try simp only [go_sem, hD, hli, true_implies]) | (apply hK; clear hK K) | (clear hK K; apply hK; clear hK K)
        refine retQ_le ((St.le_ints (i := 4) .i64 R rfl rfl (by rw [find_cons, if_neg u2, find_cons, if_pos rfl]) rfl).trans St.le_drop) ?_
        simp only [resL_tmp, resL_nil, tupOf, go_sem, hD]
        try exact rfl
end Go.Proofs.YtpidncgibgiidaaGreat
