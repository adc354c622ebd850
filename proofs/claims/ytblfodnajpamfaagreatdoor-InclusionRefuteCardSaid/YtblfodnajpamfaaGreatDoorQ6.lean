/- Several texts in one: P9, L0, R2, KA, KB, KC, KD, E2, P5, HA, HB, HC, HD, HE, P8, RA, RB. -/
import Derived.Test.YtblfodnajpamfaaGreatDoorQ4
import Derived.Test.YtblfodnajpamfaaGreatDoorQ5
import Derived.Test.YtblfodnajpamfaaGreatDoorQ1
import Derived.Lib.Bytealg
import Derived.Test.YtblfodnajpamfaaGreatDoorZ3
import Derived.Laws.Bits64
import Derived.Test.YtblfodnajpamfaaGreatDoorZ10
import Derived.Test.YtblfodnajpamfaaGreatDoorE1
import Derived.Test.YtblfodnajpamfaaGreatDoorQ2
import Derived.Test.YtblfodnajpamfaaGreatDoorQ3
set_option linter.unusedSimpArgs false
set_option linter.unusedVariables false
set_option linter.unusedSectionVars false
set_option maxRecDepth 20000
set_option maxHeartbeats 4000000
namespace Go.Ab.A15
open Go Go.Ab Go.Ab.A34
theorem emp_nil9 : emp (⟨#[]⟩ : ByteArray) = true := barr_eq.2 rfl
theorem code_okV9 (c : Int) : okV (codeV c) = true := by
  have e := emp_nil9
  unfold codeV
  repeat' split
  all_goals (unfold okV vok; simp [e])
  all_goals decide
theorem nm_ok9 : ∀ n, n < 6 → namesB (nm8.take n) = true := by decide +kernel
theorem nmT_ok (i : Nat) : nameB (nmT i).data.toList = true := by
  unfold nmT
  split
  · decide +kernel
  · split <;> decide +kernel
theorem nmT_inj {i j : Nat} (hi : i < 3) (hj : j < 3) (h : nmT i = nmT j) : i = j := by
  have k1 : ¬ (⟨#[114]⟩ : ByteArray) = ⟨#[115]⟩ := by decide
  have k2 : ¬ (⟨#[114]⟩ : ByteArray) = ⟨#[116]⟩ := by decide
  have k3 : ¬ (⟨#[115]⟩ : ByteArray) = ⟨#[116]⟩ := by decide
  have hi3 : i = 0 ∨ i = 1 ∨ i = 2 := by omega
  have hj3 : j = 0 ∨ j = 1 ∨ j = 2 := by omega
  rcases hi3 with rfl | rfl | rfl <;> rcases hj3 with rfl | rfl | rfl <;> first | rfl | (simp only [nmT, if_pos, if_neg, if_true, if_false, reduceCtorEq, Nat.reduceEqDiff, ↓reduceIte] at h; first | exact absurd h k1 | exact absurd h k2 | exact absurd h k3 | exact absurd h.symm k1 | exact absurd h.symm k2 | exact absurd h.symm k3)
theorem tabD_attrs (x : Rc) (i : Nat) : (tabD x i).attrs.length ≤ 3 := by
  show (nm8.take (x.attrs % 4 % 6).toNat).length ≤ 3
  rw [List.length_take]
  have : (x.attrs % 4 % 6).toNat ≤ 3 := by omega
  omega
theorem tabD_rows (x : Rc) (i : Nat) : (tabD x i).rows.length = x.rows.length := by
  show ((List.range x.rows.length).map _).length = _
  simp
theorem tabD_rlen (x : Rc) (i : Nat) : ∀ r ∈ (tabD x i).rows, r.2.length ≤ 6 := fun r hr => by
  obtain ⟨k, _, rfl⟩ := List.mem_map.1 hr
  show (((List.range (x.attrs % 4 % 6).toNat).map _).length) ≤ 6
  rw [List.length_map, List.length_range]
  omega
theorem tabD_valid (x : Rc) (i : Nat) (h : x.rows.length ≤ 1000) : validS (tabD x i) = 0 := by
  obtain ⟨n, hn0⟩ : ∃ n, n = (x.attrs % 4 % 6).toNat := ⟨_, rfl⟩
  have hn : n < 6 := by omega
  have hal : (nm8.take n).length = n := by
    rw [List.length_take]
    have : nm8.length = 8 := rfl
    omega
  obtain ⟨g, hg⟩ : ∃ g, g = 1 + x.gap % 3 := ⟨_, rfl⟩
  have hg1 : 1 ≤ g := by omega
  have hr : ∀ (k j : Nat) (p : Int), p < 1 + (j : Int) * g → rowsV n p ((List.range' j k).map fun i => rowS x.gap n i (x.rows.getD i [])) = 0 := fun k => by
    induction k with
    | zero => intro j p _; rfl
    | succ k ih =>
      intro j p hp
      have e1 : (rowS x.gap n j (x.rows.getD j [])).1 = 1 + (j : Int) * g := by rw [hg]; rfl
      rw [List.range'_succ, List.map_cons, rowsV, e1, if_neg (by omega), if_neg (by simp [rowS]), if_pos (by
        rw [List.all_eq_true]
        intro v hv
        unfold rowS at hv
        obtain ⟨c, _, rfl⟩ := List.mem_map.1 hv
        exact code_okV9 _)]
      refine ih (j + 1) _ ?_
      have : ((j + 1 : Nat) : Int) * g = (j : Int) * g + g := by rw [Int.natCast_add, Int.add_mul]; simp
      rw [this]
      omega
  have hlen := tabD_rows x i
  have hat : (tabD x i).attrs = nm8.take n := by rw [hn0]; rfl
  have hro : (tabD x i).rows = (List.range x.rows.length).map fun i => rowS x.gap n i (x.rows.getD i []) := by rw [hn0]; rfl
  unfold validS
  rw [if_pos (show nameB (tabD x i).name.data.toList = true from nmT_ok i), if_neg (show ¬ (16 < (tabD x i).attrs.length ∨ 1000 < (tabD x i).rows.length) by rw [hlen, hat, hal]; omega), hat, if_pos (nm_ok9 n hn), hro, List.range_eq_range', hal]
  exact hr _ 0 0 (by omega)
theorem chkF_zero {db : List Tb} (hv : ∀ j, j < db.length → validS (db.getD j t0) = 0) (hn : ∀ j, j < db.length → tabI (db.getD j t0).name 0 (db.take j) < 0) : ∀ (g i : Nat), i + g = db.length → chkF db g i = 0
  | 0, i, _ => rfl
  | g + 1, i, h => by
    have h1 := hn i (by omega)
    unfold chkF
    rw [if_neg (fun x => x (hv i (by omega))), if_neg (by omega)]
    exact chkF_zero hv hn g (i + 1) (by omega)
theorem chkS_of {db : List Tb} (h : Vdb db) (hl : db.length ≤ 50) : chkS db = 0 := by
  unfold chkS
  rw [if_neg (by omega)]
  refine chkF_zero (fun j hj => h.v _ (getD_mem' t0 hj)) (fun j hj => ?_) _ 0 (by omega)
  rcases tabI_is (x := (db.getD j t0).name) (l := db.take j) (i := 0) with ⟨h1, _⟩ | ⟨k, _, h2, h3, _⟩
  · omega
  · exfalso
    rw [List.length_take] at h2
    have e : (db.take j).getD k t0 = db.getD k t0 := by simp [List.getD_eq_getElem?_getD, List.getElem?_take, show k < j by omega]
    rw [e] at h3
    have hp := List.pairwise_iff_getElem.1 h.n k j (by unfold nmsOf; rw [List.length_map]; omega) (by unfold nmsOf; rw [List.length_map]; omega) (by omega)
    unfold nmsOf at hp
    rw [List.getElem_map, List.getElem_map] at hp
    refine hp ?_
    rw [show db.getD k t0 = db[k] by simp [List.getD_eq_getElem?_getD, show k < db.length by omega], show db.getD j t0 = db[j] by simp [List.getD_eq_getElem?_getD, hj]] at h3
    exact h3
theorem fitsS_of {db : List Tb} {d : Dp} (h : Fit (nmsOf db) (nsOf db) d) : fitsS db d = 0 := by
  have ef := tabI_idx (i := 0) h.f
  have et := tabI_idx (i := 0) h.t
  have gn : ∀ i, (nsOf db).getD i 0 = (db.getD i t0).attrs.length := fun i => by
    unfold nsOf
    simp only [List.getD_eq_getElem?_getD, List.getElem?_map]
    cases db[i]? <;> rfl
  unfold fitsS
  rw [ef, et]
  simp only [Nat.zero_add, Int.toNat_natCast]
  rw [if_neg (by omega), if_neg, if_pos ⟨h.nl, h.nr⟩]
  rintro (h1 | h1 | h1)
  · exact h1 h.lr
  · have := winB_iff.2 (fun a ha => by have := h.l a ha; rw [gn] at this; exact this : ∀ a ∈ d.l, 0 ≤ a ∧ a < ((db.getD (idxN d.f (nmsOf db)) t0).attrs.length : Int))
    rw [this] at h1
    cases h1
  · have := winB_iff.2 (fun a ha => by have := h.r a ha; rw [gn] at this; exact this : ∀ a ∈ d.r, 0 ≤ a ∧ a < ((db.getD (idxN d.t (nmsOf db)) t0).attrs.length : Int))
    rw [this] at h1
    cases h1
theorem firstE_of {db : List Tb} {g : Dp} (hg : fitsS db g = 0) : ∀ {l : List Dp}, (∀ d ∈ l, fitsS db d = 0) → firstE db g l = 0
  | [], _ => hg
  | d :: l, h => by
    unfold firstE
    rw [if_neg (fun x => x (h d List.mem_cons_self))]
    exact firstE_of hg fun x hx => h x (List.mem_cons_of_mem _ hx)
theorem allS_of {db : List Tb} {l : List Dp} {g : Dp} (h : Vall db l g) (hl : db.length ≤ 50) : allS db l g = 0 := by
  unfold allS
  rw [if_neg (fun x => x (chkS_of h.vd hl))]
  exact firstE_of (fitsS_of h.g) fun d hd => fitsS_of (h.l d hd)
theorem pickF_ok {n : Int} (hn : 0 < n) : ∀ {l pre : List Int}, (pre.Nodup ∧ ∀ x ∈ pre, 0 ≤ x ∧ x < n) → ((pickF n pre l).Nodup ∧ ∀ x ∈ pickF n pre l, 0 ≤ x ∧ x < n)
  | [], pre, h => h
  | x :: l, pre, h => by
    unfold pickF
    split
    · rename_i hx
      have h1 : x % n ∉ pre := atI_none.1 hx
      refine pickF_ok hn ⟨?_, fun y hy => ?_⟩
      · rw [List.nodup_append]
        exact ⟨h.1, by simp, fun a ha b hb e => h1 (by rw [List.mem_singleton] at hb; rw [← hb, ← e]; exact ha)⟩
      · rcases List.mem_append.1 hy with h2 | h2
        · exact h.2 y h2
        · rw [List.mem_singleton] at h2
          rw [h2]
          exact ⟨Int.emod_nonneg _ (by omega), Int.emod_lt_of_pos _ hn⟩
    · exact pickF_ok hn h
theorem pickS_ok (l : List Int) (n : Nat) : (pickS l n).Nodup ∧ ∀ x ∈ pickS l n, 0 ≤ x ∧ x < (n : Int) := by
  unfold pickS
  split
  · exact ⟨List.nodup_nil, fun x hx => by cases hx⟩
  · exact pickF_ok (by omega) ⟨List.nodup_nil, fun x hx => by cases hx⟩
structure Dra (db : List Tb) : Prop where
  vd : Vdb db
  n3 : db.length ≤ 3
  a3 : ∀ t ∈ db, t.attrs.length ≤ 3
  rl : ∀ t ∈ db, ∀ r ∈ t.rows, r.2.length ≤ 6
  r6 : ∀ t ∈ db, t.rows.length ≤ 6
  nm : ∀ j, j < db.length → (db.getD j t0).name = nmT j
theorem ofT_dra {d : List Rc} (h : goodD d) : Dra (ofT d) := by
  have hl : (ofT d).length = min d.length 3 := by simp [ofT]
  have hm : ∀ t ∈ ofT d, ∃ i, i < min d.length 3 ∧ t = tabD (d.getD i rc0) i := fun t ht => by
    obtain ⟨i, hi, rfl⟩ := List.mem_map.1 ht
    exact ⟨i, List.mem_range.1 hi, rfl⟩
  have hg : ∀ j, j < (ofT d).length → ((ofT d).getD j t0).name = nmT j := fun j hj => by
    rw [hl] at hj
    unfold ofT
    rw [getD_range _ _ hj]
    rfl
  refine ⟨⟨fun t ht => ?_, ?_⟩, by omega, fun t ht => ?_, fun t ht => ?_, fun t ht => ?_, hg⟩
  · obtain ⟨i, hi, rfl⟩ := hm t ht
    exact tabD_valid _ _ (by have := h i hi; omega)
  · refine List.pairwise_iff_getElem.2 fun i j hi hj hij e => ?_
    unfold nmsOf at hi hj e
    rw [List.length_map] at hi hj
    rw [List.getElem_map, List.getElem_map] at e
    have g1 := hg i hi
    have g2 := hg j hj
    rw [show (ofT d).getD i t0 = (ofT d)[i] by simp [List.getD_eq_getElem?_getD, hi]] at g1
    rw [show (ofT d).getD j t0 = (ofT d)[j] by simp [List.getD_eq_getElem?_getD, hj]] at g2
    rw [g1, g2] at e
    have := nmT_inj (by omega) (by omega) e
    omega
  · obtain ⟨i, hi, rfl⟩ := hm t ht
    exact tabD_attrs _ _
  · obtain ⟨i, hi, rfl⟩ := hm t ht
    exact tabD_rlen _ _
  · obtain ⟨i, hi, rfl⟩ := hm t ht
    rw [tabD_rows]
    exact h i hi
theorem idx_at {db : List Tb} (h : (nmsOf db).Nodup) {j : Nat} (hj : j < db.length) : (db.getD j t0).name ∈ nmsOf db ∧ idxN (db.getD j t0).name (nmsOf db) = j := by
  have hm : (db.getD j t0).name ∈ nmsOf db := List.mem_map.2 ⟨_, getD_mem' t0 hj, rfl⟩
  refine ⟨hm, ?_⟩
  have h2 := idxN_lt hm
  have h2' : idxN (db.getD j t0).name (nmsOf db) < db.length := by unfold nmsOf at h2; rwa [List.length_map] at h2
  rcases tabI_is (x := (db.getD j t0).name) (l := db) (i := 0) with ⟨_, h3⟩ | ⟨k, e1, h4, h5, _⟩
  · exact absurd rfl (h3 _ (getD_mem' t0 hj))
  · have e2 := tabI_idx (i := 0) hm
    have ek : idxN (db.getD j t0).name (nmsOf db) = k := by omega
    rw [ek]
    refine Classical.byContradiction fun hne => ?_
    have hp := List.pairwise_iff_getElem.1 h
    have g1 : db.getD j t0 = db[j] := by simp [List.getD_eq_getElem?_getD, hj]
    have g2 : db.getD k t0 = db[k] := by simp [List.getD_eq_getElem?_getD, h4]
    rcases Nat.lt_or_gt_of_ne hne with hlt | hgt
    · have := hp k j (by unfold nmsOf; rw [List.length_map]; exact h4) (by unfold nmsOf; rw [List.length_map]; exact hj) hlt
      unfold nmsOf at this
      rw [List.getElem_map, List.getElem_map, ← g1, ← g2] at this
      exact this h5
    · have := hp j k (by unfold nmsOf; rw [List.length_map]; exact hj) (by unfold nmsOf; rw [List.length_map]; exact h4) hgt
      unfold nmsOf at this
      rw [List.getElem_map, List.getElem_map, ← g1, ← g2] at this
      exact this h5.symm
theorem ind_fit {db : List Tb} (h : Dra db) (h0 : 0 < db.length) (x : Lk) : Fit (nmsOf db) (nsOf db) (indS db x) := by
  have p0 : (0 : Int) < (db.length : Int) := by omega
  have f1 := Int.emod_nonneg x.f (show (db.length : Int) ≠ 0 by omega)
  have f2 := Int.emod_lt_of_pos x.f p0
  have t1 := Int.emod_nonneg x.t (show (db.length : Int) ≠ 0 by omega)
  have t2 := Int.emod_lt_of_pos x.t p0
  obtain ⟨mf, ef⟩ := idx_at h.vd.n (j := (x.f % db.length).toNat) (by omega)
  obtain ⟨mt, et⟩ := idx_at h.vd.n (j := (x.t % db.length).toNat) (by omega)
  have gn : ∀ i, (nsOf db).getD i 0 = (db.getD i t0).attrs.length := fun i => by
    unfold nsOf
    simp only [List.getD_eq_getElem?_getD, List.getElem?_map]
    cases db[i]? <;> rfl
  obtain ⟨p1, p2⟩ := pickS_ok x.l (db.getD (x.f % db.length).toNat t0).attrs.length
  obtain ⟨q1, q2⟩ := pickS_ok x.r (db.getD (x.t % db.length).toNat t0).attrs.length
  unfold indS
  refine ⟨mf, mt, ?_, ?_, ?_, ?_, ?_⟩
  · show (List.take _ _).length = (List.take _ _).length
    rw [List.length_take, List.length_take]
    omega
  · intro y hy
    have := p2 y (List.mem_of_mem_take hy)
    show 0 ≤ y ∧ y < (((nsOf db).getD (idxN (db.getD (x.f % db.length).toNat t0).name (nmsOf db)) 0 : Nat) : Int)
    rw [ef, gn]
    exact this
  · intro y hy
    have := q2 y (List.mem_of_mem_take hy)
    show 0 ≤ y ∧ y < (((nsOf db).getD (idxN (db.getD (x.t % db.length).toNat t0).name (nmsOf db)) 0 : Nat) : Int)
    rw [et, gn]
    exact this
  · exact p1.sublist (List.take_sublist _ _)
  · exact q1.sublist (List.take_sublist _ _)
theorem dra_vall {db : List Tb} (h : Dra db) (h0 : 0 < db.length) (l : List Lk) (g : Lk) : Vall db (l.map (indS db)) (indS db g) :=
  ⟨h.vd, fun d hd => by obtain ⟨x, _, rfl⟩ := List.mem_map.1 hd; exact ind_fit h h0 x, ind_fit h h0 g⟩
theorem dra_ns {db : List Tb} (h : Dra db) (i : Nat) : (nsOf db).getD i 0 ≤ 3 := by
  unfold nsOf
  simp only [List.getD_eq_getElem?_getD, List.getElem?_map]
  cases hi : db[i]? with
  | none => exact Nat.zero_le _
  | some t => exact h.a3 t (List.mem_of_getElem? hi)
theorem fit_len3 {db : List Tb} (h : Dra db) {d : Dp} (hf : Fit (nmsOf db) (nsOf db) d) : d.l.length ≤ 3 ∧ d.r.length ≤ 3 := by
  have h1 := few_nums hf.nl hf.l
  have h2 := few_nums hf.nr hf.r
  have h3 := dra_ns h (idxN d.f (nmsOf db))
  have h4 := dra_ns h (idxN d.t (nmsOf db))
  omega
end Go.Ab.A15
namespace Go.Ab.A15
open Go Go.Ab Go.Ab.A34
theorem dra_few {db : List Tb} (h : Dra db) (h0 : 0 < db.length) (l : List Lk) (g : Lk) (hl : l.length ≤ 5) : Few db (l.map (indS db)) (indS db g) where
  d4 := by have := h.n3; omega
  ll := by rw [List.length_map]; omega
  okl := fun d hd => by
    have := (dra_vall h h0 l g).l d hd
    exact this.okD h.vd
  okg := (ind_fit h h0 g).okD h.vd
  g3 := (fit_len3 h (ind_fit h h0 g)).1
  r3 := (fit_len3 h (ind_fit h h0 g)).2
theorem dra_at {db : List Tb} (h : Dra db) : ∀ t ∈ db, t.attrs.length ≤ 1000 := fun t ht => by have := h.a3 t ht; omega
theorem draft_cases (d : List Rc) (l : List Lk) : (¬ goodD d) ∨ (goodD d ∧ (5 < l.length ∨ ofT d = [])) ∨ (goodD d ∧ l.length ≤ 5 ∧ 0 < (ofT d).length ∧ ¬ d.length ≤ 3) ∨ (goodD d ∧ l.length ≤ 5 ∧ 0 < (ofT d).length ∧ d.length ≤ 3) := by
  by_cases h1 : goodD d
  · by_cases h2 : 5 < l.length ∨ ofT d = []
    · exact .inr (.inl ⟨h1, h2⟩)
    · have h5 : l.length ≤ 5 := Nat.le_of_not_lt fun h => h2 (.inl h)
      have h0 : 0 < (ofT d).length := List.length_pos_iff.2 fun h => h2 (.inr h)
      by_cases h3 : d.length ≤ 3
      · exact .inr (.inr (.inr ⟨h1, h5, h0, h3⟩))
      · exact .inr (.inr (.inl ⟨h1, h5, h0, h3⟩))
  · exact .inl h1
end Go.Ab.A15
namespace Go.Proofs.YtblfodnajpamfaaGreatDoor
open Go Go.Ab Go.Ab.A34 Go.Ab.A15
theorem ofV_bad {d : List Rc} (h : ¬ goodD d) : ofV d = .tup [.agg [SN], SB false] := if_neg h
theorem ofV_good {d : List Rc} (h : goodD d) : ofV d = .tup [DB (ofT d), SB (decide (d.length ≤ 3))] := if_pos h
end Go.Proofs.YtblfodnajpamfaaGreatDoor
namespace Go.Ab
open Go
def cmpV (k n : Int) (s : ByteArray) (k' n' : Int) (s' : ByteArray) : Int :=
  if sgn k k' = 0 then (if sgn n n' = 0 then Lib.compareBytes s.data.toList s'.data.toList else sgn n n') else sgn k k'
theorem cb_step {a b : List UInt8} {i : Nat} (ha : i < a.length) (hb : i < b.length) :
    Lib.compareBytes (a.drop i) (b.drop i) = if a.getD i 0 = b.getD i 0 then Lib.compareBytes (a.drop (i + 1)) (b.drop (i + 1)) else sgn (a.getD i 0).toNat (b.getD i 0).toNat := by
  have g1 : a.getD i 0 = a[i] := by simp [List.getD_eq_getElem?_getD, ha]
  have g2 : b.getD i 0 = b[i] := by simp [List.getD_eq_getElem?_getD, hb]
  rw [List.drop_eq_getElem_cons ha, List.drop_eq_getElem_cons hb, g1, g2, Lib.compareBytes]
  generalize a[i] = x
  generalize b[i] = y
  by_cases h : x = y
  · subst h
    rw [if_pos rfl, if_neg (by simp), if_neg (by simp)]
  · rw [if_neg h]
    unfold sgn
    have hne : x.toNat ≠ y.toNat := fun e => h (UInt8.toNat_inj.1 e)
    by_cases h1 : x < y
    · have : x.toNat < y.toNat := h1
      rw [if_pos h1, if_pos (by omega)]
    · have h1' : ¬ x.toNat < y.toNat := h1
      have h2 : y < x := by show y.toNat < x.toNat; omega
      rw [if_neg h1, if_pos h2, if_neg (by omega), if_pos (by omega)]
theorem cb_end {a b : List UInt8} {i : Nat} (ha : i ≤ a.length) (hb : i ≤ b.length) (h : ¬ (i < a.length ∧ i < b.length)) : Lib.compareBytes (a.drop i) (b.drop i) = sgn a.length b.length := by
  unfold sgn
  by_cases h1 : i < a.length
  · rw [List.drop_eq_getElem_cons h1, List.drop_of_length_le (l := b) (by omega), Lib.compareBytes, if_neg (by omega), if_pos (by omega)]
  · rw [List.drop_of_length_le (l := a) (by omega)]
    by_cases h2 : i < b.length
    · rw [List.drop_eq_getElem_cons h2, Lib.compareBytes, if_pos (by omega)]
    · rw [List.drop_of_length_le (l := b) (by omega), Lib.compareBytes, if_neg (by omega), if_neg (by omega)]
end Go.Ab
namespace Go.Proofs.YtblfodnajpamfaaGreatDoor
open Go Go.Ab
variable [Gl] [Tabs]
theorem strings_r (a b : ByteArray) (ha : a.size ≤ 9223372036854775807) (hb : b.size ≤ 9223372036854775807) : PCall Tryz.prog 109 [Str a, Str b] (I64 (Lib.compareBytes a.data.toList b.data.toList)) := by
  have la : a.data.toList.length = a.size := Array.length_toList
  have lb : b.data.toList.length = b.size := Array.length_toList
  obtain ⟨R, hR⟩ : ∃ R, R = Lib.compareBytes a.data.toList b.data.toList := ⟨_, rfl⟩
  rw [← hR]
  refine Call.enter' (N := 39) (rs := [.tmp 4]) Tryz.func109 rfl rfl rfl (by decide) rfl ?_; simp only [argT]; have hD : (0 : Nat) = 0 := rfl
  repeat' first | (refine SW.seq_k fun K hK => ?_) | (refine SW.region ?_; try simp only [go_sem, hD]) | (apply hK; clear hK K)
  refine SW.block ?_
  obtain ⟨I, hI⟩ : ∃ I : Nat → St → Prop, ∀ k S, I k S ↔ (∃ i : Nat, k = a.size - i ∧ i ≤ a.size ∧ i ≤ b.size ∧ R = Lib.compareBytes (a.data.toList.drop i) (b.data.toList.drop i) ∧ S = ⟨[(0, Str a), (1, Str b), (5, I64 i)], []⟩) := ⟨fun k S => _, fun _ _ => Iff.rfl⟩
  refine SW.loop' I a.size ((hI _ _).2 ⟨0, rfl, Nat.zero_le _, Nat.zero_le _, hR, rfl⟩) (by repeat' (first | exact rfl | exact trivial | constructor)) ?_
  intro k S hIn
  obtain ⟨i, rfl, hi, hi2, hC, rfl⟩ := (hI _ _).1 hIn
  clear hIn hR
  have ie : ((i : Nat) : Int).toNat = i := Int.toNat_natCast _
  have i0 : (0 : Int) ≤ ((i : Nat) : Int) := by omega
  by_cases h1 : i < a.size
  · have h1i : ((i : Nat) : Int) < ((a.size : Nat) : Int) := by omega
    by_cases h2 : i < b.size
    · have h2i : ((i : Nat) : Int) < ((b.size : Nat) : Int) := by omega
      rw [cb_step (by omega) (by omega)] at hC
      have w1 : IntKind.i64.wrap ((i : Int) + 1) = ((i + 1 : Nat) : Int) := by rw [i64_wrap (by omega) (by omega)]; omega
      by_cases he : a.data.toList.getD i 0 = b.data.toList.getD i 0
      · rw [if_pos he] at hC
        have hei : decide (((a.data.toList.getD i 0).toNat : Int) = ((b.data.toList.getD i 0).toNat : Int)) = true := decide_eq_true (by rw [he])
        repeat' first | (refine SW.seq_k fun K hK => ?_) | (refine SW.block ?_) | ((first | refine SW.region ?_ | refine SW.regionZ (id := 4) (Checked.mixed Tryz.checked) ((.one 0 [0, 2, 6] (.one 1 [1, 2, 6] (.one 2 [2, 6] (.one 3 [3, 5, 6] (.one 4 [4, 5, 6] (.one 5 [5, 6] (.one 6 [6] .done))))))) : OZ) (by kernel_rfl) ?_ | refine SW.cond ?_ | refine SW.skip ?_); try simp only [go_sem, hD, h1i, h2i, ie, i0, w1, hei]) | (apply hK; clear hK K)
        refine Rnd.sub (a.size - (i + 1)) (by omega) ((hI _ _).2 ⟨i + 1, rfl, by omega, by omega, hC, rfl⟩) (by repeat' (first | exact rfl | exact trivial | constructor))
      · rw [if_neg he] at hC
        have hei : decide (((a.data.toList.getD i 0).toNat : Int) = ((b.data.toList.getD i 0).toNat : Int)) = false := decide_eq_false (fun h => he (UInt8.toNat_inj.1 (by omega)))
        have b1 := (a.data.toList.getD i 0).toNat_lt
        have b2 := (b.data.toList.getD i 0).toNat_lt
        have w2 : IntKind.i64.wrap ((a.data.toList.getD i 0).toNat : Int) = ((a.data.toList.getD i 0).toNat : Int) := i64_wrap (by omega) (by omega)
        have w3 : IntKind.i64.wrap ((b.data.toList.getD i 0).toNat : Int) = ((b.data.toList.getD i 0).toNat : Int) := i64_wrap (by omega) (by omega)
        have sg := sign_r ((a.data.toList.getD i 0).toNat : Int) ((b.data.toList.getD i 0).toNat : Int)
        rw [← hC] at sg
        repeat' first | (refine SW.seq_k fun K hK => ?_) | (refine SW.block ?_) | ((first | refine SW.region ?_ | refine SW.regionZ (id := 4) (Checked.mixed Tryz.checked) ((.one 0 [0, 2, 6] (.one 1 [1, 2, 6] (.one 2 [2, 6] (.one 3 [3, 5, 6] (.one 4 [4, 5, 6] (.one 5 [5, 6] (.one 6 [6] .done))))))) : OZ) (by kernel_rfl) ?_ | refine SW.regionZ (id := 5) (Checked.mixed Tryz.checked) ((.one 0 [0, 2, 3, 8, 9] (.one 1 [1, 2, 3, 8, 9] (.one 2 [2, 3, 8, 9] (.one 3 [3, 8, 9] (.one 4 [4, 6, 7, 8, 9] (.one 5 [5, 6, 7, 8, 9] (.one 6 [6, 7, 8, 9] (.one 7 [7, 8, 9] (.one 8 [8, 9] (.one 9 [9] .done)))))))))) : OZ) (by kernel_rfl) ?_ | refine SW.cond ?_ | refine SW.skip ?_ | refine SW.ret ?_ | refine ⟨_, sg, ?_⟩); try simp only [go_sem, hD, h1i, h2i, ie, i0, w2, w3, hei]) | (apply hK; clear hK K)
        refine ret_pure ?_; simp only [resL_tmp, resL_nil, tupOf, go_sem, hD]
    · have h2i : ¬ ((i : Nat) : Int) < ((b.size : Nat) : Int) := by omega
      rw [cb_end (by omega) (by omega) (by omega), la, lb] at hC
      have sg := sign_r ((a.size : Nat) : Int) ((b.size : Nat) : Int)
      rw [← hC] at sg
      have w2 : IntKind.i64.wrap ((a.size : Nat) : Int) = ((a.size : Nat) : Int) := i64_wrap (by omega) (by omega)
      have w3 : IntKind.i64.wrap ((b.size : Nat) : Int) = ((b.size : Nat) : Int) := i64_wrap (by omega) (by omega)
      repeat' first | (refine SW.seq_k fun K hK => ?_) | ((first | refine SW.region ?_ | refine SW.cond ?_ | refine SW.exit ?_ | refine SW.ret ?_ | refine Call.of_pure (sg) ?_); try simp only [go_sem, hD, h1i, h2i, w2, w3]) | (apply hK; clear hK K) | (clear hK K; apply hK; clear hK K)
      refine ret_pure ?_; simp only [resL_tmp, resL_nil, tupOf, go_sem, hD]
  · have h1i : ¬ ((i : Nat) : Int) < ((a.size : Nat) : Int) := by omega
    rw [cb_end (by omega) (by omega) (by omega), la, lb] at hC
    have sg := sign_r ((a.size : Nat) : Int) ((b.size : Nat) : Int)
    rw [← hC] at sg
    repeat' first | (refine SW.seq_k fun K hK => ?_) | ((first | refine SW.region ?_ | refine SW.cond ?_ | refine SW.exit ?_ | refine SW.ret ?_ | refine Call.of_pure (sg) ?_); try simp only [go_sem, hD, h1i]) | (apply hK; clear hK K) | (clear hK K; apply hK; clear hK K)
    refine ret_pure ?_; simp only [resL_tmp, resL_nil, tupOf, go_sem, hD]
theorem compare_r (k n : Int) (s : ByteArray) (k' n' : Int) (s' : ByteArray) (hs : s.size ≤ 9223372036854775807) (hs' : s'.size ≤ 9223372036854775807) : PCall Tryz.prog 90 [VS k n s, VS k' n' s'] (I64 (cmpV k n s k' n' s')) := by
  have s1 := sign_r k k'
  have s2 := sign_r n n'
  have s3 := strings_r s s' hs hs'
  obtain ⟨R, hR⟩ : ∃ R, R = cmpV k n s k' n' s' := ⟨_, rfl⟩
  rw [← hR]
  unfold cmpV at hR
  refine Call.enter' (N := 28) (rs := [.tmp 4]) Tryz.func90 rfl rfl rfl (by decide) rfl ?_; simp only [argT]; have hD : (0 : Nat) = 0 := rfl
  by_cases h1 : sgn k k' = 0
  · rw [if_pos h1] at hR
    rw [h1] at s1
    by_cases h2 : sgn n n' = 0
    · rw [if_pos h2] at hR
      rw [h2] at s2
      repeat' first | (refine SW.seq_k fun K hK => ?_) | ((first | refine SW.region ?_ | refine SW.cond ?_ | refine SW.skip ?_ | refine SW.ret ?_ | refine Call.of_pure (s1) ?_ | refine Call.of_pure (s2) ?_ | refine Call.of_pure (s3) ?_ | (refine allF_i fun b hb => ?_; replace hD := And.intro hb hD; clear hb; try simp only [fresh_cons, fresh_nil, and_true, ne_eq, neF] at hD)); try simp only [go_sem, hD]) | (apply hK; clear hK K)
      refine ret_pure ?_; simp only [resL_tmp, resL_nil, tupOf, go_sem, hD]
      rw [hR]
    · rw [if_neg h2] at hR
      repeat' first | (refine SW.seq_k fun K hK => ?_) | ((first | refine SW.region ?_ | refine SW.cond ?_ | refine SW.skip ?_ | refine SW.ret ?_ | refine Call.of_pure (s1) ?_ | refine Call.of_pure (s2) ?_ | (refine allF_i fun b hb => ?_; replace hD := And.intro hb hD; clear hb; try simp only [fresh_cons, fresh_nil, and_true, ne_eq, neF] at hD)); try simp only [go_sem, hD, h2]) | (apply hK; clear hK K)
      refine ret_pure ?_; simp only [resL_tmp, resL_nil, tupOf, go_sem, hD]
      rw [hR]
  · rw [if_neg h1] at hR
    repeat' first | (refine SW.seq_k fun K hK => ?_) | ((first | refine SW.region ?_ | refine SW.cond ?_ | refine SW.ret ?_ | refine Call.of_pure (s1) ?_ | (refine allF_i fun b hb => ?_; replace hD := And.intro hb hD; clear hb; try simp only [fresh_cons, fresh_nil, and_true, ne_eq, neF] at hD)); try simp only [go_sem, hD, h1]) | (apply hK; clear hK K)
    refine ret_pure ?_; simp only [resL_tmp, resL_nil, tupOf, go_sem, hD]
    rw [hR]
end Go.Proofs.YtblfodnajpamfaaGreatDoor
namespace Go.Ab.A01
open Go
end Go.Ab.A01
namespace Go.Ab
open Go
theorem sgn_zero {a b : Int} : sgn a b = 0 ↔ a = b := by
  unfold sgn
  constructor
  · intro h
    split at h
    · cases h
    · split at h
      · cases h
      · omega
  · rintro rfl
    rw [if_neg (by omega), if_neg (by omega)]
theorem cb_cases : ∀ (a b : List UInt8), Lib.compareBytes a b = -1 ∨ (Lib.compareBytes a b = 0 ∧ a = b) ∨ Lib.compareBytes a b = 1
  | [], [] => .inr (.inl ⟨rfl, rfl⟩)
  | [], _ :: _ => .inl rfl
  | _ :: _, [] => .inr (.inr rfl)
  | x :: a, y :: b => by
    unfold Lib.compareBytes
    split
    · exact .inl rfl
    · split
      · exact .inr (.inr rfl)
      · rcases cb_cases a b with h | ⟨h, e⟩ | h
        · exact .inl h
        · refine .inr (.inl ⟨h, ?_⟩)
          have : x = y := UInt8.toNat_inj.1 (by simp only [UInt8.lt_iff_toNat_lt] at *; omega)
          rw [e, this]
        · exact .inr (.inr h)
def lex (s t : Int) : Int := if s = 0 then t else s
def Tr (m n k : Int) : Prop := (m ≤ 0 → n ≤ 0 → k ≤ 0 ∧ (k = 0 → m = 0 ∧ n = 0)) ∧ (m = 0 → n = 0 → k = 0)
theorem Tr.lex {m n k m' n' k' : Int} (h : Tr m n k) (h' : Tr m' n' k') : Tr (lex m m') (lex n n') (lex k k') := by
  unfold Tr Ab.lex at *
  obtain ⟨h1, h2⟩ := h
  obtain ⟨h3, h4⟩ := h'
  refine ⟨fun a b => ?_, fun a b => ?_⟩
  · have hm : m ≤ 0 := by split at a <;> omega
    have hn : n ≤ 0 := by split at b <;> omega
    obtain ⟨k1, k2⟩ := h1 hm hn
    by_cases hk : k = 0
    · obtain ⟨rfl, rfl⟩ := k2 hk
      rw [if_pos rfl] at a b
      obtain ⟨k3, k4⟩ := h3 a b
      rw [if_pos hk, if_pos rfl, if_pos rfl]
      exact ⟨k3, k4⟩
    · rw [if_neg hk]
      exact ⟨k1, fun x => absurd x hk⟩
  · have hm : m = 0 ∧ m' = 0 := by split at a <;> omega
    have hn : n = 0 ∧ n' = 0 := by split at b <;> omega
    rw [if_pos (h2 hm.1 hn.1)]
    exact h4 hm.2 hn.2
end Go.Ab
namespace Go.Ab
open Go
end Go.Ab
namespace Go.Ab
open Go Go.Ab.A01
end Go.Ab
namespace Go.Ab
open Go Go.Ab.A01
end Go.Ab
namespace Go.Ab
open Go Go.Ab.A01
end Go.Ab
namespace Go.Proofs.YtblfodnajpamfaaGreatDoor
open Go Go.Ab Go.Ab.A01
variable [Gl] [Tabs]
end Go.Proofs.YtblfodnajpamfaaGreatDoor
namespace Go.Ab
open Go Go.Ab.A01
end Go.Ab
namespace Go.Proofs.YtblfodnajpamfaaGreatDoor
open Go Go.Ab Go.Ab.A01
variable [Gl] [Tabs]
end Go.Proofs.YtblfodnajpamfaaGreatDoor
namespace Go.Ab
open Go Go.RowKit
section
variable {P : Program} {K : St → Prop} {t : List (Nat × SV)} {h h0 : Heap}
theorem len_nt {st : Bool} {L : TypeId × Nat × Nat} {A : Option (Nat × Nat)} : lenSV st (some L) A .nt = .ok True (.sc (.int .i64 0)) := rfl
theorem len_ot {st : Bool} {L : TypeId × Nat × Nat} {A : Option (Nat × Nat)} {b n : Nat} {e : TypeId} : lenSV st (some L) A (.ot b n e) = .ok True (.sc (.int .i64 n)) := rfl
theorem cells_nt : svCells .nt = some [.nt] := rfl
theorem cells_ot {b n : Nat} {e : TypeId} : svCells (.ot b n e) = some [.ot b n e] := rfl
theorem cells_opT {b n : Nat} {e : TypeId} : svCells (.opT b e n) = some [.opT b e n] := rfl
theorem single_nt : single .nt = true := rfl
theorem single_ot {b n : Nat} {e : TypeId} : single (.ot b n e) = true := rfl
theorem single_opT {b n : Nat} {e : TypeId} : single (.opT b e n) = true := rfl
attribute [go_sem] len_nt len_ot cells_nt cells_ot cells_opT single_nt single_ot single_opT
end
end Go.Ab
namespace Go.Proofs.YtblfodnajpamfaaGreatDoor
open Go Go.Ab Go.Ab.A34
variable [Gl] [Tabs]
end Go.Proofs.YtblfodnajpamfaaGreatDoor
namespace Go.Ab.A15
def Agr {α : Type} (z : α) (a b : List Int) (x y : List α) : Prop := ∀ i, i < a.length → x.getD (a.getD i 0).toNat z = y.getD (b.getD i 0).toNat z
def Hld {α : Type} (z : α) (R : ByteArray → List (List α)) (t u : ByteArray) (a b : List Int) : Prop := ∀ x ∈ R t, ∃ y ∈ R u, Agr z a b x y
end Go.Ab.A15
namespace Go.Ab.A15
open Go Go.Ab Go.Ab.A34 Go.Ab.A01
def inV (v : V3) : Prop := -9223372036854775808 ≤ v.2.1 ∧ v.2.1 ≤ 9223372036854775807
structure OkR (r : R3) : Prop where
  v : ∀ v ∈ r.2, okV v = true
  n : ∀ v ∈ r.2, inV v
end Go.Ab.A15
namespace Go.Proofs.YtblfodnajpamfaaGreatDoor
open Go Go.Ab Go.Ab.A34 Go.Ab.A15 Go.Ab.A01
variable [Gl] [Tabs]
end Go.Proofs.YtblfodnajpamfaaGreatDoor
namespace Go.Ab
theorem cmpV_zero {k n : Int} {s : ByteArray} {k' n' : Int} {s' : ByteArray} : cmpV k n s k' n' s' = 0 ↔ k = k' ∧ n = n' ∧ s = s' := by
  unfold cmpV
  constructor
  · intro h
    split at h
    · rename_i h1
      split at h
      · rename_i h2
        refine ⟨sgn_zero.1 h1, sgn_zero.1 h2, ?_⟩
        rcases cb_cases s.data.toList s'.data.toList with h3 | ⟨_, h3⟩ | h3
        · omega
        · cases s; cases s'; simp only at h3; rw [Array.toList_inj.1 h3]
        · omega
      · rename_i h2; exact absurd h h2
    · rename_i h1; exact absurd h h1
  · rintro ⟨rfl, rfl, rfl⟩
    rw [if_pos (sgn_zero.2 rfl), if_pos (sgn_zero.2 rfl)]
    rcases cb_cases s.data.toList s.data.toList with h3 | ⟨h3, _⟩ | h3
    · have h4 : ∀ l : List UInt8, Lib.compareBytes l l = 0 := fun l => by
        induction l with
        | nil => rfl
        | cons c l ih => unfold Lib.compareBytes; simp [ih]
      exact h4 _
    · exact h3
    · have h4 : ∀ l : List UInt8, Lib.compareBytes l l = 0 := fun l => by
        induction l with
        | nil => rfl
        | cons c l ih => unfold Lib.compareBytes; simp [ih]
      exact h4 _
end Go.Ab
namespace Go.Ab.A15
open Go Go.Ab Go.Ab.A34
def agB (a b : List Int) (x y : List V3) : Bool := (List.range a.length).all fun i => decide (x.getD (a.getD i 0).toNat v0 = y.getD (b.getD i 0).toNat v0)
theorem agB_iff {a b : List Int} {x y : List V3} : agB a b x y = true ↔ Agr v0 a b x y := by
  unfold agB Agr
  simp [List.all_eq_true]
def violP (F T : List R3) (a b : List Int) (i : Nat) : List Int := ((F.take i).filter fun x => !(T.any fun y => agB a b x.2 y.2)).map (·.1)
def violS (F T : List R3) (a b : List Int) : List Int := violP F T a b F.length
theorem violP_succ {F T : List R3} {a b : List Int} {i : Nat} (h : i < F.length) : violP F T a b (i + 1) = if (T.any fun y => agB a b (F.getD i r0).2 y.2) = true then violP F T a b i else violP F T a b i ++ [(F.getD i r0).1] := by
  have g : F.getD i r0 = F[i] := by simp [List.getD_eq_getElem?_getD, h]
  unfold violP
  rw [List.take_succ_eq_append_getElem h, List.filter_append, List.map_append, g]
  by_cases hc : (T.any fun y => agB a b F[i].2 y.2) = true
  · rw [if_pos hc]; simp [hc]
  · rw [if_neg hc]; simp [hc]
theorem violP_len (F T : List R3) (a b : List Int) (i : Nat) : (violP F T a b i).length ≤ i := by
  unfold violP
  rw [List.length_map]
  refine Nat.le_trans (List.length_filter_le _ _) ?_
  rw [List.length_take]
  omega
theorem any_succ {T : List R3} {p : R3 → Bool} {k : Nat} (h : k < T.length) : (T.take (k + 1)).any p = ((T.take k).any p || p (T.getD k r0)) := by
  have g : T.getD k r0 = T[k] := by simp [List.getD_eq_getElem?_getD, h]
  rw [List.take_succ_eq_append_getElem h, List.any_append, g]
  simp
end Go.Ab.A15
def Go.Ab.zHB_1 : Go.Ab.OZ := (.one 0 [0, 1, 7, 8, 18, 19] (.one 1 [1, 7, 8, 18, 19] (.one 2 [2, 3, 5, 6, 7, 8, 18, 19] (.one 3 [3, 5, 6, 7, 8, 18, 19] (.one 4 [4, 5, 6, 7, 8, 18, 19] (.one 5 [5, 6, 7, 8, 18, 19] (.one 6 [6, 7, 8, 18, 19] (.one 7 [7, 8, 18, 19] (.one 8 [8, 18, 19] (.one 9 [9, 10, 16, 17, 18, 19] (.one 10 [10, 16, 17, 18, 19] (.one 11 [11, 12, 14, 15, 16, 17, 18, 19] (.one 12 [12, 14, 15, 16, 17, 18, 19] (.one 13 [13, 14, 15, 16, 17, 18, 19] (.one 14 [14, 15, 16, 17, 18, 19] (.one 15 [15, 16, 17, 18, 19] (.one 16 [16, 17, 18, 19] (.one 17 [17, 18, 19] (.one 18 [18, 19] (.one 19 [19] .done))))))))))))))))))))
namespace Go.Proofs.YtblfodnajpamfaaGreatDoor
open Go Go.Ab Go.Ab.A34 Go.Ab.A15
variable [Gl] [Tabs]
theorem partner_r (d : Dp) (x y : R3) (hlr : d.l.length = d.r.length) (hll : d.l.length ≤ 1000) (hl : ∀ a ∈ d.l, 0 ≤ a ∧ a < x.2.length) (hr : ∀ a ∈ d.r, 0 ≤ a ∧ a < y.2.length) (ox : ∀ v ∈ x.2, okV v = true) (oy : ∀ v ∈ y.2, okV v = true) :
    PCall Tryz.prog 63 [DV d, .agg [I64 x.1, VL x.2], .agg [I64 y.1, VL y.2]] (SB (agB d.l d.r x.2 y.2)) := by
  obtain ⟨R, hR⟩ : ∃ R, R = agB d.l d.r x.2 y.2 := ⟨_, rfl⟩
  rw [← hR]
  have hbad : ∀ i, i < d.l.length → ¬ x.2.getD (d.l.getD i 0).toNat v0 = y.2.getD (d.r.getD i 0).toNat v0 → R = false := fun i hi hn => by
    rw [hR, Bool.eq_false_iff]
    intro h
    exact hn (agB_iff.1 h i hi)
  have hgood : (∀ i, i < d.l.length → x.2.getD (d.l.getD i 0).toNat v0 = y.2.getD (d.r.getD i 0).toNat v0) → R = true := fun h => by rw [hR]; exact agB_iff.2 h
  clear hR
  obtain ⟨xi, xs⟩ := x
  obtain ⟨yi, ys⟩ := y
  obtain ⟨df, dl, dt, dr⟩ := d
  simp only at *
  refine Call.enter' (N := 35) (rs := [.tmp 6]) Tryz.func63 rfl rfl rfl (by decide) rfl ?_; simp only [argT]; have hD : (0 : Nat) = 0 := rfl
  repeat' first | (refine SW.seq_k fun K hK => ?_) | (refine SW.block ?_) | ((first | refine SW.region ?_ | (refine allF_i fun b hb => ?_; replace hD := And.intro hb hD; clear hb; try simp only [fresh_cons, fresh_nil, and_true, ne_eq, neF] at hD)); try simp only [go_sem, hD, true_implies]) | (apply hK; clear hK K)
  obtain ⟨b5, rfl⟩ : ∃ x, x = b := ⟨_, rfl⟩
  obtain ⟨b4, rfl⟩ : ∃ x, x = b := ⟨_, rfl⟩
  obtain ⟨b3, rfl⟩ : ∃ x, x = b := ⟨_, rfl⟩
  refine Ab.SW.le (S' := ⟨[(3, .fp [Str df, IL dl, Str dt, IL dr]), (4, .fp [I64 xi, VL xs]), (5, .fp [I64 yi, VL ys]), (6, SB false), (7, I64 (0 : Nat))], []⟩) ?_ ?_
  · refine St.le.trans (St.le_freezeP (i := 3) (b := b3) (off := 0) (n := 4) (k := .svs [Str df, IL dl, Str dt, IL dr]) rfl (by simp [find_cons, hD]) (by exact Nat.le_refl 4)) ?_
    simp only [getN, Blk.get, go_sem, hD]
    refine St.le.trans (St.le_freezeP (i := 4) (b := b4) (off := 0) (n := 2) (k := .svs [I64 xi, VL xs]) rfl (by simp [find_cons, hD]) (by exact Nat.le_refl 2)) ?_
    simp only [getN, Blk.get, go_sem, hD]
    refine St.le.trans (St.le_freezeP (i := 5) (b := b5) (off := 0) (n := 2) (k := .svs [I64 yi, VL ys]) rfl (by simp [find_cons, hD]) (by exact Nat.le_refl 2)) ?_
    simp only [getN, Blk.get, go_sem, hD]
    exact St.le_sub (by repeat' (first | exact rfl | exact trivial | constructor))
  clear hD
  have hD : (0 : Nat) = 0 := rfl
  obtain ⟨I, hI⟩ : ∃ I : Nat → St → Prop, ∀ k S, I k S ↔ (∃ (i : Nat) , k = dl.length - i ∧ i ≤ dl.length ∧ (∀ j, j < i → xs.getD (dl.getD j 0).toNat v0 = ys.getD (dr.getD j 0).toNat v0) ∧ S = ⟨[(3, .fp [Str df, IL dl, Str dt, IL dr]), (4, .fp [I64 xi, VL xs]), (5, .fp [I64 yi, VL ys]), (6, SB false), (7, I64 i)], []⟩) := ⟨fun k S => _, fun _ _ => Iff.rfl⟩
  refine SW.loop' I (dl.length) ((hI _ _).2 ⟨0, rfl, Nat.zero_le _, (fun j hj => absurd hj (Nat.not_lt_zero _)), rfl⟩) (by repeat' (first | exact rfl | exact trivial | constructor)) ?_
  intro k S hIn
  obtain ⟨i, rfl, hi, hG, rfl⟩ := (hI _ _).1 hIn
  clear hIn
  have ie : ((i : Nat) : Int).toNat = i := Int.toNat_natCast _
  have i0 : (0 : Int) ≤ ((i : Nat) : Int) := by omega
  by_cases hlt : i < dl.length
  · have hli : ((i : Nat) : Int) < (((dl.length) : Nat) : Int) := by omega
    have w1 : IntKind.i64.wrap ((i : Int) + 1) = ((i + 1 : Nat) : Int) := by rw [i64_wrap (by omega) (by omega)]; omega
    have hlr2 : ((i : Nat) : Int) < ((dr.length : Nat) : Int) := by omega
    have fl : iF dl i = [I64 (dl.getD i 0)] := rfl
    have fr : iF dr i = [I64 (dr.getD i 0)] := rfl
    have hx := hl _ (getD_mem' 0 hlt)
    have hy := hr _ (getD_mem' 0 (show i < dr.length by omega))
    have hb := hbad i hlt
    have hG2 : xs.getD (dl.getD i 0).toNat v0 = ys.getD (dr.getD i 0).toNat v0 → ∀ j, j < i + 1 → xs.getD (dl.getD j 0).toNat v0 = ys.getD (dr.getD j 0).toNat v0 := fun h1 j hj => by
      rcases Nat.lt_or_eq_of_le (Nat.lt_succ_iff.1 hj) with h | h
      · exact hG j h
      · rw [h]; exact h1
    clear hbad hgood
    generalize dl.getD i 0 = p at *
    generalize dr.getD i 0 = q at *
    obtain ⟨p0, p1⟩ := hx
    obtain ⟨q0, q1⟩ := hy
    have mx : xs.getD p.toNat v0 ∈ xs := getD_mem v0 (by omega)
    have my : ys.getD q.toNat v0 ∈ ys := getD_mem v0 (by omega)
    have sx := okV_size (ox _ mx)
    have sy := okV_size (oy _ my)
    have fx : vF xs p.toNat = vC (xs.getD p.toNat v0) := rfl
    have fy : vF ys q.toNat = vC (ys.getD q.toNat v0) := rfl
    generalize xs.getD p.toNat v0 = v at *
    generalize ys.getD q.toNat v0 = w at *
    obtain ⟨v1, v2, v3⟩ := v
    obtain ⟨w1', w2, w3⟩ := w
    simp only at sx sy
    have cr := compare_r v1 v2 v3 w1' w2 w3 (by omega) (by omega)
    have cz := @cmpV_zero v1 v2 v3 w1' w2 w3
    generalize cmpV v1 v2 v3 w1' w2 w3 = c at *
    by_cases hc : c = 0
    · subst hc
      obtain ⟨rfl, rfl, rfl⟩ := cz.1 rfl
      repeat' first | (refine SW.seq_k fun K hK => ?_) | (refine SW.block ?_) | ((first | refine SW.region ?_ | refine SW.regionZ (id := 4) (Checked.mixed Tryz.checked) Go.Ab.zHB_1 (by kernel_rfl) ?_ | refine SW.cond ?_ | refine SW.skip ?_ | refine ⟨_, cr, ?_⟩); try simp only [Go.Ab.zHB_1, go_sem, hD, hli, hlr2, ie, i0, w1, fl, fr, p0, p1, q0, q1, fx, fy, true_implies]) | (apply hK; clear hK K)
      all_goals
        refine Rnd.sub (dl.length - (i + 1)) (by omega) ((hI _ _).2 ⟨i + 1, rfl, by omega, hG2 rfl, rfl⟩) (by repeat' (first | exact rfl | exact trivial | constructor))
    · have hR2 := hb fun e => hc (cz.2 (by simpa using e))
      subst hR2
      repeat' first | (refine SW.seq_k fun K hK => ?_) | (refine SW.block ?_) | ((first | refine SW.region ?_ | refine SW.regionZ (id := 4) (Checked.mixed Tryz.checked) Go.Ab.zHB_1 (by kernel_rfl) ?_ | refine SW.cond ?_ | refine SW.skip ?_ | refine SW.ret ?_ | refine ⟨_, cr, ?_⟩); try simp only [Go.Ab.zHB_1, go_sem, hD, hli, hlr2, ie, i0, w1, fl, fr, p0, p1, q0, q1, fx, fy, hc, true_implies]) | (apply hK; clear hK K)
      all_goals
        refine ret_pure ?_; simp only [resL_tmp, resL_nil, tupOf, go_sem, hD]
  · have hli : ¬ ((i : Nat) : Int) < (((dl.length) : Nat) : Int) := by omega
    have hR2 := hgood fun j hj => hG j (by omega)
    subst hR2
    repeat' first | (refine SW.seq_k fun K hK => ?_) | ((first | refine SW.region ?_ | refine SW.cond ?_ | refine SW.exit ?_ | refine SW.ret ?_); try simp only [go_sem, hD, hli, true_implies]) | (apply hK; clear hK K) | (clear hK K; apply hK; clear hK K)
    refine ret_pure ?_; simp only [resL_tmp, resL_nil, tupOf, go_sem, hD]
end Go.Proofs.YtblfodnajpamfaaGreatDoor
namespace Go.Ab.A15
open Go Go.Ab Go.Ab.A34
def vE (db : List Tb) (d : Dp) : Int := if ¬ chkS db = 0 then chkS db else fitsS db d
def rowsAt (db : List Tb) (x : ByteArray) : List R3 := (db.getD (idxN x (nmsOf db)) t0).rows
def OkN (db : List Tb) : Prop := ∀ t ∈ db, ∀ r ∈ t.rows, ∀ v ∈ r.2, inV v
theorem vE_ok {db : List Tb} {d : Dp} (h : vE db d = 0) : Vdb db ∧ Fit (nmsOf db) (nsOf db) d := by
  unfold vE at h
  by_cases h1 : chkS db = 0
  · rw [if_neg (fun x => x h1)] at h
    exact ⟨chkS_ok h1, fits_ok h⟩
  · rw [if_pos h1] at h
    exact absurd h h1
structure RowsK (db : List Tb) (x : ByteArray) (R : List R3) : Prop where
  n : R.length ≤ 1000
  l : ∀ r ∈ R, r.2.length = (nsOf db).getD (idxN x (nmsOf db)) 0
  v : ∀ r ∈ R, ∀ v ∈ r.2, okV v = true
theorem rows_k {db : List Tb} (V : Vdb db) {x : ByteArray} (h : x ∈ nmsOf db) : RowsK db x (rowsAt db x) := by
  have hl := idxN_lt h
  have hl2 : idxN x (nmsOf db) < db.length := by unfold nmsOf at hl; rwa [List.length_map] at hl
  have hv := valid_rows (V.v _ (getD_mem' t0 hl2))
  have hns : (nsOf db).getD (idxN x (nmsOf db)) 0 = (db.getD (idxN x (nmsOf db)) t0).attrs.length := by
    unfold nsOf
    simp [List.getD_eq_getElem?_getD, hl2]
  exact ⟨hv.1, fun r hr => by rw [hns]; exact (hv.2.2 r hr).1, fun r hr => (hv.2.2 r hr).2⟩
end Go.Ab.A15
def Go.Ab.zHC_1 : Go.Ab.OZ := (.one 0 [0, 1, 2, 3, 4, 5, 6, 7, 8, 9, 10, 11, 12, 13, 14, 15] (.one 1 [1, 2, 3, 4, 5, 6, 7, 8, 9, 10, 11, 12, 13, 14, 15] (.one 2 [2, 13, 14, 15] (.one 3 [3, 4, 6, 7, 13, 14, 15] (.one 4 [4, 6, 7, 13, 14, 15] (.one 5 [5, 6, 7, 13, 14, 15] (.one 6 [6, 7, 13, 14, 15] (.one 7 [7, 13, 14, 15] (.one 8 [8, 9, 11, 12, 13, 14, 15] (.one 9 [9, 11, 12, 13, 14, 15] (.one 10 [10, 11, 12, 13, 14, 15] (.one 11 [11, 12, 13, 14, 15] (.one 12 [12, 13, 14, 15] (.one 13 [13, 14, 15] (.one 14 [14, 15] (.one 15 [15] .done))))))))))))))))
namespace Go.Proofs.YtblfodnajpamfaaGreatDoor
open Go Go.Ab Go.Ab.A34 Go.Ab.A15
variable [Gl] [Tabs]
theorem viol_rbad (db : List Tb) (d : Dp) (hdb : db.length ≤ 9223372036854775807) (hok : OkDb db) (hd : OkD d) (h : ¬ vE db d = 0) : PCall Tryz.prog 31 [DB db, DV d] (.tup [SN, I64 (vE db d)]) := by
  have c := valid_ir db d hdb hok hd
  rw [show (if ¬ chkS db = 0 then chkS db else fitsS db d) = vE db d from rfl] at c
  generalize vE db d = v at *
  obtain ⟨df, dl, dt, dr⟩ := d
  refine Call.enter' (N := 78) (rs := [.tmp 4, .tmp 5]) Tryz.func31 rfl rfl rfl (by decide) rfl ?_; simp only [argT]; have hD : (0 : Nat) = 0 := rfl
  repeat' first | (refine SW.seq_k fun K hK => ?_) | ((first | refine SW.region ?_ | refine SW.cond ?_ | refine SW.ret ?_ | refine Call.of_pure (c) ?_ | (refine allF_i fun b hb => ?_; replace hD := And.intro hb hD; clear hb; try simp only [fresh_cons, fresh_nil, and_true, ne_eq, neF] at hD)); try simp only [go_sem, hD, h, true_implies]) | (apply hK; clear hK K)
  refine ret_pure ?_; simp only [resL_tmp, resL_nil, tupOf, go_sem, hD]
theorem viol_r (db : List Tb) (d : Dp) (hdb : db.length ≤ 9223372036854775807) (hok : OkDb db) (hd : OkD d) (h : vE db d = 0) : PCall Tryz.prog 31 [DB db, DV d] (.tup [IL (violS (rowsAt db d.f) (rowsAt db d.t) d.l d.r), I64 0]) := by
  have c := valid_ir db d hdb hok hd
  rw [show (if ¬ chkS db = 0 then chkS db else fitsS db d) = vE db d from rfl, h] at c
  obtain ⟨V, F⟩ := vE_ok h
  have kf := rows_k V F.f
  have kt := rows_k V F.t
  have l1 := idxN_lt F.f
  have l2 := idxN_lt F.t
  have nl : (nmsOf db).length = db.length := by unfold nmsOf; rw [List.length_map]
  rw [nl] at l1 l2
  have c1 := table_r d.f db db.length (by omega) rfl (tF db) (fun i hi => rfl)
  have c2 := table_r d.t db db.length (by omega) rfl (tF db) (fun i hi => rfl)
  have e1 := tabI_idx (i := 0) F.f
  have e2 := tabI_idx (i := 0) F.t
  rw [Nat.zero_add] at e1 e2
  rw [e1] at c1
  rw [e2] at c2
  have b16 := in16_len F.nl (F.in16l V)
  have pr := fun x (hx : x ∈ rowsAt db d.f) y (hy : y ∈ rowsAt db d.t) => partner_r d x y F.lr (by omega) (fun a ha => by rw [kf.l x hx]; exact F.l a ha) (fun a ha => by rw [kt.l y hy]; exact F.r a ha) (kf.v x hx) (kt.v y hy)
  have kfn := kf.n
  have ktn := kt.n
  unfold rowsAt at pr kfn ktn ⊢
  have ff : tF db (idxN d.f (nmsOf db)) = tC (db.getD (idxN d.f (nmsOf db)) t0) := rfl
  have ft : tF db (idxN d.t (nmsOf db)) = tC (db.getD (idxN d.t (nmsOf db)) t0) := rfl
  clear kf kt F V e1 e2 h
  generalize idxN d.f (nmsOf db) = p at *
  generalize idxN d.t (nmsOf db) = q at *
  have p1 : ((p : Nat) : Int) < ((db.length : Nat) : Int) := by omega
  have q1 : ((q : Nat) : Int) < ((db.length : Nat) : Int) := by omega
  have p0 : (0 : Int) ≤ ((p : Nat) : Int) := by omega
  have q0 : (0 : Int) ≤ ((q : Nat) : Int) := by omega
  have pe : ((p : Nat) : Int).toNat = p := Int.toNat_natCast _
  have qe : ((q : Nat) : Int).toNat = q := Int.toNat_natCast _
  generalize db.getD p t0 = tp at *
  generalize db.getD q t0 = tq at *
  obtain ⟨pn, pa, fr⟩ := tp
  obtain ⟨qn, qa, tr⟩ := tq
  obtain ⟨df, dl, dt, dr⟩ := d
  simp only at pr kfn ktn c1 c2 ⊢
  obtain ⟨W, hW⟩ : ∃ W, W = violP fr tr dl dr := ⟨_, rfl⟩
  have hWs := fun i hi => @violP_succ fr tr dl dr i hi
  have hWl := violP_len fr tr dl dr
  have hWe : violS fr tr dl dr = W fr.length := by rw [hW]; rfl
  have hW0 : W 0 = [] := by rw [hW]; rfl
  rw [← hW] at hWs hWl
  rw [hWe]
  clear hW hWe
  refine Call.enter' (N := 78) (rs := [.tmp 4, .tmp 5]) Tryz.func31 rfl rfl rfl (by decide) rfl ?_; simp only [argT]; have hD : (0 : Nat) = 0 := rfl
  repeat' first | (refine SW.seq_k fun K hK => ?_) | ((first | refine SW.region ?_ | refine SW.cond ?_ | refine SW.skip ?_ | refine Call.of_pure (c) ?_ | (refine allF_i fun b hb => ?_; replace hD := And.intro hb hD; clear hb; try simp only [fresh_cons, fresh_nil, and_true, ne_eq, neF] at hD)); try simp only [go_sem, hD, true_implies]) | (apply hK; clear hK K)
  obtain ⟨b3, rfl⟩ : ∃ x, x = b := ⟨_, rfl⟩
  obtain ⟨b2, rfl⟩ : ∃ x, x = b := ⟨_, rfl⟩
  refine Ab.SW.le (S' := ⟨[(2, .fp [TL db]), (3, .fp [Str df, IL dl, Str dt, IL dr]), (4, SN), (5, I64 0)], []⟩) ?_ ?_
  · refine St.le.trans (St.le_freezeP (i := 3) (b := b3) (off := 0) (n := 4) (k := .svs [Str df, IL dl, Str dt, IL dr]) rfl (by simp [find_cons, hD]) (by exact Nat.le_refl 4)) ?_
    simp only [getN, Blk.get, go_sem, hD]
    refine St.le.trans (St.le_freezeP (i := 2) (b := b2) (off := 0) (n := 1) (k := .svs [TL db]) rfl (by simp [find_cons, hD]) (by exact Nat.le_refl 1)) ?_
    simp only [getN, Blk.get, go_sem, hD]
    exact St.le_sub (by repeat' (first | exact rfl | exact trivial | constructor))
  clear hD
  have hD : (0 : Nat) = 0 := rfl
  have key : ∃ C Q', (∀ S, Ab.SW Tryz.prog 78 C Q' S → K S) ∧ Ab.SW Tryz.prog 78 C Q' ⟨[(2, .fp [TL db]), (3, .fp [Str df, IL dl, Str dt, IL dr]), (4, SN), (5, I64 0), (7, .fp [Str pn, SL pa, RL fr]), (8, .fp [Str qn, SL qa, RL tr])], []⟩ := by
    refine ⟨_, _, hK, ?_⟩
    clear hK K c c1 c2
    repeat' first | (refine SW.seq_k fun K hK => ?_) | (refine SW.block ?_) | (refine SW.region ?_; try simp only [go_sem, hD, true_implies]) | (apply hK; clear hK K)
    obtain ⟨I, hI⟩ : ∃ I : Nat → St → Prop, ∀ k S, I k S ↔ (∃ (i : Nat) (x : SV) (h : Heap), k = fr.length - i ∧ i ≤ fr.length ∧ ((W i = [] ∧ x = SN ∧ h = []) ∨ ∃ g, x = .os g 0 (W i).length 1 ∧ h = [(g, .ints .i64 (W i))]) ∧ S = ⟨[(2, .fp [TL db]), (3, .fp [Str df, IL dl, Str dt, IL dr]), (4, SN), (5, I64 0), (7, .fp [Str pn, SL pa, RL fr]), (8, .fp [Str qn, SL qa, RL tr]), (9, x), (10, I64 i)], h⟩) := ⟨fun k S => _, fun _ _ => Iff.rfl⟩
    refine SW.loop' I (fr.length) ((hI _ _).2 ⟨0, SN, [], rfl, Nat.zero_le _, .inl ⟨hW0, rfl, rfl⟩, rfl⟩) (by repeat' (first | exact rfl | exact trivial | constructor)) ?_
    intro k S hIn
    obtain ⟨i, x, h, rfl, hi, hB, rfl⟩ := (hI _ _).1 hIn
    clear hIn
    have ie : ((i : Nat) : Int).toNat = i := Int.toNat_natCast _
    have i0 : (0 : Int) ≤ ((i : Nat) : Int) := by omega
    by_cases hlt : i < fr.length
    · have hli : ((i : Nat) : Int) < (((fr.length) : Nat) : Int) := by omega
      have w1 : IntKind.i64.wrap ((i : Int) + 1) = ((i + 1 : Nat) : Int) := by rw [i64_wrap (by omega) (by omega)]; omega
      have fi : rF fr i = [I64 (fr.getD i r0).1, VL (fr.getD i r0).2] := rfl
      have hx := pr _ (getD_mem r0 hlt)
      have hst := hWs i hlt
      have hwl := hWl i
      generalize hA : (fun y : R3 => agB dl dr (fr.getD i r0).2 y.2) = A at *
      have hAy : ∀ y, A y = agB dl dr (fr.getD i r0).2 y.2 := fun y => by rw [← hA]
      simp only [← hAy] at hx
      generalize fr.getD i r0 = xr at *
      obtain ⟨xi, xs⟩ := xr
      simp only at hx hst fi
      have hIO := hI
      have ow1 := w1
      have oi0 := i0
      have oie := ie
      have oli := hli
      clear hI
      repeat' first | (refine SW.seq_k fun K hK => ?_) | (refine SW.block ?_) | ((first | refine SW.region ?_ | refine SW.cond ?_ | refine SW.skip ?_); try simp only [go_sem, hD, hli, true_implies]) | (apply hK; clear hK K)
      obtain ⟨I, hI⟩ : ∃ I : Nat → St → Prop, ∀ k S, I k S ↔ (∃ (k2 : Nat) , k = tr.length - k2 ∧ k2 ≤ tr.length ∧ S = ⟨[(2, .fp [TL db]), (3, .fp [Str df, IL dl, Str dt, IL dr]), (4, SN), (5, I64 0), (7, .fp [Str pn, SL pa, RL fr]), (8, .fp [Str qn, SL qa, RL tr]), (9, x), (10, I64 i), (11, SB ((tr.take k2).any A)), (12, I64 k2)], h⟩) := ⟨fun k S => _, fun _ _ => Iff.rfl⟩
      refine SW.loop' I (tr.length) ((hI _ _).2 ⟨0, rfl, Nat.zero_le _, rfl⟩) (by repeat' (first | exact rfl | exact trivial | constructor)) ?_
      intro k S hIn
      obtain ⟨k2, rfl, hi, rfl⟩ := (hI _ _).1 hIn
      clear hIn
      have ie : ((k2 : Nat) : Int).toNat = k2 := Int.toNat_natCast _
      have i0 : (0 : Int) ≤ ((k2 : Nat) : Int) := by omega
      by_cases hlk : k2 < tr.length
      · have hli : ((k2 : Nat) : Int) < (((tr.length) : Nat) : Int) := by omega
        have w1 : IntKind.i64.wrap ((k2 : Int) + 1) = ((k2 + 1 : Nat) : Int) := by rw [i64_wrap (by omega) (by omega)]; omega
        have fk : rF tr k2 = [I64 (tr.getD k2 r0).1, VL (tr.getD k2 r0).2] := rfl
        have hp := hx _ (getD_mem r0 hlk)
        have has := any_succ (p := A) hlk
        generalize tr.getD k2 r0 = yr at *
        obtain ⟨yi, ys⟩ := yr
        simp only at hp fk
        generalize A (yi, ys) = av at *
        generalize hfo : (tr.take k2).any A = fo at *
        generalize hfo2 : (tr.take (k2 + 1)).any A = fo2 at *
        cases fo with
        | true =>
          obtain rfl : fo2 = true := by rw [has]; rfl
          repeat' first | (refine SW.seq_k fun K hK => ?_) | (refine SW.block ?_) | ((first | refine SW.region ?_ | refine SW.regionZ (id := 13) (Checked.mixed Tryz.checked) Go.Ab.zHC_1 (by kernel_rfl) ?_ | refine SW.cond ?_ | refine SW.skip ?_); try simp only [Go.Ab.zHC_1, go_sem, hD, hli, ie, i0, w1, oli, oie, oi0, fi, fk, true_implies]) | (apply hK; clear hK K)
          all_goals
            refine Rnd.sub (tr.length - (k2 + 1)) (by omega) ((hI _ _).2 ⟨k2 + 1, rfl, by omega, by rw [hfo2]⟩) (by repeat' (first | exact rfl | exact trivial | constructor))
        | false =>
          obtain rfl : fo2 = av := by rw [has]; rfl
          repeat' first | (refine SW.seq_k fun K hK => ?_) | (refine SW.block ?_) | ((first | refine SW.region ?_ | refine SW.regionZ (id := 13) (Checked.mixed Tryz.checked) Go.Ab.zHC_1 (by kernel_rfl) ?_ | refine SW.cond ?_ | refine SW.skip ?_ | refine ⟨_, hp, ?_⟩); try simp only [Go.Ab.zHC_1, go_sem, hD, hli, ie, i0, w1, oli, oie, oi0, fi, fk, true_implies]) | (apply hK; clear hK K)
          all_goals
            refine Rnd.sub (tr.length - (k2 + 1)) (by omega) ((hI _ _).2 ⟨k2 + 1, rfl, by omega, by rw [hfo2]⟩) (by repeat' (first | exact rfl | exact trivial | constructor))
      · have hli : ¬ ((k2 : Nat) : Int) < (((tr.length) : Nat) : Int) := by omega
        obtain rfl : k2 = tr.length := by omega
        rw [List.take_length]
        generalize hfo : tr.any A = fo at *
        cases fo with
        | true =>
          rw [if_pos rfl] at hst
          repeat' first | (refine SW.seq_k fun K hK => ?_) | ((first | refine SW.region ?_ | refine SW.cond ?_ | refine SW.skip ?_ | refine SW.exit ?_); try simp only [go_sem, hD, hli, ow1, true_implies]) | (apply hK; clear hK K) | (clear hK K; apply hK; clear hK K)
          refine Rnd.sub (fr.length - (i + 1)) (by omega) ((hIO _ _).2 ⟨i + 1, x, h, rfl, by omega, by rw [hst]; exact hB, rfl⟩) (by repeat' (first | exact rfl | exact trivial | constructor))
        | false =>
          rw [if_neg (by simp)] at hst
          have ba : ((W i).length + 1) * 8 ≤ 140737488355328 := by omega
          rcases hB with ⟨hw0, rfl, rfl⟩ | ⟨g, rfl, rfl⟩
          · have hst2 : W (i + 1) = [xi] := by rw [hst, hw0]; rfl
            repeat' first | (with_reducible refine And.intro (by omega) ?_) | (refine SW.seq_k fun K hK => ?_) | ((first | refine SW.region ?_ | refine SW.cond ?_ | refine SW.exit ?_ | (refine allF_i fun b hb => ?_; replace hD := And.intro hb hD; clear hb; try simp only [fresh_cons, fresh_nil, and_true, ne_eq, neF] at hD) | simp only [appK, appOsK]); try simp only [go_sem, hD, hli, ow1, oli, oie, oi0, fi, ba, true_implies]) | (refine And.intro (by omega) ?_) | (apply hK; clear hK K) | (clear hK K; apply hK; clear hK K)
            refine Rnd.le (St.le_slist (List.Sublist.cons_cons _ (List.Sublist.cons _ (List.Sublist.refl _)))) ?_
            refine Rnd.sub (fr.length - (i + 1)) (by omega) ((hIO _ _).2 ⟨i + 1, .os b 0 1 1, [(b, .ints .i64 [xi])], rfl, by omega, .inr ⟨b, by rw [hst2]; rfl, by rw [hst2]⟩, rfl⟩) (by repeat' (first | exact rfl | exact trivial | constructor))
          · have hst2 : (W (i + 1)).length = (W i).length + 1 := by rw [hst, List.length_append]; rfl
            repeat' first | (with_reducible refine And.intro (by omega) ?_) | (refine SW.seq_k fun K hK => ?_) | ((first | refine SW.region ?_ | refine SW.cond ?_ | refine SW.exit ?_ | (refine allF_i fun b hb => ?_; replace hD := And.intro hb hD; clear hb; try simp only [fresh_cons, fresh_nil, and_true, ne_eq, neF] at hD) | simp only [appK, appOsK]); try simp only [go_sem, hD, hli, ow1, oli, oie, oi0, fi, ba, true_implies]) | (apply hK; clear hK K) | (clear hK K; apply hK; clear hK K)
            refine Rnd.le (St.le_slist (List.Sublist.cons _ (List.Sublist.refl _))) ?_
            refine Rnd.sub (fr.length - (i + 1)) (by omega) ((hIO _ _).2 ⟨i + 1, .os b 0 ((W i).length + 1) 1, [(b, .ints .i64 (W i ++ [xi]))], rfl, by omega, .inr ⟨b, by rw [hst2], by rw [hst]⟩, rfl⟩) (by repeat' (first | exact rfl | exact trivial | constructor))
    · have hli : ¬ ((i : Nat) : Int) < (((fr.length) : Nat) : Int) := by omega
      obtain rfl : i = fr.length := by omega
      generalize W fr.length = R at *
      rcases hB with ⟨rfl, rfl, rfl⟩ | ⟨g, rfl, rfl⟩
      · repeat' first | (refine SW.seq_k fun K hK => ?_) | ((first | refine SW.region ?_ | refine SW.cond ?_ | refine SW.exit ?_ | refine SW.ret ?_); try simp only [go_sem, hD, hli, true_implies]) | (apply hK; clear hK K) | (clear hK K; apply hK; clear hK K)
        refine retQ_le (St.le_say (i := 4) (v := IL []) (fun E u hr => Rep.fl_nil hr)) ?_
        simp only [resL_tmp, resL_nil, tupOf, go_sem, hD]
        try exact rfl
      · repeat' first | (refine SW.seq_k fun K hK => ?_) | ((first | refine SW.region ?_ | refine SW.cond ?_ | refine SW.exit ?_ | refine SW.ret ?_); try simp only [go_sem, hD, hli, true_implies]) | (apply hK; clear hK K) | (clear hK K; apply hK; clear hK K)
        refine retQ_le (St.le_ints (i := 4) .i64 R rfl rfl (by rw [find_cons, if_pos rfl]) rfl) ?_
        rw [del_head]
        simp only [resL_tmp, resL_nil, tupOf, go_sem, hD]
        try exact rfl
  obtain ⟨C, Q', hK2, key⟩ := key
  clear hK
  repeat' first | ((first | refine SW.regionZ (id := 4) (Checked.mixed Tryz.checked) ((.one 0 [0, 1, 7, 8, 20, 21] (.one 1 [1, 7, 8, 20, 21] (.one 2 [2, 3, 6, 7, 8, 15, 16, 17, 20, 21] (.one 3 [3, 6, 7, 8, 15, 16, 17, 20, 21] (.one 4 [4, 5, 6, 7, 8, 15, 16, 17, 20, 21] (.one 5 [5, 6, 7, 8, 15, 16, 17, 20, 21] (.one 6 [6, 7, 8, 15, 16, 17, 20, 21] (.one 7 [7, 8, 20, 21] (.one 8 [8, 20, 21] (.one 11 [11, 12, 15, 16, 17, 20, 21] (.one 12 [12, 15, 16, 17, 20, 21] (.one 13 [13, 14, 15, 16, 17, 20, 21] (.one 14 [14, 15, 16, 17, 20, 21] (.one 15 [15, 16, 17, 20, 21] (.alt 9 (.alt 10 (.alt 16 (.alt 17 (.alt 18 (.alt 19 (.alt 20 (.alt 21 .done .nil) .nil) .nil) (.alt 19 (.alt 18 (.alt 20 (.alt 21 .done .nil) .nil) .nil) .nil)) (.alt 18 (.alt 17 (.alt 19 (.alt 20 (.alt 21 .done .nil) .nil) .nil) (.alt 19 (.alt 17 (.alt 20 (.alt 21 .done .nil) .nil) (.alt 20 (.one 17 [17, 21] (.alt 21 .done .nil)) .nil)) .nil)) (.alt 19 (.alt 17 (.alt 18 (.alt 20 (.alt 21 .done .nil) .nil) .nil) (.alt 18 (.alt 17 (.alt 20 (.alt 21 .done .nil) .nil) (.alt 20 (.one 17 [17, 21] (.alt 21 .done .nil)) .nil)) .nil)) .nil))) (.alt 18 (.alt 16 (.alt 17 (.alt 19 (.alt 20 (.alt 21 .done .nil) .nil) .nil) (.alt 19 (.alt 17 (.alt 20 (.alt 21 .done .nil) .nil) (.alt 20 (.one 17 [17, 21] (.alt 21 .done .nil)) .nil)) .nil)) (.alt 19 (.alt 16 (.alt 17 (.alt 20 (.alt 21 .done .nil) .nil) (.alt 20 (.one 17 [17, 21] (.alt 21 .done .nil)) .nil)) (.alt 20 (.one 16 [16, 17, 21] (.one 17 [17, 21] (.alt 21 .done .nil))) .nil)) .nil)) (.alt 19 (.alt 16 (.alt 17 (.alt 18 (.alt 20 (.alt 21 .done .nil) .nil) .nil) (.alt 18 (.alt 17 (.alt 20 (.alt 21 .done .nil) .nil) (.alt 20 (.one 17 [17, 21] (.alt 21 .done .nil)) .nil)) .nil)) (.alt 18 (.alt 16 (.alt 17 (.alt 20 (.alt 21 .done .nil) .nil) (.alt 20 (.one 17 [17, 21] (.alt 21 .done .nil)) .nil)) (.alt 20 (.one 16 [16, 17, 21] (.one 17 [17, 21] (.alt 21 .done .nil))) .nil)) .nil)) .nil))) (.alt 18 (.alt 10 (.alt 16 (.alt 17 (.alt 19 (.alt 20 (.alt 21 .done .nil) .nil) .nil) (.alt 19 (.alt 17 (.alt 20 (.alt 21 .done .nil) .nil) (.alt 20 (.one 17 [17, 21] (.alt 21 .done .nil)) .nil)) .nil)) (.alt 19 (.alt 16 (.alt 17 (.alt 20 (.alt 21 .done .nil) .nil) (.alt 20 (.one 17 [17, 21] (.alt 21 .done .nil)) .nil)) (.alt 20 (.one 16 [16, 17, 21] (.one 17 [17, 21] (.alt 21 .done .nil))) .nil)) .nil)) (.alt 19 (.alt 10 (.alt 16 (.alt 17 (.alt 20 (.alt 21 .done .nil) .nil) (.alt 20 (.one 17 [17, 21] (.alt 21 .done .nil)) .nil)) (.alt 20 (.one 16 [16, 17, 21] (.one 17 [17, 21] (.alt 21 .done .nil))) .nil)) (.alt 20 (.one 10 [10, 16, 17, 21] (.one 16 [16, 17, 21] (.one 17 [17, 21] (.alt 21 .done .nil)))) .nil)) .nil)) (.alt 19 (.alt 10 (.alt 16 (.alt 17 (.alt 18 (.alt 20 (.alt 21 .done .nil) .nil) .nil) (.alt 18 (.alt 17 (.alt 20 (.alt 21 .done .nil) .nil) (.alt 20 (.one 17 [17, 21] (.alt 21 .done .nil)) .nil)) .nil)) (.alt 18 (.alt 16 (.alt 17 (.alt 20 (.alt 21 .done .nil) .nil) (.alt 20 (.one 17 [17, 21] (.alt 21 .done .nil)) .nil)) (.alt 20 (.one 16 [16, 17, 21] (.one 17 [17, 21] (.alt 21 .done .nil))) .nil)) .nil)) (.alt 18 (.alt 10 (.alt 16 (.alt 17 (.alt 20 (.alt 21 .done .nil) .nil) (.alt 20 (.one 17 [17, 21] (.alt 21 .done .nil)) .nil)) (.alt 20 (.one 16 [16, 17, 21] (.one 17 [17, 21] (.alt 21 .done .nil))) .nil)) (.alt 20 (.one 10 [10, 16, 17, 21] (.one 16 [16, 17, 21] (.one 17 [17, 21] (.alt 21 .done .nil)))) .nil)) .nil)) .nil))) (.alt 18 (.alt 9 (.alt 10 (.alt 16 (.alt 17 (.alt 19 (.alt 20 (.alt 21 .done .nil) .nil) .nil) (.alt 19 (.alt 17 (.alt 20 (.alt 21 .done .nil) .nil) (.alt 20 (.one 17 [17, 21] (.alt 21 .done .nil)) .nil)) .nil)) (.alt 19 (.alt 16 (.alt 17 (.alt 20 (.alt 21 .done .nil) .nil) (.alt 20 (.one 17 [17, 21] (.alt 21 .done .nil)) .nil)) (.alt 20 (.one 16 [16, 17, 21] (.one 17 [17, 21] (.alt 21 .done .nil))) .nil)) .nil)) (.alt 19 (.alt 10 (.alt 16 (.alt 17 (.alt 20 (.alt 21 .done .nil) .nil) (.alt 20 (.one 17 [17, 21] (.alt 21 .done .nil)) .nil)) (.alt 20 (.one 16 [16, 17, 21] (.one 17 [17, 21] (.alt 21 .done .nil))) .nil)) (.alt 20 (.one 10 [10, 16, 17, 21] (.one 16 [16, 17, 21] (.one 17 [17, 21] (.alt 21 .done .nil)))) .nil)) .nil)) (.alt 19 (.alt 9 (.alt 10 (.alt 16 (.alt 17 (.alt 20 (.alt 21 .done .nil) .nil) (.alt 20 (.one 17 [17, 21] (.alt 21 .done .nil)) .nil)) (.alt 20 (.one 16 [16, 17, 21] (.one 17 [17, 21] (.alt 21 .done .nil))) .nil)) (.alt 20 (.one 10 [10, 16, 17, 21] (.one 16 [16, 17, 21] (.one 17 [17, 21] (.alt 21 .done .nil)))) .nil)) (.alt 20 (.one 9 [9, 10, 16, 17, 21] (.one 10 [10, 16, 17, 21] (.one 16 [16, 17, 21] (.one 17 [17, 21] (.alt 21 .done .nil))))) .nil)) .nil)) (.alt 19 (.alt 9 (.alt 10 (.alt 16 (.alt 17 (.alt 18 (.alt 20 (.alt 21 .done .nil) .nil) .nil) (.alt 18 (.alt 17 (.alt 20 (.alt 21 .done .nil) .nil) (.alt 20 (.one 17 [17, 21] (.alt 21 .done .nil)) .nil)) .nil)) (.alt 18 (.alt 16 (.alt 17 (.alt 20 (.alt 21 .done .nil) .nil) (.alt 20 (.one 17 [17, 21] (.alt 21 .done .nil)) .nil)) (.alt 20 (.one 16 [16, 17, 21] (.one 17 [17, 21] (.alt 21 .done .nil))) .nil)) .nil)) (.alt 18 (.alt 10 (.alt 16 (.alt 17 (.alt 20 (.alt 21 .done .nil) .nil) (.alt 20 (.one 17 [17, 21] (.alt 21 .done .nil)) .nil)) (.alt 20 (.one 16 [16, 17, 21] (.one 17 [17, 21] (.alt 21 .done .nil))) .nil)) (.alt 20 (.one 10 [10, 16, 17, 21] (.one 16 [16, 17, 21] (.one 17 [17, 21] (.alt 21 .done .nil)))) .nil)) .nil)) (.alt 18 (.alt 9 (.alt 10 (.alt 16 (.alt 17 (.alt 20 (.alt 21 .done .nil) .nil) (.alt 20 (.one 17 [17, 21] (.alt 21 .done .nil)) .nil)) (.alt 20 (.one 16 [16, 17, 21] (.one 17 [17, 21] (.alt 21 .done .nil))) .nil)) (.alt 20 (.one 10 [10, 16, 17, 21] (.one 16 [16, 17, 21] (.one 17 [17, 21] (.alt 21 .done .nil)))) .nil)) (.alt 20 (.one 9 [9, 10, 16, 17, 21] (.one 10 [10, 16, 17, 21] (.one 16 [16, 17, 21] (.one 17 [17, 21] (.alt 21 .done .nil))))) .nil)) .nil)) .nil))))))))))))))))) : OZ) (by kernel_rfl) ?_ | refine ⟨_, c1, ?_⟩ | refine ⟨_, c2, ?_⟩ | (refine allF_i fun b hb => ?_; replace hD := And.intro hb hD; clear hb; try simp only [fresh_cons, fresh_nil, and_true, ne_eq, neF] at hD)); try simp only [go_sem, hD, p1, q1, p0, q0, pe, qe, ff, ft, true_implies]) | (refine And.intro ?_ ?_)
  all_goals
    obtain ⟨x1, rfl⟩ : ∃ x, x = b := ⟨_, rfl⟩
    obtain ⟨x2, rfl⟩ : ∃ x, x = b := ⟨_, rfl⟩
    refine hK2 _ (Ab.SW.le ?_ key)
    clear hK2 key
    refine St.le.trans (St.le_freezeP (i := 8) (off := 0) (n := 3) (k := .svs [Str qn, SL qa, RL tr]) rfl (by simp [find_cons, hD]) (by exact Nat.le_refl 3)) ?_
    simp only [getN, Blk.get, go_sem, hD]
    refine St.le.trans (St.le_freezeP (i := 7) (off := 0) (n := 3) (k := .svs [Str pn, SL pa, RL fr]) rfl (by simp [find_cons, hD]) (by exact Nat.le_refl 3)) ?_
    simp only [getN, Blk.get, go_sem, hD]
    exact St.le_sub (by repeat' (first | exact rfl | exact trivial | constructor))
end Go.Proofs.YtblfodnajpamfaaGreatDoor
namespace Go.Ab.A15
open Go Go.Ab Go.Ab.A34 Go.Ab.A01
def mapB (S : List ByteArray) : List (Value × Value) := S.map fun s => (.string s, .bool true)
end Go.Ab.A15
namespace Go.Proofs.YtblfodnajpamfaaGreatDoor
open Go Go.Ab Go.Ab.A34 Go.Ab.A15 Go.Ab.A01
variable [Gl] [Tabs]
end Go.Proofs.YtblfodnajpamfaaGreatDoor
namespace Go.Ab.A15
open Go Go.Ab Go.Ab.A34
def hldB (db : List Tb) (d : Dp) : Bool := decide (vE db d = 0) && (violS (rowsAt db d.f) (rowsAt db d.t) d.l d.r).isEmpty
theorem viol_nil {F T : List R3} {a b : List Int} : violS F T a b = [] ↔ ∀ x ∈ F, ∃ y ∈ T, Agr v0 a b x.2 y.2 := by
  unfold violS violP
  rw [List.take_length, List.map_eq_nil_iff, List.filter_eq_nil_iff]
  constructor
  · intro h x hx
    have := h x hx
    simp only [Bool.not_eq_true', Bool.not_eq_false, List.any_eq_true] at this
    obtain ⟨y, hy, e⟩ := this
    exact ⟨y, hy, agB_iff.1 e⟩
  · intro h x hx
    obtain ⟨y, hy, e⟩ := h x hx
    simp only [Bool.not_eq_true', Bool.not_eq_false, List.any_eq_true]
    exact ⟨y, hy, agB_iff.2 e⟩
def valsAt (db : List Tb) (x : ByteArray) : List (List V3) := (rowsAt db x).map (·.2)
theorem hld_iff {db : List Tb} {d : Dp} : hldB db d = true ↔ vE db d = 0 ∧ Hld v0 (valsAt db) d.f d.t d.l d.r := by
  unfold hldB
  rw [Bool.and_eq_true, decide_eq_true_eq, List.isEmpty_iff, viol_nil]
  refine and_congr_right fun _ => ⟨fun h x hx => ?_, fun h x hx => ?_⟩
  · obtain ⟨r, hr, rfl⟩ := List.mem_map.1 hx
    obtain ⟨y, hy, e⟩ := h r hr
    exact ⟨y.2, List.mem_map.2 ⟨y, hy, rfl⟩, e⟩
  · obtain ⟨z, hz, e⟩ := h x.2 (List.mem_map.2 ⟨x, hx, rfl⟩)
    obtain ⟨y, hy, rfl⟩ := List.mem_map.1 hz
    exact ⟨y, hy, e⟩
theorem vE_of {db : List Tb} {d : Dp} (hc : chkS db = 0) (hf : fitsS db d = 0) : vE db d = 0 := by
  unfold vE
  rw [if_neg (fun x => x hc), hf]
theorem posFd_step {p : Dp → Bool} {l : List Dp} {i : Nat} (h : i < l.length) : posF p i (l.drop i) = if p (l.getD i d0) = true then (i : Int) else posF p (i + 1) (l.drop (i + 1)) := posF_step d0 h
end Go.Ab.A15
namespace Go.Proofs.YtblfodnajpamfaaGreatDoor
open Go Go.Ab Go.Ab.A34 Go.Ab.A15
variable [Gl] [Tabs]
theorem holds_r (db : List Tb) (d : Dp) (hdb : db.length ≤ 9223372036854775807) (hok : OkDb db) (hd : OkD d) : PCall Tryz.prog 23 [DB db, DV d] (SB (hldB db d)) := by
  by_cases h : vE db d = 0
  · have c := viol_r db d hdb hok hd h
    unfold hldB
    rw [h, decide_eq_true rfl]
    generalize violS (rowsAt db d.f) (rowsAt db d.t) d.l d.r = W at *
    obtain ⟨df, dl, dt, dr⟩ := d
    cases W with
    | nil =>
      refine Call.enter' (N := 20) (rs := [.tmp 4]) Tryz.func23 rfl rfl rfl (by decide) rfl ?_; simp only [argT]; have hD : (0 : Nat) = 0 := rfl
      repeat' first | (refine SW.seq_k fun K hK => ?_) | ((first | refine SW.region ?_ | refine SW.ret ?_ | refine Call.of_pure (c) ?_ | (refine allF_i fun b hb => ?_; replace hD := And.intro hb hD; clear hb; try simp only [fresh_cons, fresh_nil, and_true, ne_eq, neF] at hD)); try simp only [go_sem, hD, true_implies]) | (apply hK; clear hK K)
      refine ret_pure ?_; simp only [resL_tmp, resL_nil, tupOf, go_sem, hD]
      try rfl
    | cons x W =>
      have hw : ¬ (((x :: W).length : Nat) : Int) = 0 := by rw [List.length_cons]; omega
      generalize hXW : x :: W = Y at *
      have hY : Y.isEmpty = false := by rw [← hXW]; rfl
      rw [hY]
      refine Call.enter' (N := 20) (rs := [.tmp 4]) Tryz.func23 rfl rfl rfl (by decide) rfl ?_; simp only [argT]; have hD : (0 : Nat) = 0 := rfl
      repeat' first | (refine SW.seq_k fun K hK => ?_) | ((first | refine SW.region ?_ | refine SW.ret ?_ | refine Call.of_pure (c) ?_ | (refine allF_i fun b hb => ?_; replace hD := And.intro hb hD; clear hb; try simp only [fresh_cons, fresh_nil, and_true, ne_eq, neF] at hD)); try simp only [go_sem, hD, hw, true_implies]) | (apply hK; clear hK K)
      refine ret_pure ?_; simp only [resL_tmp, resL_nil, tupOf, go_sem, hD]
      try rfl
  · have c := viol_rbad db d hdb hok hd h
    unfold hldB
    rw [decide_eq_false h]
    generalize vE db d = v at *
    obtain ⟨df, dl, dt, dr⟩ := d
    refine Call.enter' (N := 20) (rs := [.tmp 4]) Tryz.func23 rfl rfl rfl (by decide) rfl ?_; simp only [argT]; have hD : (0 : Nat) = 0 := rfl
    repeat' first | (refine SW.seq_k fun K hK => ?_) | ((first | refine SW.region ?_ | refine SW.ret ?_ | refine Call.of_pure (c) ?_ | (refine allF_i fun b hb => ?_; replace hD := And.intro hb hD; clear hb; try simp only [fresh_cons, fresh_nil, and_true, ne_eq, neF] at hD)); try simp only [go_sem, hD, h, true_implies]) | (apply hK; clear hK K)
    refine ret_pure ?_; simp only [resL_tmp, resL_nil, tupOf, go_sem, hD]
    try rfl
theorem indexF_d (g : FuncId) (caps : List SV) (p : Dp → Bool) (l : List Dp) (hl : l.length ≤ 1000000) (hg : ∀ d ∈ l, PCall Tryz.prog g (DV d :: caps) (SB (p d))) : PCall Tryz.prog 56 [DpL l, .fn (.func g) [] caps] (I64 (posF p 0 l)) := by
  obtain ⟨R, hR⟩ : ∃ R, R = posF p 0 l := ⟨_, rfl⟩
  rw [← hR]
  refine Call.enter' (N := 19) (rs := [.tmp 4]) Tryz.func56 rfl rfl rfl (by decide) rfl ?_; simp only [argT]; have hD : (0 : Nat) = 0 := rfl
  repeat' first | (refine SW.seq_k fun K hK => ?_) | (refine SW.block ?_) | (refine SW.region ?_; try simp only [go_sem, hD]) | (apply hK; clear hK K)
  obtain ⟨I, hI⟩ : ∃ I : Nat → St → Prop, ∀ k S, I k S ↔ (∃ (i : Nat) , k = l.length - i ∧ i ≤ l.length ∧ R = posF p i (l.drop i) ∧ S = ⟨[(0, DpL l), (1, .fn (.func g) [] caps), (7, I64 l.length), (8, I64 i)], []⟩) := ⟨fun k S => _, fun _ _ => Iff.rfl⟩
  refine SW.loop' I (l.length) ((hI _ _).2 ⟨0, rfl, Nat.zero_le _, hR, rfl⟩) (by repeat' (first | exact rfl | exact trivial | constructor)) ?_
  intro k S hIn
  obtain ⟨i, rfl, hi, hC, rfl⟩ := (hI _ _).1 hIn
  clear hIn
  have ie : ((i : Nat) : Int).toNat = i := Int.toNat_natCast _
  have i0 : (0 : Int) ≤ ((i : Nat) : Int) := by omega
  clear hR
  by_cases hlt : i < l.length
  · have hli : ((i : Nat) : Int) < (((l.length) : Nat) : Int) := by omega
    have w1 : IntKind.i64.wrap ((i : Int) + 1) = ((i + 1 : Nat) : Int) := by rw [i64_wrap (by omega) (by omega)]; omega
    rw [posFd_step hlt] at hC
    have fi : dpF l i = dC (l.getD i d0) := rfl
    have c := hg _ (getD_mem' d0 hlt)
    generalize l.getD i d0 = t at *
    obtain ⟨df, dl, dt, dr⟩ := t
    cases he : p ⟨df, dl, dt, dr⟩ with
    | true =>
      rw [he] at c
      rw [he, if_pos rfl] at hC
      subst hC
      repeat' first | (refine SW.seq_k fun K hK => ?_) | (refine SW.block ?_) | ((first | refine SW.region ?_ | refine SW.cond ?_ | refine SW.skip ?_ | refine SW.ret ?_ | refine Call.of_pure (c) ?_); try simp only [go_sem, hD, hli, ie, i0, w1, fi]) | (apply hK; clear hK K)
      refine ret_pure ?_; simp only [resL_tmp, resL_nil, tupOf, go_sem, hD]
    | false =>
      rw [he] at c
      rw [he, if_neg (by simp)] at hC
      repeat' first | (refine SW.seq_k fun K hK => ?_) | (refine SW.block ?_) | ((first | refine SW.region ?_ | refine SW.cond ?_ | refine SW.skip ?_ | refine Call.of_pure (c) ?_); try simp only [go_sem, hD, hli, ie, i0, w1, fi]) | (apply hK; clear hK K)
      refine Rnd.sub (l.length - (i + 1)) (by omega) ((hI _ _).2 ⟨i + 1, rfl, by omega, hC, rfl⟩) (by repeat' (first | exact rfl | exact trivial | constructor))
  · have hli : ¬ ((i : Nat) : Int) < (((l.length) : Nat) : Int) := by omega
    rw [List.drop_of_length_le (by omega)] at hC
    have hC2 : R = -1 := hC
    subst hC2
    repeat' first | (refine SW.seq_k fun K hK => ?_) | ((first | refine SW.region ?_ | refine SW.cond ?_ | refine SW.exit ?_ | refine SW.ret ?_); try simp only [go_sem, hD, hli]) | (apply hK; clear hK K) | (clear hK K; apply hK; clear hK K)
    refine ret_pure ?_; simp only [resL_tmp, resL_nil, tupOf, go_sem, hD]
theorem contF_d (g : FuncId) (caps : List SV) (p : Dp → Bool) (l : List Dp) (hl : l.length ≤ 1000000) (hg : ∀ d ∈ l, PCall Tryz.prog g (DV d :: caps) (SB (p d))) : PCall Tryz.prog 21 [DpL l, .fn (.func g) [] caps] (SB (l.any p)) := by
  have ix := indexF_d g caps p l hl hg
  have hm := posF_any p l 0
  generalize posF p 0 l = z at *
  cases ha : l.any p with
  | true =>
    have hz := hm.2 ha
    refine Call.enter' (N := 9) (rs := [.tmp 4]) Tryz.func21 rfl rfl rfl (by decide) rfl ?_; simp only [argT]; have hD : (0 : Nat) = 0 := rfl
    repeat' first | (refine SW.seq_k fun K hK => ?_) | ((first | refine SW.region ?_ | refine SW.ret ?_ | refine Call.of_pure (ix) ?_); try simp only [go_sem, hD, hz, true_implies]) | (apply hK; clear hK K)
    refine ret_pure ?_; simp only [resL_tmp, resL_nil, tupOf, go_sem, hD]
  | false =>
    have hz : ¬ 0 ≤ z := fun h => by have := hm.1 h; rw [ha] at this; cases this
    refine Call.enter' (N := 9) (rs := [.tmp 4]) Tryz.func21 rfl rfl rfl (by decide) rfl ?_; simp only [argT]; have hD : (0 : Nat) = 0 := rfl
    repeat' first | (refine SW.seq_k fun K hK => ?_) | ((first | refine SW.region ?_ | refine SW.ret ?_ | refine Call.of_pure (ix) ?_); try simp only [go_sem, hD, hz, true_implies]) | (apply hK; clear hK K)
    refine ret_pure ?_; simp only [resL_tmp, resL_nil, tupOf, go_sem, hD]
end Go.Proofs.YtblfodnajpamfaaGreatDoor
namespace Go.Ab.A15
open Go Go.Ab Go.Ab.A34
theorem refW_len (db : List Tb) (ws : List Wt) : (refW db ws).length = db.length := refP_len _ _ _
theorem refW_get {db : List Tb} {ws : List Wt} {i : Nat} (h : i < db.length) : (refW db ws).getD i t0 = tabW (db.getD i t0) (ws.getD i w0).2 := by
  unfold refW refP
  rw [getD_range _ _ h]
theorem refW_nms (db : List Tb) (ws : List Wt) : nmsOf (refW db ws) = nmsOf db := by
  refine List.ext_getElem (by simp [nmsOf, refW_len]) fun i h1 h2 => ?_
  have hi : i < db.length := by simpa [nmsOf] using h2
  have hi2 : i < (refW db ws).length := by rw [refW_len]; exact hi
  have e := refW_get (ws := ws) hi
  rw [show (refW db ws).getD i t0 = (refW db ws)[i] by simp [List.getD_eq_getElem?_getD, hi2], show db.getD i t0 = db[i] by simp [List.getD_eq_getElem?_getD, hi]] at e
  simp only [nmsOf, List.getElem_map]
  rw [e]
  rfl
theorem refW_ns (db : List Tb) (ws : List Wt) : nsOf (refW db ws) = nsOf db := by
  refine List.ext_getElem (by simp [nsOf, refW_len]) fun i h1 h2 => ?_
  have hi : i < db.length := by simpa [nsOf] using h2
  have hi2 : i < (refW db ws).length := by rw [refW_len]; exact hi
  have e := refW_get (ws := ws) hi
  rw [show (refW db ws).getD i t0 = (refW db ws)[i] by simp [List.getD_eq_getElem?_getD, hi2], show db.getD i t0 = db[i] by simp [List.getD_eq_getElem?_getD, hi]] at e
  simp only [nsOf, List.getElem_map]
  rw [e]
  rfl
theorem nv_ok (n : Int) : okV (nvW n) = true := by
  have e : emp (⟨#[]⟩ : ByteArray) = true := barr_eq.2 rfl
  unfold okV nvW vok
  simp [e]
theorem rows_mem {L : List (List Int)} {k : Nat} (hk : k ≤ L.length) {r : R3} (h : r ∈ rowsP L k) : ∃ x ∈ L, r.2 = x.map nvW := by
  obtain ⟨j, hj, rfl⟩ := List.mem_map.1 h
  exact ⟨_, getD_mem' [] (show j < L.length by have := List.mem_range.1 hj; omega), rfl⟩
theorem mem_rows {L : List (List Int)} {x : List Int} (h : x ∈ L) : ∃ r ∈ rowsP L L.length, r.2 = x.map nvW := by
  obtain ⟨j, hj, rfl⟩ := List.getElem_of_mem h
  exact ⟨rowW j (L.getD j []), List.mem_map.2 ⟨j, List.mem_range.2 hj, rfl⟩, by simp [rowW, List.getD_eq_getElem?_getD, hj]⟩
theorem rowsV_W {n : Nat} {L : List (List Int)} (h : ∀ x ∈ L, x.length = n) : ∀ (k j : Nat) (p : Int), j + k = L.length → p < (j : Int) + 1 → rowsV n p ((List.range' j k).map fun i => rowW i (L.getD i [])) = 0
  | 0, j, p, _, _ => rfl
  | k + 1, j, p, hk, hp => by
    have hx := h _ (getD_mem' [] (show j < L.length by omega))
    rw [List.range'_succ, List.map_cons, rowsV]
    rw [if_neg (show ¬ (rowW j (L.getD j [])).1 ≤ p by show ¬ (j : Int) + 1 ≤ p; omega), if_neg (by rw [Classical.not_not]; show ((L.getD j []).map nvW).length = n; rw [List.length_map]; exact hx), if_pos (by
      rw [List.all_eq_true]
      intro v hv
      obtain ⟨m, _, rfl⟩ := List.mem_map.1 hv
      exact nv_ok m)]
    exact rowsV_W h k (j + 1) _ (by omega) (by show (j : Int) + 1 < ((j + 1 : Nat) : Int) + 1; omega)
theorem tabW_valid {t : Tb} {L : List (List Int)} (ht : validS t = 0) (hl : L.length ≤ 1000) (h : ∀ x ∈ L, x.length = t.attrs.length) : validS (tabW t L) = 0 := by
  have h1 : nameB t.name.data.toList = true ∧ ¬ 16 < t.attrs.length ∧ namesB t.attrs = true := by
    unfold validS at ht
    split at ht
    · rename_i a1
      split at ht
      · cases ht
      · rename_i a2
        split at ht
        · rename_i a3
          exact ⟨a1, by omega, a3⟩
        · cases ht
    · cases ht
  obtain ⟨a1, a2, a3⟩ := h1
  have hrl : (tabW t L).rows.length = L.length := by
    show (rowsP _ _).length = _
    rw [rowsP_len, srt_len]
  unfold validS
  rw [if_pos (show nameB (tabW t L).name.data.toList = true from a1), if_neg (show ¬ (16 < (tabW t L).attrs.length ∨ 1000 < (tabW t L).rows.length) by rw [hrl]; show ¬ (16 < t.attrs.length ∨ _); omega), if_pos (show namesB (tabW t L).attrs = true from a3)]
  show rowsV t.attrs.length 0 ((List.range (srtL L).length).map fun j => rowW j ((srtL L).getD j [])) = 0
  rw [List.range_eq_range']
  exact rowsV_W (fun x hx => h x ((srt_perm L).mem_iff.1 hx)) _ 0 0 (by omega) (by omega)
theorem getD_map_nv {r : List Int} {k : Nat} (h : k < r.length) : (r.map nvW).getD k v0 = nvW (r.getD k 0) := by
  simp [List.getD_eq_getElem?_getD, h]
theorem nv_inj {a b : Int} (h : nvW a = nvW b) : a = b := by
  unfold nvW at h
  simpa using h
theorem vals_mem {db : List Tb} {ws : List Wt} {x : ByteArray} (hx : x ∈ nmsOf db) {v : List V3} : v ∈ valsAt (refW db ws) x ↔ ∃ r ∈ (ws.getD (idxN x (nmsOf db)) w0).2, v = r.map nvW := by
  have hl := idxN_lt hx
  have hl2 : idxN x (nmsOf db) < db.length := by unfold nmsOf at hl; rwa [List.length_map] at hl
  unfold valsAt rowsAt
  rw [refW_nms, refW_get hl2]
  show v ∈ (rowsP (srtL _) (srtL _).length).map (·.2) ↔ _
  constructor
  · intro h
    obtain ⟨r, hr, rfl⟩ := List.mem_map.1 h
    obtain ⟨y, hy, e⟩ := rows_mem (Nat.le_refl _) hr
    exact ⟨y, (srt_perm _).mem_iff.1 hy, e⟩
  · rintro ⟨r, hr, rfl⟩
    obtain ⟨y, hy, e⟩ := mem_rows ((srt_perm _).mem_iff.2 hr)
    exact List.mem_map.2 ⟨y, hy, e⟩
structure RefK (db : List Tb) (l : List Dp) (g : Dp) (R : List Tb) : Prop where
  len : R.length = db.length
  okn : OkN R
  okd : OkDb R
  all : ∀ d ∈ l, hldB R d = true
  no : hldB R g = false
  vl : ∀ d ∈ l, vE R d = 0
  vg : vE R g = 0
  at16 : ∀ t ∈ R, t.attrs.length ≤ 16
theorem ref_k {db : List Tb} {l : List Dp} {g : Dp} {ws : List Wt} {z : Int} (V : Vall db l g) (hG : GoodW db l g ws z) (h4 : db.length ≤ 4) (h3 : g.l.length ≤ 3) (hneg : distS l g < 0) : RefK db l g (refW db ws) := by
  have hS := V.small h4 h3
  have hlen := refW_len db ws
  have hws : ∀ s, (ws.getD s w0).2.length ≤ 400 := fun s => by
    rcases Nat.lt_or_ge s ws.length with hs | hs
    · have := len_tot hs
      have := hG.wi.z
      have := hG.z
      omega
    · rw [List.getD_eq_getElem?_getD, List.getElem?_eq_none hs]
      exact Nat.zero_le _
  have hrow : ∀ i, i < db.length → ∀ x ∈ (ws.getD i w0).2, x.length = (db.getD i t0).attrs.length := fun i hi x hx => by
    have := ((hG.mem i x).1 hx).len
    rw [this]
    unfold nsOf
    simp [List.getD_eq_getElem?_getD, hi]
  have hmemR : ∀ t ∈ refW db ws, ∃ i, i < db.length ∧ t = tabW (db.getD i t0) (ws.getD i w0).2 := fun t ht => by
    obtain ⟨i, hi, rfl⟩ := List.mem_map.1 ht
    exact ⟨i, List.mem_range.1 hi, rfl⟩
  have hVd : Vdb (refW db ws) := ⟨fun t ht => by
    obtain ⟨i, hi, rfl⟩ := hmemR t ht
    exact tabW_valid (V.vd.v _ (getD_mem' t0 hi)) (by have := hws i; omega) (hrow i hi), by rw [refW_nms]; exact V.vd.n⟩
  have hfit : ∀ d, Fit (nmsOf db) (nsOf db) d → vE (refW db ws) d = 0 := fun d F => vE_of (chkS_of hVd (by omega)) (fitsS_of (by rw [refW_nms, refW_ns]; exact F))
  have hval : ∀ i, i < db.length → ∀ x ∈ (ws.getD i w0).2, ∀ n ∈ x, 0 ≤ n ∧ n ≤ 3 := fun i hi x hx n hn => by
    obtain ⟨k, hk, rfl⟩ := List.getElem_of_mem hn
    have := ((hG.mem i x).1 hx).val k
    rw [show x.getD k 0 = x[k] by simp [List.getD_eq_getElem?_getD, hk]] at this
    omega
  refine ⟨hlen, fun t ht r hr v hv => ?_, fun t ht r hr => ?_, fun d hd => ?_, ?_, fun d hd => hfit d (V.l d hd), hfit g V.g, fun t ht => (valid_rows (hVd.v t ht)).2.1⟩
  · obtain ⟨i, hi, rfl⟩ := hmemR t ht
    obtain ⟨x, hx, e⟩ := rows_mem (Nat.le_refl _) hr
    rw [e] at hv
    obtain ⟨n, hn, rfl⟩ := List.mem_map.1 hv
    have := hval i hi x ((srt_perm _).mem_iff.1 hx) n hn
    show -9223372036854775808 ≤ n ∧ n ≤ 9223372036854775807
    omega
  · have := ((valid_rows (hVd.v t ht)).2.2 r hr).1
    have := (valid_rows (hVd.v t ht)).2.1
    omega
  · have F := V.l d hd
    refine hld_iff.2 ⟨hfit d F, fun x hx => ?_⟩
    obtain ⟨r, hr, rfl⟩ := (vals_mem F.f).1 hx
    have himg := hG.cl d hd r hr
    refine ⟨_, (vals_mem F.t).2 ⟨_, himg, rfl⟩, fun i hi => ?_⟩
    have h1 := F.l _ (getD_mem' 0 hi)
    have h2 := F.r _ (getD_mem' 0 (show i < d.r.length by rw [← F.lr]; exact hi))
    have l1 := ((hG.mem _ _).1 hr).len
    have l2 := ((hG.mem _ _).1 himg).len
    rw [getD_map_nv (by omega), getD_map_nv (by omega), img_agree F r i hi]
  · rw [Bool.eq_false_iff]
    intro h
    have hH := (hld_iff.1 h).2
    obtain ⟨y, hy, hA⟩ := hH _ ((vals_mem V.g.f).2 ⟨_, hG.first, rfl⟩)
    obtain ⟨r, hr, rfl⟩ := (vals_mem V.g.t).1 hy
    have hc := (hG.mem _ _).1 hr
    refine hc.refutes hS.bds V.l V.g hneg fun i hi => ?_
    have h1 := V.g.l _ (getD_mem' 0 hi)
    have h2 := V.g.r _ (getD_mem' 0 (show i < g.r.length by rw [← V.g.lr]; exact hi))
    have l1 := ((hG.mem _ _).1 hG.first).len
    have l2 := hc.len
    have := hA i hi
    rw [getD_map_nv (by omega), getD_map_nv (by omega)] at this
    exact (nv_inj this).symm
end Go.Ab.A15
namespace Go.Ab.A15
open Go Go.Ab Go.Ab.A34
def cmp3 (a b : V3) : Int := cmpV a.1 a.2.1 a.2.2 b.1 b.2.1 b.2.2
def lexV : List V3 → List V3 → Int
  | a :: x, b :: y => if cmp3 a b = 0 then lexV x y else cmp3 a b
  | x, y => sgn x.length y.length
theorem lexV_nil (y : List V3) : lexV [] y = sgn 0 y.length := by
  cases y <;> rfl
theorem lexV_nil' (x : List V3) : lexV x [] = sgn x.length 0 := by
  cases x <;> rfl
theorem lexV_step {x y : List V3} {i : Nat} (hx : i < x.length) (hy : i < y.length) : lexV (x.drop i) (y.drop i) = if cmp3 (x.getD i v0) (y.getD i v0) = 0 then lexV (x.drop (i + 1)) (y.drop (i + 1)) else cmp3 (x.getD i v0) (y.getD i v0) := by
  have g1 : x.getD i v0 = x[i] := by simp [List.getD_eq_getElem?_getD, hx]
  have g2 : y.getD i v0 = y[i] := by simp [List.getD_eq_getElem?_getD, hy]
  rw [List.drop_eq_getElem_cons hx, List.drop_eq_getElem_cons hy, g1, g2, lexV]
theorem sgn_add (a b i : Nat) : sgn ((i + a : Nat) : Int) ((i + b : Nat) : Int) = sgn (a : Int) (b : Int) := by
  unfold sgn
  split <;> split <;> (try split) <;> (try split) <;> omega
theorem lexV_end {x y : List V3} {i : Nat} (hx : i ≤ x.length) (hy : i ≤ y.length) (h : ¬ (i < x.length ∧ i < y.length)) : lexV (x.drop i) (y.drop i) = sgn x.length y.length := by
  by_cases h1 : i < x.length
  · have h2 : y.length = i := by omega
    rw [List.drop_of_length_le (show y.length ≤ i by omega), lexV_nil', List.length_drop]
    have := sgn_add (x.length - i) 0 i
    rw [show i + (x.length - i) = x.length by omega, show i + 0 = y.length by omega] at this
    rw [this]
    rfl
  · have h2 : x.length = i := by omega
    rw [List.drop_of_length_le (show x.length ≤ i by omega), lexV_nil, List.length_drop]
    have := sgn_add 0 (y.length - i) i
    rw [show i + (y.length - i) = y.length by omega, show i + 0 = x.length by omega] at this
    rw [this]
    rfl
theorem cmp3_zero {a b : V3} : cmp3 a b = 0 ↔ a = b := by
  unfold cmp3
  rw [cmpV_zero]
  obtain ⟨a1, a2, a3⟩ := a
  obtain ⟨b1, b2, b3⟩ := b
  simp
theorem lexV_zero : ∀ {x y : List V3}, lexV x y = 0 ↔ x = y
  | [], y => by
    rw [lexV_nil, sgn_zero]
    cases y with
    | nil => simp
    | cons b y => simp; omega
  | a :: x, [] => by
    rw [lexV_nil', sgn_zero]
    simp
    omega
  | a :: x, b :: y => by
    rw [lexV]
    by_cases h : cmp3 a b = 0
    · rw [if_pos h, lexV_zero, cmp3_zero.1 h]
      simp
    · rw [if_neg h]
      constructor
      · intro h2; exact absurd h2 h
      · intro h2
        rw [List.cons.injEq] at h2
        exact absurd (cmp3_zero.2 h2.1) h
theorem cmp3_nv (a b : Int) : cmp3 (nvW a) (nvW b) = cmpI a b := by
  show cmpV 1 a ⟨#[]⟩ 1 b ⟨#[]⟩ = cmpI a b
  unfold cmpV
  rw [if_pos (sgn_zero.2 rfl)]
  have h : Lib.compareBytes (⟨#[]⟩ : ByteArray).data.toList (⟨#[]⟩ : ByteArray).data.toList = 0 := rfl
  rw [h]
  unfold sgn cmpI
  split <;> (try split) <;> (try split) <;> (try split) <;> omega
theorem lexV_nv : ∀ {x y : List Int}, x.length = y.length → lexV (x.map nvW) (y.map nvW) = lexI x y
  | [], [], _ => rfl
  | [], _ :: _, h => by simp at h
  | _ :: _, [], h => by simp at h
  | a :: x, b :: y, h => by
    rw [List.map_cons, List.map_cons, lexV, cmp3_nv, lexI, lexV_nv (by simpa using h)]
def SzV (x : List V3) : Prop := x.length ≤ 1000 ∧ ∀ v ∈ x, v.2.2.size ≤ 1000
end Go.Ab.A15
def Go.Ab.zRA_1 : Go.Ab.OZ := (.one 0 [0, 2, 3, 8, 9] (.one 1 [1, 2, 3, 8, 9] (.one 2 [2, 3, 8, 9] (.one 3 [3, 8, 9] (.one 4 [4, 6, 7, 8, 9] (.one 5 [5, 6, 7, 8, 9] (.one 6 [6, 7, 8, 9] (.one 7 [7, 8, 9] (.one 8 [8, 9] (.one 9 [9] .done))))))))))
namespace Go.Proofs.YtblfodnajpamfaaGreatDoor
open Go Go.Ab Go.Ab.A34 Go.Ab.A15
variable [Gl] [Tabs]
theorem lists_r (x y : List V3) (hx : SzV x) (hy : SzV y) : PCall Tryz.prog 81 [VL x, VL y] (I64 (lexV x y)) := by
  obtain ⟨R, hR⟩ : ∃ R, R = lexV x y := ⟨_, rfl⟩
  rw [← hR]
  have hR0 : R = lexV (x.drop 0) (y.drop 0) := hR
  clear hR
  have hxl := hx.1
  have hyl := hy.1
  refine Call.enter' (N := 36) (rs := [.tmp 4]) Tryz.func81 rfl rfl rfl (by decide) rfl ?_; simp only [argT]; have hD : (0 : Nat) = 0 := rfl
  repeat' first | (refine SW.seq_k fun K hK => ?_) | (refine SW.block ?_) | (refine SW.region ?_; try simp only [go_sem, hD]) | (apply hK; clear hK K)
  obtain ⟨I, hI⟩ : ∃ I : Nat → St → Prop, ∀ k S, I k S ↔ (∃ (i : Nat) , k = min x.length y.length - i ∧ i ≤ min x.length y.length ∧ R = lexV (x.drop i) (y.drop i) ∧ S = ⟨[(0, VL x), (1, VL y), (4, I64 0), (5, I64 i)], []⟩) := ⟨fun k S => _, fun _ _ => Iff.rfl⟩
  refine SW.loop' I (min x.length y.length) ((hI _ _).2 ⟨0, rfl, Nat.zero_le _, hR0, rfl⟩) (by repeat' (first | exact rfl | exact trivial | constructor)) ?_
  intro k S hIn
  obtain ⟨i, rfl, hi, hC, rfl⟩ := (hI _ _).1 hIn
  clear hIn
  have ie : ((i : Nat) : Int).toNat = i := Int.toNat_natCast _
  have i0 : (0 : Int) ≤ ((i : Nat) : Int) := by omega
  clear hR0
  by_cases hlt : i < x.length ∧ i < y.length
  · obtain ⟨h1, h2⟩ := hlt
    have hli : ((i : Nat) : Int) < ((x.length : Nat) : Int) := by omega
    have hlj : ((i : Nat) : Int) < ((y.length : Nat) : Int) := by omega
    have w1 : IntKind.i64.wrap ((i : Int) + 1) = ((i + 1 : Nat) : Int) := by rw [i64_wrap (by omega) (by omega)]; omega
    have fx : vF x i = vC (x.getD i v0) := rfl
    have fy : vF y i = vC (y.getD i v0) := rfl
    have sx := hx.2 _ (getD_mem v0 h1)
    have sy := hy.2 _ (getD_mem v0 h2)
    rw [lexV_step h1 h2] at hC
    generalize x.getD i v0 = v at *
    generalize y.getD i v0 = w at *
    obtain ⟨v1, v2, v3⟩ := v
    obtain ⟨u1, u2, u3⟩ := w
    simp only at sx sy
    have cr := compare_r v1 v2 v3 u1 u2 u3 (by omega) (by omega)
    have e3 : cmp3 (v1, v2, v3) (u1, u2, u3) = cmpV v1 v2 v3 u1 u2 u3 := rfl
    rw [e3] at hC
    generalize cmpV v1 v2 v3 u1 u2 u3 = c at *
    by_cases hc : c = 0
    · rw [if_pos hc] at hC
      subst hc
      repeat' first | (refine SW.seq_k fun K hK => ?_) | (refine SW.block ?_) | ((first | refine SW.region ?_ | refine SW.regionZ (id := 4) (Checked.mixed Tryz.checked) Go.Ab.zRA_1 (by kernel_rfl) ?_ | refine SW.cond ?_ | refine SW.skip ?_ | refine ⟨_, cr, ?_⟩); try simp only [Go.Ab.zRA_1, go_sem, hD, hli, hlj, ie, i0, w1, fx, fy, true_implies]) | (apply hK; clear hK K)
      all_goals
        refine Rnd.sub (min x.length y.length - (i + 1)) (by omega) ((hI _ _).2 ⟨i + 1, rfl, by omega, hC, rfl⟩) (by repeat' (first | exact rfl | exact trivial | constructor))
    · rw [if_neg hc] at hC
      subst hC
      repeat' first | (refine SW.seq_k fun K hK => ?_) | (refine SW.block ?_) | ((first | refine SW.region ?_ | refine SW.regionZ (id := 4) (Checked.mixed Tryz.checked) Go.Ab.zRA_1 (by kernel_rfl) ?_ | refine SW.cond ?_ | refine SW.skip ?_ | refine SW.ret ?_ | refine ⟨_, cr, ?_⟩); try simp only [Go.Ab.zRA_1, go_sem, hD, hli, hlj, ie, i0, w1, fx, fy, hc, true_implies]) | (apply hK; clear hK K)
      all_goals
        refine ret_pure ?_; simp only [resL_tmp, resL_nil, tupOf, go_sem, hD]
  · rw [lexV_end (by omega) (by omega) hlt] at hC
    have cs := sign_r x.length y.length
    by_cases h1 : i < x.length
    · have hli : ((i : Nat) : Int) < ((x.length : Nat) : Int) := by omega
      have hlj : ¬ ((i : Nat) : Int) < ((y.length : Nat) : Int) := by omega
      subst hC
      repeat' first | (refine SW.seq_k fun K hK => ?_) | ((first | refine SW.region ?_ | refine SW.cond ?_ | refine SW.exit ?_ | refine SW.ret ?_ | refine Call.of_pure (cs) ?_); try simp only [go_sem, hD, hli, hlj, true_implies]) | (apply hK; clear hK K) | (clear hK K; apply hK; clear hK K)
      refine ret_pure ?_; simp only [resL_tmp, resL_nil, tupOf, go_sem, hD]
    · have hli : ¬ ((i : Nat) : Int) < ((x.length : Nat) : Int) := by omega
      subst hC
      repeat' first | (refine SW.seq_k fun K hK => ?_) | ((first | refine SW.region ?_ | refine SW.cond ?_ | refine SW.exit ?_ | refine SW.ret ?_ | refine Call.of_pure (cs) ?_); try simp only [go_sem, hD, hli, true_implies]) | (apply hK; clear hK K) | (clear hK K; apply hK; clear hK K)
      refine ret_pure ?_; simp only [resL_tmp, resL_nil, tupOf, go_sem, hD]
theorem same_v (x y : List V3) (hx : SzV x) (hy : SzV y) : PCall Tryz.prog 101 [VL x, VL y] (SB (decide (x = y))) := by
  have c := lists_r x y hx hy
  have z := @lexV_zero x y
  generalize lexV x y = q at *
  by_cases h : q = 0
  · rw [decide_eq_true (z.1 h)]
    subst h
    refine Call.enter' (N := 9) (rs := [.tmp 4]) Tryz.func101 rfl rfl rfl (by decide) rfl ?_; simp only [argT]; have hD : (0 : Nat) = 0 := rfl
    repeat' first | (refine SW.seq_k fun K hK => ?_) | ((first | refine SW.region ?_ | refine SW.ret ?_ | refine Call.of_pure (c) ?_); try simp only [go_sem, hD, true_implies]) | (apply hK; clear hK K)
    refine ret_pure ?_; simp only [resL_tmp, resL_nil, tupOf, go_sem, hD]
  · rw [decide_eq_false (fun e => h (z.2 e))]
    refine Call.enter' (N := 9) (rs := [.tmp 4]) Tryz.func101 rfl rfl rfl (by decide) rfl ?_; simp only [argT]; have hD : (0 : Nat) = 0 := rfl
    repeat' first | (refine SW.seq_k fun K hK => ?_) | ((first | refine SW.region ?_ | refine SW.ret ?_ | refine Call.of_pure (c) ?_); try simp only [go_sem, hD, h, true_implies]) | (apply hK; clear hK K)
    refine ret_pure ?_; simp only [resL_tmp, resL_nil, tupOf, go_sem, hD]
theorem listed_r (R : List R3) (y : List V3) (hR : ∀ r ∈ R, SzV r.2) (hy : SzV y) (hl : R.length ≤ 1000000) : PCall Tryz.prog 80 [RL R, VL y] (SB (R.any fun r => decide (r.2 = y))) := by
  obtain ⟨B, hB⟩ : ∃ B, B = R.any fun r => decide (r.2 = y) := ⟨_, rfl⟩
  rw [← hB]
  refine Call.enter' (N := 19) (rs := [.tmp 4]) Tryz.func80 rfl rfl rfl (by decide) rfl ?_; simp only [argT]; have hD : (0 : Nat) = 0 := rfl
  repeat' first | (refine SW.seq_k fun K hK => ?_) | (refine SW.block ?_) | (refine SW.region ?_; try simp only [go_sem, hD]) | (apply hK; clear hK K)
  obtain ⟨I, hI⟩ : ∃ I : Nat → St → Prop, ∀ k S, I k S ↔ (∃ (i : Nat) , k = R.length - i ∧ i ≤ R.length ∧ (∀ j, j < i → ¬ (R.getD j r0).2 = y) ∧ S = ⟨[(0, RL R), (1, VL y), (4, SB false), (5, I64 i)], []⟩) := ⟨fun k S => _, fun _ _ => Iff.rfl⟩
  refine SW.loop' I (R.length) ((hI _ _).2 ⟨0, rfl, Nat.zero_le _, (fun j hj => absurd hj (Nat.not_lt_zero _)), rfl⟩) (by repeat' (first | exact rfl | exact trivial | constructor)) ?_
  intro k S hIn
  obtain ⟨i, rfl, hi, hG, rfl⟩ := (hI _ _).1 hIn
  clear hIn
  have ie : ((i : Nat) : Int).toNat = i := Int.toNat_natCast _
  have i0 : (0 : Int) ≤ ((i : Nat) : Int) := by omega
  by_cases hlt : i < R.length
  · have hli : ((i : Nat) : Int) < (((R.length) : Nat) : Int) := by omega
    have w1 : IntKind.i64.wrap ((i : Int) + 1) = ((i + 1 : Nat) : Int) := by rw [i64_wrap (by omega) (by omega)]; omega
    have fi : rF R i = [I64 (R.getD i r0).1, VL (R.getD i r0).2] := rfl
    have c := same_v _ y (hR _ (getD_mem r0 hlt)) hy
    by_cases he : (R.getD i r0).2 = y
    · rw [decide_eq_true he] at c
      have hBt : B = true := by
        rw [hB, List.any_eq_true]
        exact ⟨_, getD_mem r0 hlt, decide_eq_true he⟩
      subst hBt
      clear he hB
      generalize R.getD i r0 = r at *
      obtain ⟨a, b⟩ := r
      simp only at fi c
      repeat' first | (refine SW.seq_k fun K hK => ?_) | (refine SW.block ?_) | ((first | refine SW.region ?_ | refine SW.cond ?_ | refine SW.skip ?_ | refine SW.ret ?_ | refine Call.of_pure (c) ?_); try simp only [go_sem, hD, hli, ie, i0, w1, fi, true_implies]) | (apply hK; clear hK K)
      refine ret_pure ?_; simp only [resL_tmp, resL_nil, tupOf, go_sem, hD]
    · rw [decide_eq_false he] at c
      have hG2 : ∀ j, j < i + 1 → ¬ (R.getD j r0).2 = y := fun j hj => by
        rcases Nat.lt_or_eq_of_le (Nat.lt_succ_iff.1 hj) with h | h
        · exact hG j h
        · rw [h]; exact he
      clear he
      generalize R.getD i r0 = r at *
      obtain ⟨a, b⟩ := r
      simp only at fi c
      repeat' first | (refine SW.seq_k fun K hK => ?_) | (refine SW.block ?_) | ((first | refine SW.region ?_ | refine SW.cond ?_ | refine SW.skip ?_ | refine Call.of_pure (c) ?_); try simp only [go_sem, hD, hli, ie, i0, w1, fi, true_implies]) | (apply hK; clear hK K)
      refine Rnd.sub (R.length - (i + 1)) (by omega) ((hI _ _).2 ⟨i + 1, rfl, by omega, hG2, rfl⟩) (by repeat' (first | exact rfl | exact trivial | constructor))
  · have hli : ¬ ((i : Nat) : Int) < (((R.length) : Nat) : Int) := by omega
    have hBf : B = false := by
      rw [hB, List.any_eq_false]
      intro r hr
      obtain ⟨j, hj, rfl⟩ := List.getElem_of_mem hr
      have := hG j (by omega)
      rw [show R.getD j r0 = R[j] by simp [List.getD_eq_getElem?_getD, hj]] at this
      simpa using this
    subst hBf
    repeat' first | (refine SW.seq_k fun K hK => ?_) | ((first | refine SW.region ?_ | refine SW.cond ?_ | refine SW.exit ?_ | refine SW.ret ?_); try simp only [go_sem, hD, hli, true_implies]) | (apply hK; clear hK K) | (clear hK K; apply hK; clear hK K)
    refine ret_pure ?_; simp only [resL_tmp, resL_nil, tupOf, go_sem, hD]
end Go.Proofs.YtblfodnajpamfaaGreatDoor
namespace Go.Ab.A15
open Go Go.Ab Go.Ab.A34
def padV (n : Nat) (a : List Int) (v : List V3) : List V3 := (List.range n).map fun (i : Nat) => if atI (i : Int) 0 a < 0 then nvW 0 else v.getD (atI (i : Int) 0 a).toNat v0
def padP (n : Nat) (a : List Int) (v : List V3) (k : Nat) : List V3 := (List.range k).map fun (i : Nat) => if atI (i : Int) 0 a < 0 then nvW 0 else v.getD (atI (i : Int) 0 a).toNat v0
theorem padP_succ (n : Nat) (a : List Int) (v : List V3) (k : Nat) : padP n a v (k + 1) = padP n a v k ++ [if atI (k : Int) 0 a < 0 then nvW 0 else v.getD (atI (k : Int) 0 a).toNat v0] := by
  unfold padP
  rw [List.range_succ, List.map_append]
  rfl
theorem padP_len (n : Nat) (a : List Int) (v : List V3) (k : Nat) : (padP n a v k).length = k := by simp [padP]
theorem pad_img {n : Nat} {d : Dp} {r : List Int} (hlr : d.l.length = d.r.length) : padV n d.r (d.l.map fun x => nvW (r.getD x.toNat 0)) = (imgR n d r).map nvW := by
  unfold padV imgR
  rw [List.map_map]
  refine List.map_congr_left fun i _ => ?_
  show (if atI (i : Int) 0 d.r < 0 then nvW 0 else _) = nvW (if atI (i : Int) 0 d.r < 0 then 0 else _)
  by_cases h : atI (i : Int) 0 d.r < 0
  · rw [if_pos h, if_pos h]
  · rw [if_neg h, if_neg h]
    have := (atI_lt h).1
    simp [List.getD_eq_getElem?_getD, show (atI (i : Int) 0 d.r).toNat < d.l.length by omega]
theorem pad_first {n : Nat} {g : Dp} : padV n g.l ((List.range g.l.length).map fun (i : Nat) => nvW ((i : Int) + 1)) = (firstR n g).map nvW := by
  unfold padV firstR
  rw [List.map_map]
  refine List.map_congr_left fun i _ => ?_
  show (if atI (i : Int) 0 g.l < 0 then nvW 0 else _) = nvW (if atI (i : Int) 0 g.l < 0 then 0 else _)
  by_cases h : atI (i : Int) 0 g.l < 0
  · rw [if_pos h, if_pos h]
  · rw [if_neg h, if_neg h]
    have h5 := (atI_lt h).1
    have h6 : 0 ≤ atI (i : Int) 0 g.l := by omega
    simp [List.getD_eq_getElem?_getD, h5]
    rw [show max (atI (i : Int) 0 g.l) 0 = atI (i : Int) 0 g.l by omega]
end Go.Ab.A15
namespace Go.Proofs.YtblfodnajpamfaaGreatDoor
open Go Go.Ab Go.Ab.A34 Go.Ab.A15
variable [Gl] [Tabs]
theorem padded_r (n : Nat) (a : List Int) (v : List V3) (hn : n ≤ 1000) (ha : a.length ≤ 1000) (hv : a.length ≤ v.length) : PCall Tryz.prog 54 [I64 n, IL a, VL v] (VL (padV n a v)) := by
  obtain ⟨F, hF⟩ : ∃ F, F = padP n a v := ⟨_, rfl⟩
  have hFs := padP_succ n a v
  have hFl := padP_len n a v
  have hF0 : F 0 = [] := by rw [hF]; rfl
  have hFe : padV n a v = F n := by rw [hF]; rfl
  rw [← hF] at hFs hFl
  rw [hFe]
  clear hF hFe
  refine Call.enter' (N := 31) (rs := [.tmp 6]) Tryz.func54 rfl rfl rfl (by decide) rfl ?_; simp only [argT]; have hD : (0 : Nat) = 0 := rfl
  repeat' first | (refine SW.seq_k fun K hK => ?_) | (refine SW.block ?_) | (refine SW.region ?_; try simp only [go_sem, hD]) | (apply hK; clear hK K)
  obtain ⟨I, hI⟩ : ∃ I : Nat → St → Prop, ∀ k S, I k S ↔ (∃ (i : Nat) (x : SV) (h : Heap), k = n - i ∧ i ≤ n ∧ ((i = 0 ∧ x = SN ∧ h = []) ∨ (0 < i ∧ ∃ g, x = .os g 0 i 3 ∧ h = [(g, .svs (vCs (F i)))])) ∧ S = ⟨[(0, I64 n), (1, IL a), (2, VL v), (6, SN), (7, x), (8, I64 i)], h⟩) := ⟨fun k S => _, fun _ _ => Iff.rfl⟩
  refine SW.loop' I (n) ((hI _ _).2 ⟨0, SN, [], rfl, Nat.zero_le _, .inl ⟨rfl, rfl, rfl⟩, rfl⟩) (by repeat' (first | exact rfl | exact trivial | constructor)) ?_
  intro k S hIn
  obtain ⟨i, x, h, rfl, hi, hB, rfl⟩ := (hI _ _).1 hIn
  clear hIn
  have ie : ((i : Nat) : Int).toNat = i := Int.toNat_natCast _
  have i0 : (0 : Int) ≤ ((i : Nat) : Int) := by omega
  by_cases hlt : i < n
  · have hli : ((i : Nat) : Int) < ((n : Nat) : Int) := by omega
    have w1 : IntKind.i64.wrap ((i : Int) + 1) = ((i + 1 : Nat) : Int) := by rw [i64_wrap (by omega) (by omega)]; omega
    have c := at_r (i : Int) a a.length (by omega) rfl (iF a) (fun j hj => rfl)
    have hst := hFs i
    have hfl := hFl i
    have ba : (i + 1) * 32 ≤ 140737488355328 := by omega
    have hvc : (vCs (F i)).length = i * 3 := by rw [← vCs_len, hfl]
    have hsn : ∀ w : V3, F (i + 1) = F i ++ [w] → vCs (F (i + 1)) = vCs (F i) ++ [I64 w.1, I64 w.2.1, Str w.2.2] := fun w h => by rw [h, ← vCs_snoc]
    by_cases hq : atI (i : Int) 0 a < 0
    · rw [if_pos hq] at hst
      have hsn2 := hsn _ hst
      have hq2 : ¬ 0 ≤ atI (i : Int) 0 a := by omega
      clear hst hsn
      generalize atI (i : Int) 0 a = q at *
      rcases hB with ⟨rfl, rfl, rfl⟩ | ⟨hi0, g, rfl, rfl⟩
      · rw [hF0] at hsn2
        have hs3 : vCs (F (0 + 1)) = [I64 1, I64 0, Str ⟨#[]⟩] := hsn2
        repeat' first | (with_reducible refine And.intro (by omega) ?_) | (refine SW.seq_k fun K hK => ?_) | (refine SW.block ?_) | ((first | refine SW.region ?_ | refine SW.cond ?_ | refine SW.skip ?_ | refine Call.of_pure (c) ?_ | (refine allF_i fun b hb => ?_; replace hD := And.intro hb hD; clear hb; try simp only [fresh_cons, fresh_nil, and_true, ne_eq, neF] at hD) | simp only [appK, appOsK]); try simp only [go_sem, hD, hli, ie, i0, w1, hq2, ba, true_implies]) | (refine And.intro (by omega) ?_) | (refine ifI (fun hc => ?_) (fun hc => ?_) <;> first | (exfalso; omega) | skip) | (apply hK; clear hK K)
        refine Rnd.le (St.le_slist (List.Sublist.cons_cons _ (List.nil_sublist _))) ?_
        refine Rnd.sub (n - (0 + 1)) (by omega) ((hI _ _).2 ⟨0 + 1, _, _, rfl, by omega, .inr ⟨by omega, b, rfl, by rw [hs3]⟩, rfl⟩) (by repeat' (first | exact rfl | exact trivial | constructor))
      · have hs3 : vCs (F (i + 1)) = vCs (F i) ++ [I64 1, I64 0, Str ⟨#[]⟩] := hsn2
        repeat' first | (with_reducible refine And.intro (by omega) ?_) | (refine SW.seq_k fun K hK => ?_) | (refine SW.block ?_) | ((first | refine SW.region ?_ | refine SW.cond ?_ | refine SW.skip ?_ | refine Call.of_pure (c) ?_ | (refine allF_i fun b hb => ?_; replace hD := And.intro hb hD; clear hb; try simp only [fresh_cons, fresh_nil, and_true, ne_eq, neF] at hD) | simp only [appK, appOsK]); try simp only [go_sem, hD, hli, ie, i0, w1, hq2, ba, hvc, true_implies]) | (apply hK; clear hK K)
        refine Rnd.le (St.le_slist (List.Sublist.cons _ (List.Sublist.cons _ (List.Sublist.refl _)))) ?_
        refine Rnd.sub (n - (i + 1)) (by omega) ((hI _ _).2 ⟨i + 1, _, _, rfl, by omega, .inr ⟨by omega, b, rfl, by rw [hs3]⟩, rfl⟩) (by repeat' (first | exact rfl | exact trivial | constructor))
    · rw [if_neg hq] at hst
      have hat := (atI_lt hq).1
      have hsn2 := hsn _ hst
      have hq2 : 0 ≤ atI (i : Int) 0 a := by omega
      have hq3 : atI (i : Int) 0 a < ((v.length : Nat) : Int) := by omega
      have fv : vF v (atI (i : Int) 0 a).toNat = vC (v.getD (atI (i : Int) 0 a).toNat v0) := rfl
      clear hst hsn hat
      generalize atI (i : Int) 0 a = q at *
      generalize v.getD q.toNat v0 = w at *
      obtain ⟨u1, u2, u3⟩ := w
      simp only at hsn2
      rcases hB with ⟨rfl, rfl, rfl⟩ | ⟨hi0, g, rfl, rfl⟩
      · rw [hF0] at hsn2
        have hs3 : vCs (F (0 + 1)) = [I64 u1, I64 u2, Str u3] := hsn2
        repeat' first | (with_reducible refine And.intro (by omega) ?_) | (refine SW.seq_k fun K hK => ?_) | (refine SW.block ?_) | ((first | refine SW.region ?_ | refine SW.cond ?_ | refine SW.skip ?_ | refine Call.of_pure (c) ?_ | (refine allF_i fun b hb => ?_; replace hD := And.intro hb hD; clear hb; try simp only [fresh_cons, fresh_nil, and_true, ne_eq, neF] at hD) | simp only [appK, appOsK]); try simp only [go_sem, hD, hli, ie, i0, w1, hq2, hq3, fv, ba, true_implies]) | (refine And.intro (by omega) ?_) | (refine ifI (fun hc => ?_) (fun hc => ?_) <;> first | (exfalso; omega) | skip) | (apply hK; clear hK K)
        refine Rnd.le (St.le_slist (List.Sublist.cons_cons _ (List.nil_sublist _))) ?_
        refine Rnd.sub (n - (0 + 1)) (by omega) ((hI _ _).2 ⟨0 + 1, _, _, rfl, by omega, .inr ⟨by omega, b, rfl, by rw [hs3]⟩, rfl⟩) (by repeat' (first | exact rfl | exact trivial | constructor))
      · repeat' first | (with_reducible refine And.intro (by omega) ?_) | (refine SW.seq_k fun K hK => ?_) | (refine SW.block ?_) | ((first | refine SW.region ?_ | refine SW.cond ?_ | refine SW.skip ?_ | refine Call.of_pure (c) ?_ | (refine allF_i fun b hb => ?_; replace hD := And.intro hb hD; clear hb; try simp only [fresh_cons, fresh_nil, and_true, ne_eq, neF] at hD) | simp only [appK, appOsK]); try simp only [go_sem, hD, hli, ie, i0, w1, hq2, hq3, fv, ba, hvc, true_implies]) | (apply hK; clear hK K)
        refine Rnd.le (St.le_slist (List.Sublist.cons _ (List.Sublist.cons _ (List.Sublist.refl _)))) ?_
        refine Rnd.sub (n - (i + 1)) (by omega) ((hI _ _).2 ⟨i + 1, _, _, rfl, by omega, .inr ⟨by omega, b, rfl, by rw [hsn2]⟩, rfl⟩) (by repeat' (first | exact rfl | exact trivial | constructor))
  · have hli : ¬ ((i : Nat) : Int) < ((n : Nat) : Int) := by omega
    obtain rfl : i = n := by omega
    have hfl := hFl i
    generalize F i = R at *
    rcases hB with ⟨rfl, rfl, rfl⟩ | ⟨hi0, g, rfl, rfl⟩
    · obtain rfl : R = [] := List.eq_nil_of_length_eq_zero hfl
      repeat' first | (refine SW.seq_k fun K hK => ?_) | ((first | refine SW.region ?_ | refine SW.cond ?_ | refine SW.exit ?_ | refine SW.ret ?_); try simp only [go_sem, hD, hli, true_implies]) | (apply hK; clear hK K) | (clear hK K; apply hK; clear hK K)
      refine retQ_le (S' := ⟨[(6, VL [])], []⟩) ?_ ?_
      · refine St.le.trans (St.le_say (i := 6) (v := VL []) (fun E u hr => Rep.fl_nil hr)) ?_
        exact St.le.trans St.le_drop (St.le_sub (by repeat' (first | exact rfl | exact trivial | constructor)))
      simp only [resL_tmp, resL_nil, tupOf, go_sem, hD]
      try exact rfl
    · repeat' first | (refine SW.seq_k fun K hK => ?_) | ((first | refine SW.region ?_ | refine SW.cond ?_ | refine SW.exit ?_ | refine SW.ret ?_); try simp only [go_sem, hD, hli, true_implies]) | (apply hK; clear hK K) | (clear hK K; apply hK; clear hK K)
      refine retQ_le (St.le_freeze (i := 6) (b := g) (off := 0) (len := i) (sz := 3) (k := .svs (vCs R)) rfl (by rw [find_cons, if_pos rfl]) (by show 0 + i * 3 ≤ (vCs R).length; rw [← vCs_len]; omega) (vF R) (fun j hj => by
        rw [getN_take _ _ _ (by show 0 + j * 3 + 3 ≤ (vCs R).length; rw [← vCs_len]; omega), Nat.zero_add]
        exact vCs_at R j (by omega))) ?_
      rw [del_head]
      simp only [resL_tmp, resL_nil, tupOf, go_sem, hD]
      rw [← hfl]
      try exact rfl
theorem with_fin {t : List (Nat × SV)} {h : Heap} {tn : ByteArray} {ta : List ByteArray} (tb ab rb : Nat) (h1 : ¬ tb = ab) (h2 : ¬ rb = ab) (hh : h = [(tb, .svs [Str tn, .os ab 0 ta.length 1, SN]), (ab, .svs (ta.map Str)), (rb, .svs [Str ⟨#[]⟩, SN, SN])] ∨ h = [(ab, .svs (ta.map Str)), (tb, .svs [Str tn, .os ab 0 ta.length 1, SN]), (rb, .svs [Str ⟨#[]⟩, SN, SN])]) :
    (St.mk t h).le ⟨t, [(tb, .svs [Str tn, SL ta, SN]), (rb, .svs [Str ⟨#[]⟩, SN, SN])]⟩ := by
  have hml : (ta.map Str).length = ta.length := List.length_map _
  have hp : (St.mk t h).le ⟨t, [(tb, .svs [Str tn, .os ab 0 ta.length 1, SN]), (ab, .svs (ta.map Str)), (rb, .svs [Str ⟨#[]⟩, SN, SN])]⟩ := by
    rcases hh with rfl | rfl
    · exact St.le_slist (List.Sublist.refl _)
    · exact St.le_perm (List.Perm.swap _ _ _)
  have s1 := St.le_freezeC (t := t) (h := [(tb, .svs [Str tn, .os ab 0 ta.length 1, SN]), (ab, .svs (ta.map Str)), (rb, .svs [Str ⟨#[]⟩, SN, SN])]) (c := tb) (j := 1) (b := ab) (off := 0) (len := ta.length) (sz := 1) (k := .svs (ta.map Str)) (cs := [Str tn, .os ab 0 ta.length 1, SN]) (by rw [find_cons, if_pos rfl]) h1 (by show 1 < 3; omega) rfl (by rw [find_cons, if_neg h1, find_cons, if_pos rfl]) (by rw [Blk.len_svs, hml]; omega) (sF ta) (fun p hp => by
    rw [getN_take _ _ _ (by rw [Blk.len_svs, hml]; omega), Nat.zero_add, Nat.mul_one]
    exact str_at hp)
  rw [del_cons, if_neg h1, del_cons, if_pos rfl, upd_cons, if_pos rfl] at s1
  exact hp.trans s1
theorem with_r (t : Tb) (ha : t.attrs.length ≤ 1000) : PCall Tryz.prog 51 [TB t, SN] (.agg [Str t.name, SL t.attrs, SN]) := by
  have hfm := fl_str t.attrs
  obtain ⟨tn, ta, tr⟩ := t
  simp only at ha hfm
  have ba : ta.length * 16 ≤ 140737488355328 := by omega
  have hsg : (ta.map Str).all single = true := by
    rw [List.all_eq_true]
    intro x hx
    obtain ⟨r, _, rfl⟩ := List.mem_map.1 hx
    rfl
  have hml : (ta.map Str).length = ta.length := List.length_map _
  refine Call.enter' (N := 31) (rs := [.cell 4 75]) Tryz.func51 rfl rfl rfl (by decide) rfl ?_; simp only [argT]; have hD : (0 : Nat) = 0 := rfl
  repeat' first | (refine SW.seq_k fun K hK => ?_) | ((first | refine SW.region ?_ | (refine allF_i fun b hb => ?_; replace hD := And.intro hb hD; clear hb; try simp only [fresh_cons, fresh_nil, and_true, ne_eq, neF] at hD)); try simp only [go_sem, hD, true_implies]) | (apply hK; clear hK K)
  obtain ⟨rb, rfl⟩ : ∃ x, x = b := ⟨_, rfl⟩
  obtain ⟨b2, rfl⟩ : ∃ x, x = b := ⟨_, rfl⟩
  refine Ab.SW.le (S' := ⟨[(1, SN), (2, .fp [Str tn, SL ta, RL tr]), (4, .op rb 0)], [(rb, .svs [Str ⟨#[]⟩, SN, SN])]⟩) ?_ ?_
  · refine St.le.trans (St.le_freezeP (i := 2) (b := b2) (off := 0) (n := 3) (k := .svs [Str tn, SL ta, RL tr]) rfl (by simp [find_cons, hD]) (by exact Nat.le_refl 3)) ?_
    simp only [getN, Blk.get, go_sem, hD]
    exact St.le_sub (by repeat' (first | exact rfl | exact trivial | constructor))
  clear hD
  have hD : (0 : Nat) = 0 := rfl
  have key : ∃ C Q', (∀ S, Ab.SW Tryz.prog 31 C Q' S → K S) ∧ ∀ tb, ¬ tb = rb → ¬ rb = tb → Ab.SW Tryz.prog 31 C Q' ⟨[(1, SN), (4, .op rb 0), (5, .op tb 0)], [(tb, .svs [Str tn, SL ta, SN]), (rb, .svs [Str ⟨#[]⟩, SN, SN])]⟩ := by
    refine ⟨_, _, hK, fun tb t1 t2 => ?_⟩
    clear hK K hD
    have hD := And.intro (eq_false t1) (eq_false t2)
    repeat' first | (refine SW.seq_k fun K hK => ?_) | (refine SW.block ?_) | (refine SW.region ?_; try simp only [go_sem, hD]) | (apply hK; clear hK K)
    obtain ⟨J, hJ⟩ : ∃ J : Nat → St → Prop, ∀ m S, J m S ↔ S = ⟨[(1, SN), (4, .op rb 0), (5, .op tb 0), (6, I64 0)], [(tb, .svs [Str tn, SL ta, SN]), (rb, .svs [Str ⟨#[]⟩, SN, SN])]⟩ := ⟨fun m S => _, fun _ _ => Iff.rfl⟩
    refine SW.loop' J 0 ((hJ _ _).2 rfl) (by repeat' (first | exact rfl | exact trivial | constructor)) ?_
    intro m S hIn
    obtain rfl := (hJ _ _).1 hIn
    clear hIn
    repeat' first | (refine SW.seq_k fun K hK => ?_) | ((first | refine SW.region ?_ | refine SW.cond ?_ | refine SW.exit ?_ | refine SW.ret ?_); try simp only [go_sem, hD]) | (apply hK; clear hK K) | (clear hK K; apply hK; clear hK K)
    apply ret_cell (i := 4) (n := 3); exact rfl; (simp only [go_sem, hD]; try rfl); (first | exact Nat.le_refl _ | decide); simp only [resL_tmp, resL_cellE, resC_ok, resL_nil, tupOf, getN, go_sem, hD]
  obtain ⟨C, Q', hK2, key⟩ := key
  clear hK
  repeat' first | (with_reducible refine And.intro (by omega) ?_) | ((first | refine SW.regionZ (id := 1) (Checked.mixed Tryz.checked) ((.one 3 [3, 4, 5, 6, 8] (.one 4 [4, 5, 6, 8] (.alt 0 (.alt 1 (.alt 2 (.alt 5 (.one 6 [6, 8] (.alt 7 (.alt 8 .done .nil) .nil)) (.alt 7 (.alt 5 (.one 6 [6, 8] (.alt 8 .done .nil)) .nil) .nil)) (.alt 7 (.alt 2 (.alt 5 (.one 6 [6, 8] (.alt 8 .done .nil)) .nil) .nil) .nil)) (.alt 2 (.alt 1 (.alt 5 (.one 6 [6, 8] (.alt 7 (.alt 8 .done .nil) .nil)) (.alt 7 (.alt 5 (.one 6 [6, 8] (.alt 8 .done .nil)) .nil) .nil)) (.alt 5 (.one 1 [1, 6, 8] (.one 6 [6, 8] (.alt 7 (.alt 8 .done .nil) .nil))) (.alt 7 (.alt 1 (.alt 5 (.one 6 [6, 8] (.alt 8 .done .nil)) .nil) (.alt 5 (.one 1 [1, 6, 8] (.one 6 [6, 8] (.alt 8 .done .nil))) .nil)) .nil))) (.alt 7 (.alt 1 (.alt 2 (.alt 5 (.one 6 [6, 8] (.alt 8 .done .nil)) .nil) .nil) (.alt 2 (.alt 1 (.alt 5 (.one 6 [6, 8] (.alt 8 .done .nil)) .nil) (.alt 5 (.one 1 [1, 6, 8] (.one 6 [6, 8] (.alt 8 .done .nil))) .nil)) .nil)) .nil))) (.alt 2 (.alt 0 (.alt 1 (.alt 5 (.one 6 [6, 8] (.alt 7 (.alt 8 .done .nil) .nil)) (.alt 7 (.alt 5 (.one 6 [6, 8] (.alt 8 .done .nil)) .nil) .nil)) (.alt 5 (.one 1 [1, 6, 8] (.one 6 [6, 8] (.alt 7 (.alt 8 .done .nil) .nil))) (.alt 7 (.alt 1 (.alt 5 (.one 6 [6, 8] (.alt 8 .done .nil)) .nil) (.alt 5 (.one 1 [1, 6, 8] (.one 6 [6, 8] (.alt 8 .done .nil))) .nil)) .nil))) (.alt 5 (.one 0 [0, 1, 6, 8] (.one 1 [1, 6, 8] (.one 6 [6, 8] (.alt 7 (.alt 8 .done .nil) .nil)))) (.alt 7 (.alt 0 (.alt 1 (.alt 5 (.one 6 [6, 8] (.alt 8 .done .nil)) .nil) (.alt 5 (.one 1 [1, 6, 8] (.one 6 [6, 8] (.alt 8 .done .nil))) .nil)) (.alt 5 (.one 0 [0, 1, 6, 8] (.one 1 [1, 6, 8] (.one 6 [6, 8] (.alt 8 .done .nil)))) .nil)) .nil))) (.alt 7 (.alt 0 (.alt 1 (.alt 2 (.alt 5 (.one 6 [6, 8] (.alt 8 .done .nil)) .nil) .nil) (.alt 2 (.alt 1 (.alt 5 (.one 6 [6, 8] (.alt 8 .done .nil)) .nil) (.alt 5 (.one 1 [1, 6, 8] (.one 6 [6, 8] (.alt 8 .done .nil))) .nil)) .nil)) (.alt 2 (.alt 0 (.alt 1 (.alt 5 (.one 6 [6, 8] (.alt 8 .done .nil)) .nil) (.alt 5 (.one 1 [1, 6, 8] (.one 6 [6, 8] (.alt 8 .done .nil))) .nil)) (.alt 5 (.one 0 [0, 1, 6, 8] (.one 1 [1, 6, 8] (.one 6 [6, 8] (.alt 8 .done .nil)))) .nil)) .nil)) .nil))))) : OZ) (by kernel_rfl) ?_ | (refine allF_i fun b hb => ?_; replace hD := And.intro hb hD; clear hb; try simp only [fresh_cons, fresh_nil, and_true, ne_eq, neF] at hD) | simp only [appK, appOsK]); try simp only [go_sem, hD, hfm, ba, hsg, hml, true_implies]) | (refine And.intro ?_ ?_)
  all_goals
    obtain ⟨x1, rfl⟩ : ∃ x, x = b := ⟨_, rfl⟩
    obtain ⟨x2, rfl⟩ : ∃ x, x = b := ⟨_, rfl⟩
    obtain ⟨x3, rfl⟩ : ∃ x, x = b := ⟨_, rfl⟩
    first | (refine hK2 _ (Ab.SW.le (St.le.trans (with_fin x1 x2 rb (by simp [hD]) (by simp [hD]) (by first | exact .inl rfl | exact .inr rfl)) (St.le_sub ?_)) (key x1 (by simp [hD]) (by simp [hD]))); repeat' (first | exact rfl | exact trivial | constructor)) | (refine hK2 _ (Ab.SW.le (St.le.trans (with_fin x1 x3 rb (by simp [hD]) (by simp [hD]) (by first | exact .inl rfl | exact .inr rfl)) (St.le_sub ?_)) (key x1 (by simp [hD]) (by simp [hD]))); repeat' (first | exact rfl | exact trivial | exact int_eq (by omega) | exact int_eq (by (rw [i64_wrap] <;> omega)) | constructor)) | (refine hK2 _ (Ab.SW.le (St.le.trans (with_fin x2 x1 rb (by simp [hD]) (by simp [hD]) (by first | exact .inl rfl | exact .inr rfl)) (St.le_sub ?_)) (key x2 (by simp [hD]) (by simp [hD]))); repeat' (first | exact rfl | exact trivial | constructor)) | (refine hK2 _ (Ab.SW.le (St.le.trans (with_fin x2 x3 rb (by simp [hD]) (by simp [hD]) (by first | exact .inl rfl | exact .inr rfl)) (St.le_sub ?_)) (key x2 (by simp [hD]) (by simp [hD]))); repeat' (first | exact rfl | exact trivial | exact int_eq (by omega) | exact int_eq (by (rw [i64_wrap] <;> omega)) | constructor)) | (refine hK2 _ (Ab.SW.le (St.le.trans (with_fin x3 x1 rb (by simp [hD]) (by simp [hD]) (by first | exact .inl rfl | exact .inr rfl)) (St.le_sub ?_)) (key x3 (by simp [hD]) (by simp [hD]))); repeat' (first | exact rfl | exact trivial | constructor)) | (refine hK2 _ (Ab.SW.le (St.le.trans (with_fin x3 x2 rb (by simp [hD]) (by simp [hD]) (by first | exact .inl rfl | exact .inr rfl)) (St.le_sub ?_)) (key x3 (by simp [hD]) (by simp [hD]))); repeat' (first | exact rfl | exact trivial | exact int_eq (by omega) | exact int_eq (by (rw [i64_wrap] <;> omega)) | constructor))
end Go.Proofs.YtblfodnajpamfaaGreatDoor
