/- Plain words for the cheapest alternating paths: what holds between two rows, and within one. -/
import Derived.Test.YtockdinjmnkdoaaP2
set_option linter.unusedSimpArgs false
set_option linter.unusedVariables false
namespace Go.Ab.A40

theorem gset {α : Type} {l : List α} {i j : Nat} {v d : α} (hi : i < l.length) : (l.set i v).getD j d = if i = j then v else l.getD j d := by
  simp only [List.getD_eq_getElem?_getD, List.getElem?_set]
  by_cases h : i = j
  · subst h; simp [hi]
  · simp [h]

theorem inj_le : ∀ (w i : Nat) (f : Nat → Nat), (∀ j, j < w → f j < i) → (∀ j k, j < w → k < w → f j = f k → j = k) → w ≤ i
  | 0, i, f, _, _ => Nat.zero_le _
  | w + 1, i, f, hl, hinj => by
    have h1 := hl w (by omega)
    have := inj_le w (i - 1) (fun j => if f j = i - 1 then f w else f j) (fun j hj => by
      have h2 := hl j (by omega)
      have h3 : f j ≠ f w := fun e => by have := hinj j w (by omega) (by omega) e; omega
      show (if f j = i - 1 then f w else f j) < i - 1
      split <;> omega) (fun j k hj hk e => by
      have h2 : f j ≠ f w := fun e => by have := hinj j w (by omega) (by omega) e; omega
      have h3 : f k ≠ f w := fun e => by have := hinj k w (by omega) (by omega) e; omega
      have e' : (if f j = i - 1 then f w else f j) = (if f k = i - 1 then f w else f k) := e
      refine hinj j k (by omega) (by omega) ?_
      split at e' <;> split at e' <;> omega)
    omega

def nfalse (l : List Bool) : Nat := match l with
  | [] => 0
  | b :: r => (if b = false then 1 else 0) + nfalse r

theorem nfalse_set : ∀ (l : List Bool) (i : Nat), i < l.length → l.getD i false = false → nfalse (l.set i true) < nfalse l
  | [], i, hi, _ => by simp at hi
  | b :: r, 0, _, h => by
    have : b = false := h
    subst this
    simp [nfalse]
  | b :: r, i + 1, hi, h => by
    have := nfalse_set r i (by simpa using hi) h
    simp only [List.set_cons_succ, nfalse]
    omega

/-- What is left of a number behind the prices. -/
def sl (m : List (List Int)) (u v : List Int) (r j : Nat) : Int := (m.getD r []).getD j 0 - u.getD r 0 - v.getD j 0

/-- What holds when i rows have their columns. -/
structure HInv (m : List (List Int)) (w i : Nat) (u v row : List Int) : Prop where
  lu : u.length = m.length
  lv : v.length = w + 1
  lr : row.length = w + 1
  hi : i ≤ m.length
  hw : m.length ≤ w
  hw2 : w ≤ 120
  small : ∀ r j, -1000000000 ≤ (m.getD r []).getD j 0 ∧ (m.getD r []).getD j 0 ≤ 1000000000
  u0 : ∀ r, i ≤ r → u.getD r 0 = 0
  last : row.getD w 0 = -1
  rng : ∀ j, j < w → -1 ≤ row.getD j 0 ∧ row.getD j 0 < i
  inj : ∀ j k, j < w → k < w → row.getD j 0 = row.getD k 0 → 0 ≤ row.getD j 0 → j = k
  surj : ∀ r : Nat, r < i → ∃ j, j < w ∧ row.getD j 0 = r
  feas : ∀ r j, r < i → j < w → 0 ≤ sl m u v r j
  tight : ∀ j, j < w → ∀ r : Nat, row.getD j 0 = r → sl m u v r j = 0
  vneg : ∀ j, j < w → v.getD j 0 ≤ 0
  vfree : ∀ j, j < w → row.getD j 0 < 0 → v.getD j 0 = 0
  vw : -(1000000000 * (i : Int)) ≤ v.getD w 0 ∧ v.getD w 0 ≤ 1000000000 * (i : Int)
  vz : i ≠ 0 → ∃ j, j < w ∧ v.getD j 0 = 0

/-- The best way to a column from the columns that are done. -/
def Bst (m : List (List Int)) (w : Nat) (u v row : List Int) (done : List Bool) (best frm : List Int) (j : Nat) : Prop :=
  (∃ f r : Nat, f ≤ w ∧ done.getD f false = true ∧ frm.getD j 0 = f ∧ row.getD f 0 = r ∧ best.getD j 0 = sl m u v r j) ∧
    ∀ k r : Nat, k ≤ w → done.getD k false = true → row.getD k 0 = r → best.getD j 0 ≤ sl m u v r j

/-- What holds while a column is sought for row i. -/
structure AInv (m : List (List Int)) (w i : Nat) (u v row best frm : List Int) (done : List Bool) (pos : Nat) (c0 : Int) (cnt : Nat) (rk : Nat → Nat) : Prop where
  lu : u.length = m.length
  lv : v.length = w + 1
  lr : row.length = w + 1
  lb : best.length = w
  lf : frm.length = w
  ld : done.length = w + 1
  hi : i < m.length
  hw : m.length ≤ w
  hw2 : w ≤ 120
  small : ∀ r j, -1000000000 ≤ (m.getD r []).getD j 0 ∧ (m.getD r []).getD j 0 ≤ 1000000000
  u0 : ∀ r, i < r → u.getD r 0 = 0
  rw' : row.getD w 0 = i
  rng : ∀ j, j < w → -1 ≤ row.getD j 0 ∧ row.getD j 0 < i
  inj : ∀ j k, j < w → k < w → row.getD j 0 = row.getD k 0 → 0 ≤ row.getD j 0 → j = k
  surj : ∀ r : Nat, r < i → ∃ j, j < w ∧ row.getD j 0 = r
  feas : ∀ r j, r < i → j < w → 0 ≤ sl m u v r j
  feasi : done.getD w false = true → ∀ j, j < w → 0 ≤ sl m u v i j
  tight : ∀ j, j < w → ∀ r : Nat, row.getD j 0 = r → sl m u v r j = 0
  vneg : ∀ j, j < w → v.getD j 0 ≤ 0
  vfree : ∀ j, j < w → row.getD j 0 < 0 → v.getD j 0 = 0
  c0b : -(1000000000 * (i : Int)) ≤ c0 ∧ c0 ≤ 1000000000 * (i : Int)
  uv : u.getD i 0 + v.getD w 0 = c0
  ui : done.getD w false = false → u.getD i 0 = 0
  uil : -1000000000 ≤ u.getD i 0
  dn : ∀ k, k ≤ w → done.getD k false = true → 0 ≤ row.getD k 0
  hpos : pos ≤ w ∧ done.getD pos false = false
  start : done.getD w false = false → pos = w ∧ ∀ k, k ≤ w → done.getD k false = false
  bst : done.getD w false = true → ∀ j, j < w → done.getD j false = false → Bst m w u v row done best frm j
  far : done.getD w false = false → ∀ j, j < w → best.getD j 0 = 1152921504606846976
  at0 : pos < w → best.getD pos 0 = 0
  rk1 : ∀ k, k ≤ w → done.getD k false = true → rk k < cnt
  path : ∀ k, k < w → done.getD k false = true → ∃ f r : Nat, f ≤ w ∧ done.getD f false = true ∧ frm.getD k 0 = f ∧ rk f < rk k ∧ row.getD f 0 = r ∧ sl m u v r k = 0

section
variable {m : List (List Int)} {w i : Nat} {u v row best frm : List Int} {done : List Bool} {pos : Nat} {c0 : Int} {cnt : Nat} {rk : Nat → Nat}

theorem free_col {w i : Nat} {row : List Int} (hlt : i < w) (rng : ∀ j, j < w → -1 ≤ row.getD j 0 ∧ row.getD j 0 < i)
    (inj : ∀ j k, j < w → k < w → row.getD j 0 = row.getD k 0 → 0 ≤ row.getD j 0 → j = k) : ∃ j, j < w ∧ row.getD j 0 < 0 := by
  refine Classical.byContradiction fun hno => ?_
  have hall : ∀ j, j < w → 0 ≤ row.getD j 0 := fun j hj => by
    refine Classical.byContradiction fun hc => hno ⟨j, hj, by omega⟩
  have := inj_le w i (fun j => (row.getD j 0).toNat) (fun j hj => by
    have := rng j hj
    have := hall j hj
    show (row.getD j 0).toNat < i
    omega) (fun j k hj hk e => by
    have e' : (row.getD j 0).toNat = (row.getD k 0).toNat := e
    have h1 := hall j hj
    have h2 := hall k hk
    exact inj j k hj hk (by omega) h1)
  omega

theorem AInv.start' (H : HInv m w i u v row) (hi : i < m.length) (hlb : best.length = w) (hfar : ∀ j, j < w → best.getD j 0 = 1152921504606846976) :
    AInv m w i u v (row.set w i) best (List.replicate w 0) (List.replicate (w + 1) false) w (v.getD w 0) 0 (fun _ => 0) := by
  have hlr := H.lr
  have hd : ∀ k, (List.replicate (w + 1) false).getD k false = false := fun k => by
    simp only [List.getD_eq_getElem?_getD, List.getElem?_replicate]; split <;> rfl
  have hrow : ∀ j, j < w → (row.set w (i : Int)).getD j 0 = row.getD j 0 := fun j hj => by
    rw [gset (by omega), if_neg (by omega)]
  have hd' : ∀ k, ¬ (List.replicate (w + 1) false).getD k false = true := fun k => by rw [hd]; simp
  have hu0 := H.u0 i (Nat.le_refl _)
  exact {
    lu := H.lu, lv := H.lv, lr := by rw [List.length_set]; exact hlr, lb := hlb, lf := by simp, ld := by simp, hi := hi, hw := H.hw, hw2 := H.hw2, small := H.small
    u0 := fun r hr => H.u0 r (by omega)
    rw' := by rw [gset (by omega), if_pos rfl]
    rng := fun j hj => by rw [hrow j hj]; exact H.rng j hj
    inj := fun j k hj hk e h0 => by rw [hrow j hj, hrow k hk] at e; rw [hrow j hj] at h0; exact H.inj j k hj hk e h0
    surj := fun r hr => by obtain ⟨j, hj, e⟩ := H.surj r hr; exact ⟨j, hj, by rw [hrow j hj]; exact e⟩
    feas := H.feas
    feasi := fun hc => absurd hc (hd' w)
    tight := fun j hj r e => by rw [hrow j hj] at e; exact H.tight j hj r e
    vneg := H.vneg
    vfree := fun j hj e => by rw [hrow j hj] at e; exact H.vfree j hj e
    c0b := H.vw
    uv := by rw [hu0]; omega
    ui := fun _ => hu0
    uil := by rw [hu0]; omega
    dn := fun k _ hc => absurd hc (hd' k)
    hpos := ⟨Nat.le_refl _, hd w⟩
    start := fun _ => ⟨rfl, fun k _ => hd k⟩
    bst := fun hc => absurd hc (hd' w)
    far := fun _ j hj => hfar j hj
    at0 := fun hc => absurd hc (by omega)
    rk1 := fun k _ hc => absurd hc (hd' k)
    path := fun k _ hc => absurd hc (hd' k) }

theorem AInv.free (A : AInv m w i u v row best frm done pos c0 cnt rk) : ∃ j, j < w ∧ row.getD j 0 < 0 :=
  free_col (by have := A.hi; have := A.hw; omega) A.rng A.inj

theorem AInv.ub (A : AInv m w i u v row best frm done pos c0 cnt rk) (r : Nat) : -1000000000 ≤ u.getD r 0 ∧ u.getD r 0 ≤ 1000000000 := by
  obtain ⟨j0, hj0, hf⟩ := A.free
  have hv0 := A.vfree j0 hj0 hf
  have hs := A.small r j0
  by_cases h1 : r < i
  · have h2 := A.feas r j0 h1 hj0
    obtain ⟨j, hj, e⟩ := A.surj r h1
    have h3 := A.tight j hj r e
    have h4 := A.vneg j hj
    have h5 := A.small r j
    unfold sl at h2 h3
    omega
  · by_cases h2 : r = i
    · subst h2
      by_cases hd : done.getD w false = true
      · have h3 := A.feasi hd j0 hj0
        have h4 := A.uil
        unfold sl at h3
        omega
      · have := A.ui (by simpa using hd)
        omega
    · have := A.u0 r (by omega)
      omega

theorem AInv.vb (A : AInv m w i u v row best frm done pos c0 cnt rk) {j : Nat} (hj : j < w) : -2000000000 ≤ v.getD j 0 ∧ v.getD j 0 ≤ 0 := by
  have h1 := A.vneg j hj
  by_cases hf : row.getD j 0 < 0
  · have := A.vfree j hj hf; omega
  · obtain ⟨r, hr⟩ : ∃ r : Nat, row.getD j 0 = r := ⟨(row.getD j 0).toNat, by omega⟩
    have h2 := A.tight j hj r hr
    have h3 := A.ub r
    have h4 := A.small r j
    unfold sl at h2
    omega

theorem AInv.slb (A : AInv m w i u v row best frm done pos c0 cnt rk) (r : Nat) {j : Nat} (hj : j < w) : -2000000000 ≤ sl m u v r j ∧ sl m u v r j ≤ 4000000000 := by
  have h1 := A.small r j
  have h2 := A.ub r
  have h3 := A.vb hj
  unfold sl
  omega

theorem AInv.vwb (A : AInv m w i u v row best frm done pos c0 cnt rk) : -200000000000 ≤ v.getD w 0 ∧ v.getD w 0 ≤ 200000000000 := by
  have h1 := A.uv
  have h2 := A.c0b
  have h3 := A.ub i
  have h4 := A.hi
  have h5 := A.hw
  have h6 := A.hw2
  omega

/-- The row of a column that is done, or of the place. -/
theorem AInv.row_lt (A : AInv m w i u v row best frm done pos c0 cnt rk) {k : Nat} (hk : k ≤ w) : row.getD k 0 ≤ i := by
  by_cases h : k < w
  · have := A.rng k h; omega
  · obtain rfl : k = w := by omega
    have := A.rw'; omega

/-! ### the columns are looked through -/

/-- The best ways, where the columns below j have been looked at. -/
structure L3b (m : List (List Int)) (w : Nat) (u v row best frm : List Int) (done : List Bool) (j : Nat) (best' frm' : List Int) : Prop where
  lb : best'.length = w
  lf : frm'.length = w
  bst : ∀ k, k < j → done.getD k false = false → Bst m w u v row done best' frm' k
  rest : ∀ k, j ≤ k → best'.getD k 0 = best.getD k 0 ∧ frm'.getD k 0 = frm.getD k 0
  keep : ∀ k, done.getD k false = true → frm'.getD k 0 = frm.getD k 0

/-- The least of the best ways to the columns below j. -/
def L3n (done : List Bool) (best : List Int) (j : Nat) (next least : Int) : Prop :=
  (next = -1 ∧ least = 1152921504606846976 ∧ ∀ k, k < j → done.getD k false = true) ∨
    (∃ nx : Nat, next = nx ∧ nx < j ∧ done.getD nx false = false ∧ least = best.getD nx 0 ∧ ∀ k, k < j → done.getD k false = false → least ≤ best.getD k 0)

theorem L3b.zero (hb : best.length = w) (hf : frm.length = w) : L3b m w u v row best frm done 0 best frm :=
  ⟨hb, hf, fun k hk => absurd hk (by omega), fun _ _ => ⟨rfl, rfl⟩, fun _ _ => rfl⟩

theorem L3n.zero : L3n done best 0 (-1) 1152921504606846976 := .inl ⟨rfl, rfl, fun k hk => absurd hk (by omega)⟩

variable {best' frm' : List Int} {j : Nat} {next least : Int}

theorem L3b.skip (L : L3b m w u v row best frm done j best' frm') (hd : done.getD j false = true) : L3b m w u v row best frm done (j + 1) best' frm' :=
  ⟨L.lb, L.lf, fun k hk hdk => L.bst k (by
    by_cases h : k = j
    · subst h; rw [hd] at hdk; cases hdk
    · omega) hdk, fun k hk => L.rest k (by omega), L.keep⟩

theorem L3n.skip (L : L3n done best j next least) (hd : done.getD j false = true) : L3n done best (j + 1) next least := by
  rcases L with ⟨h1, h2, h3⟩ | ⟨nx, h1, h2, h3, h4, h5⟩
  · exact .inl ⟨h1, h2, fun k hk => by
      by_cases h : k = j
      · subst h; exact hd
      · exact h3 k (by omega)⟩
  · exact .inr ⟨nx, h1, by omega, h3, h4, fun k hk hdk => h5 k (by
      by_cases h : k = j
      · subst h; rw [hd] at hdk; cases hdk
      · omega) hdk⟩

theorem L3n.less (L : L3n done best j next least) (hd : done.getD j false = false) (hl : best.getD j 0 < least) : L3n done best (j + 1) j (best.getD j 0) := by
  refine .inr ⟨j, rfl, by omega, hd, rfl, fun k hk hdk => ?_⟩
  by_cases h : k = j
  · subst h; exact Int.le_refl _
  · rcases L with ⟨h1, h2, h3⟩ | ⟨nx, h1, h2, h3, h4, h5⟩
    · rw [h3 k (by omega)] at hdk; cases hdk
    · have := h5 k (by omega) hdk
      omega

theorem L3n.more (L : L3n done best j next least) (hd : done.getD j false = false) (hl : ¬ best.getD j 0 < least) (hb : best.getD j 0 < 1152921504606846976) : L3n done best (j + 1) next least := by
  rcases L with ⟨h1, h2, h3⟩ | ⟨nx, h1, h2, h3, h4, h5⟩
  · omega
  · refine .inr ⟨nx, h1, by omega, h3, h4, fun k hk hdk => ?_⟩
    by_cases h : k = j
    · subst h; omega
    · exact h5 k (by omega) hdk

theorem L3n.set {x : Int} (L : L3n done best j next least) (hj : j < best.length) : L3n done (best.set j x) j next least := by
  have e : ∀ k, k < j → (best.set j x).getD k 0 = best.getD k 0 := fun k hk => by rw [gset hj, if_neg (by omega)]
  rcases L with ⟨h1, h2, h3⟩ | ⟨nx, h1, h2, h3, h4, h5⟩
  · exact .inl ⟨h1, h2, h3⟩
  · exact .inr ⟨nx, h1, h2, h3, by rw [e nx h2]; exact h4, fun k hk hdk => by rw [e k hk]; exact h5 k hk hdk⟩

theorem AInv.d_set (A : AInv m w i u v row best frm done pos c0 cnt rk) (k : Nat) : (done.set pos true).getD k false = true ↔ k = pos ∨ done.getD k false = true := by
  have := A.hpos.1
  have := A.ld
  rw [gset (by omega)]
  by_cases h : pos = k
  · rw [if_pos h]; simp [h]
  · rw [if_neg h]
    constructor
    · exact .inr
    · rintro (e | e)
      · exact absurd e.symm h
      · exact e

theorem AInv.bst_less (A : AInv m w i u v row best frm done pos c0 cnt rk) {r : Nat} (hr : row.getD pos 0 = r) (L : L3b m w u v row best frm (done.set pos true) j best' frm') (hj : j < w)
    (hd : (done.set pos true).getD j false = false) (hl : sl m u v r j < best'.getD j 0) :
    L3b m w u v row best frm (done.set pos true) (j + 1) (best'.set j (sl m u v r j)) (frm'.set j pos) := by
  have hlb := L.lb
  have hlf := L.lf
  have e1 : ∀ k, k ≠ j → (best'.set j (sl m u v r j)).getD k 0 = best'.getD k 0 := fun k hk => by rw [gset (by omega), if_neg (fun e => hk e.symm)]
  have e2 : ∀ k, k ≠ j → (frm'.set j (pos : Int)).getD k 0 = frm'.getD k 0 := fun k hk => by rw [gset (by omega), if_neg (fun e => hk e.symm)]
  refine ⟨by simpa using hlb, by simpa using hlf, fun k hk hdk => ?_, fun k hk => ⟨by rw [e1 k (by omega)]; exact (L.rest k (by omega)).1, by rw [e2 k (by omega)]; exact (L.rest k (by omega)).2⟩, fun k hk => ?_⟩
  · by_cases h : k = j
    · subst h
      refine ⟨⟨pos, r, A.hpos.1, (A.d_set pos).2 (.inl rfl), by rw [gset (by omega), if_pos rfl], hr, by rw [gset (by omega), if_pos rfl]⟩, fun k' r' hk' hd' hr' => ?_⟩
      rw [gset (by omega), if_pos rfl]
      rcases (A.d_set k').1 hd' with e | e
      · subst e
        have : r' = r := by omega
        subst this
        exact Int.le_refl _
      · have hdw : done.getD w false = true := by
          refine Classical.byContradiction fun hc => ?_
          have := (A.start (by simpa using hc)).2 k' hk'
          rw [this] at e; cases e
        have hdk' : done.getD k false = false := by
          refine Classical.byContradiction fun hc => ?_
          have := (A.d_set k).2 (.inr (by simpa using hc))
          rw [this] at hd; cases hd
        have h1 := (A.bst hdw k hj hdk').2 k' r' hk' e hr'
        have h2 := (L.rest k (Nat.le_refl _)).1
        omega
    · obtain ⟨⟨f, r', h1, h2, h3, h4, h5⟩, h6⟩ := L.bst k (by omega) hdk
      exact ⟨⟨f, r', h1, h2, by rw [e2 k h]; exact h3, h4, by rw [e1 k h]; exact h5⟩, fun k' r'' a b c => by rw [e1 k h]; exact h6 k' r'' a b c⟩
  · rw [e2 k (fun e => by subst e; rw [hd] at hk; cases hk)]
    exact L.keep k hk

theorem AInv.bst_same (A : AInv m w i u v row best frm done pos c0 cnt rk) {r : Nat} (hr : row.getD pos 0 = r) (L : L3b m w u v row best frm (done.set pos true) j best' frm') (hj : j < w)
    (hd : (done.set pos true).getD j false = false) (hl : ¬ sl m u v r j < best'.getD j 0) :
    L3b m w u v row best frm (done.set pos true) (j + 1) best' frm' ∧ best'.getD j 0 < 1152921504606846976 := by
  have hrest := (L.rest j (Nat.le_refl _))
  have hs := A.slb r hj
  refine ⟨⟨L.lb, L.lf, fun k hk hdk => ?_, fun k hk => L.rest k (by omega), L.keep⟩, by omega⟩
  by_cases h : k = j
  · subst h
    have hdk' : done.getD k false = false := by
      refine Classical.byContradiction fun hc => ?_
      have := (A.d_set k).2 (.inr (by simpa using hc))
      rw [this] at hd; cases hd
    have hdw : done.getD w false = true := by
      refine Classical.byContradiction fun hc => ?_
      have := A.far (by simpa using hc) k hj
      omega
    obtain ⟨⟨f, r', h1, h2, h3, h4, h5⟩, h6⟩ := A.bst hdw k hj hdk'
    refine ⟨⟨f, r', h1, (A.d_set f).2 (.inr h2), by rw [hrest.2]; exact h3, h4, by rw [hrest.1]; exact h5⟩, fun k' r'' a b c => ?_⟩
    rcases (A.d_set k').1 b with e | e
    · subst e
      have : r'' = r := by omega
      subst this
      omega
    · rw [hrest.1]; exact h6 k' r'' a e c
  · exact L.bst k (by omega) hdk

end
end Go.Ab.A40
