/- Plain words for the cheapest alternating paths: the prices change, the path is exchanged. -/
import Derived.Test.YtockdinjmnkdoaaP3
set_option linter.unusedSimpArgs false
set_option linter.unusedVariables false
namespace Go.Ab.A40

/-- The prices, changed for the columns below j. -/
structure L4 (w : Nat) (u v best row : List Int) (done : List Bool) (least : Int) (j : Nat) (u' v' best' : List Int) : Prop where
  lu : u'.length = u.length
  lv : v'.length = v.length
  lb : best'.length = best.length
  ua : ∀ k r : Nat, k < j → done.getD k false = true → row.getD k 0 = r → u'.getD r 0 = u.getD r 0 + least
  ub : ∀ r : Nat, (∀ k, k < j → done.getD k false = true → row.getD k 0 ≠ r) → u'.getD r 0 = u.getD r 0
  va : ∀ k, v'.getD k 0 = if k < j ∧ done.getD k false = true then v.getD k 0 - least else v.getD k 0
  ba : ∀ k, k < w → best'.getD k 0 = if k < j ∧ done.getD k false = false then best.getD k 0 - least else best.getD k 0

section
variable {m : List (List Int)} {w i : Nat} {u v row best frm : List Int} {done : List Bool} {pos : Nat} {c0 : Int} {cnt : Nat} {rk : Nat → Nat}
variable {best' frm' u' v' best2 : List Int} {j : Nat} {next least : Int}

theorem L4.zero : L4 w u v best row done least 0 u v best where
  lu := rfl
  lv := rfl
  lb := rfl
  ua := fun k r hk => absurd hk (by omega)
  ub := fun r _ => rfl
  va := fun k => by rw [if_neg (by omega)]
  ba := fun k _ => by rw [if_neg (by omega)]

theorem AInv.inj' (A : AInv m w i u v row best frm done pos c0 cnt rk) {j k : Nat} (hj : j ≤ w) (hk : k ≤ w) (e : row.getD j 0 = row.getD k 0) (h0 : 0 ≤ row.getD j 0) : j = k := by
  have hw := A.rw'
  by_cases h1 : j = w
  · by_cases h2 : k = w
    · omega
    · have := A.rng k (by omega)
      subst h1; omega
  · by_cases h2 : k = w
    · have := A.rng j (by omega)
      subst h2; omega
    · exact A.inj j k (by omega) (by omega) e h0

theorem L4.yes (L : L4 w u v best row done least j u' v' best') (hinj : ∀ k, k < j → row.getD k 0 = row.getD j 0 → False) (hd : done.getD j false = true) {r : Nat} (hr : row.getD j 0 = r) (hlt : r < u.length) (hj : j < v.length) :
    L4 w u v best row done least (j + 1) (u'.set r (u'.getD r 0 + least)) (v'.set j (v'.getD j 0 - least)) best' := by
  have hlu := L.lu
  have hlv := L.lv
  have hur := L.ub r (fun k hk _ e => hinj k hk (by omega))
  refine ⟨by simpa using hlu, by simpa using hlv, L.lb, fun k r' hk hdk hr' => ?_, fun r' hno => ?_, fun k => ?_, fun k hk => ?_⟩
  · by_cases h : k = j
    · subst h
      have : r' = r := by omega
      subst this
      rw [gset (by omega), if_pos rfl, hur]
    · have h1 := L.ua k r' (by omega) hdk hr'
      have h2 : r ≠ r' := fun e => hinj k (by omega) (by omega)
      rw [gset (by omega), if_neg h2]
      exact h1
  · have h2 : r ≠ r' := fun e => hno j (by omega) hd (by omega)
    rw [gset (by omega), if_neg h2]
    exact L.ub r' (fun k hk => hno k (by omega))
  · by_cases h : j = k
    · subst h
      rw [gset (by omega), if_pos rfl, if_pos ⟨by omega, hd⟩, L.va, if_neg (by omega)]
    · rw [gset (by omega), if_neg h, L.va]
      by_cases h1 : k < j ∧ done.getD k false = true
      · rw [if_pos h1, if_pos ⟨by omega, h1.2⟩]
      · rw [if_neg h1, if_neg (fun h2 => h1 ⟨by omega, h2.2⟩)]
  · rw [L.ba k hk]
    by_cases h1 : k < j ∧ done.getD k false = false
    · rw [if_pos h1, if_pos ⟨by omega, h1.2⟩]
    · rw [if_neg h1, if_neg (fun h2 => h1 ⟨by
        by_cases h : k = j
        · subst h; rw [hd] at h2; cases h2.2
        · omega, h2.2⟩)]

theorem L4.no (L : L4 w u v best row done least j u' v' best') (hd : done.getD j false = false) (hj : j < best.length) :
    L4 w u v best row done least (j + 1) u' v' (best'.set j (best'.getD j 0 - least)) := by
  have hlb := L.lb
  refine ⟨L.lu, L.lv, by simpa using hlb, fun k r hk hdk hr => L.ua k r (by
    by_cases h : k = j
    · subst h; rw [hd] at hdk; cases hdk
    · omega) hdk hr, fun r hno => L.ub r (fun k hk => hno k (by omega)), fun k => ?_, fun k hk => ?_⟩
  · rw [L.va]
    by_cases h1 : k < j ∧ done.getD k false = true
    · rw [if_pos h1, if_pos ⟨by omega, h1.2⟩]
    · rw [if_neg h1, if_neg (fun h2 => h1 ⟨by
        by_cases h : k = j
        · subst h; rw [hd] at h2; cases h2.2
        · omega, h2.2⟩)]
  · by_cases h : j = k
    · subst h
      rw [gset (by omega), if_pos rfl, if_pos ⟨by omega, hd⟩, L.ba j hk, if_neg (by omega)]
    · rw [gset (by omega), if_neg h, L.ba k hk]
      by_cases h1 : k < j ∧ done.getD k false = false
      · rw [if_pos h1, if_pos ⟨by omega, h1.2⟩]
      · rw [if_neg h1, if_neg (fun h2 => h1 ⟨by omega, h2.2⟩)]

/-- The next place is there. -/
theorem AInv.nx (A : AInv m w i u v row best frm done pos c0 cnt rk) (h0 : 0 ≤ row.getD pos 0) (N : L3n (done.set pos true) best' w next least) :
    ∃ nx : Nat, next = nx ∧ nx < w ∧ (done.set pos true).getD nx false = false ∧ least = best'.getD nx 0 ∧ ∀ k, k < w → (done.set pos true).getD k false = false → least ≤ best'.getD k 0 := by
  obtain ⟨j0, hj0, hf⟩ := A.free
  have hd0 : (done.set pos true).getD j0 false = false := by
    refine Classical.byContradiction fun hc => ?_
    rcases (A.d_set j0).1 (by simpa using hc) with e | e
    · subst e; omega
    · have := A.dn j0 (by omega) e; omega
  rcases N with ⟨h1, h2, h3⟩ | h
  · rw [h3 j0 hj0] at hd0; cases hd0
  · exact h

/-- What the least way is worth. -/
theorem AInv.least_b (A : AInv m w i u v row best frm done pos c0 cnt rk) (h0 : 0 ≤ row.getD pos 0) (L : L3b m w u v row best frm (done.set pos true) w best' frm') (N : L3n (done.set pos true) best' w next least) :
    -2000000000 ≤ least ∧ least ≤ 4000000000 ∧ ∀ k, k < w → (done.set pos true).getD k false = false → -2000000000 ≤ best'.getD k 0 ∧ best'.getD k 0 ≤ 4000000000 := by
  have key : ∀ k, k < w → (done.set pos true).getD k false = false → -2000000000 ≤ best'.getD k 0 ∧ best'.getD k 0 ≤ 4000000000 := fun k hk hd => by
    obtain ⟨⟨f, r, h1, h2, h3, h4, h5⟩, h6⟩ := L.bst k hk hd
    have := A.slb r hk
    omega
  obtain ⟨nx, e1, h1, h2, h3, h4⟩ := A.nx h0 N
  have := key nx h1 h2
  exact ⟨by omega, by omega, key⟩

theorem AInv.next' (A : AInv m w i u v row best frm done pos c0 cnt rk) (h0 : 0 ≤ row.getD pos 0) (L : L3b m w u v row best frm (done.set pos true) w best' frm')
    (N : L3n (done.set pos true) best' w next least) (X : L4 w u v best' row (done.set pos true) least (w + 1) u' v' best2) :
    ∃ nx : Nat, next = nx ∧ AInv m w i u' v' row best2 frm' (done.set pos true) nx c0 (cnt + 1) (fun k => if k = pos then cnt else rk k) := by
  obtain ⟨nx, e1, hnx, hdn, hle, hmin⟩ := A.nx h0 N
  refine ⟨nx, e1, ?_⟩
  have hds := A.d_set
  have hposw := A.hpos.1
  have hdp : ¬ done.getD pos false = true := by rw [A.hpos.2]; simp
  generalize hD : done.set pos true = D at *
  have hDw : D.getD w false = true := by
    rw [hds]
    by_cases hd : done.getD w false = true
    · exact .inr hd
    · exact .inl (A.start (by simpa using hd)).1.symm
  have hrowi := A.rw'
  have hdn' : ∀ k, k ≤ w → D.getD k false = true → 0 ≤ row.getD k 0 := fun k hk hd => by
    rcases (hds k).1 hd with e | e
    · subst e; exact h0
    · exact A.dn k hk e
  have hvA : ∀ k, k ≤ w → v'.getD k 0 = if D.getD k false = true then v.getD k 0 - least else v.getD k 0 := fun k hk => by
    rw [X.va]
    by_cases h : D.getD k false = true
    · rw [if_pos ⟨by omega, h⟩, if_pos h]
    · rw [if_neg (fun x => h x.2), if_neg h]
  have hbA : ∀ k, k < w → D.getD k false = false → best2.getD k 0 = best'.getD k 0 - least := fun k hk hd => by
    rw [X.ba k hk, if_pos ⟨by omega, hd⟩]
  have hTi : ∀ k r : Nat, k ≤ w → D.getD k false = true → row.getD k 0 = r → u'.getD r 0 = u.getD r 0 + least := fun k r hk => X.ua k r (by omega)
  have hTo : ∀ r : Nat, (∀ k, k ≤ w → D.getD k false = true → row.getD k 0 ≠ r) → u'.getD r 0 = u.getD r 0 := fun r h => X.ub r (fun k hk => h k (by omega))
  -- the least way is no loss but for the first step
  have hfirst : done.getD w false = false → ∀ k, k < w → ¬ D.getD k false = true := fun hd k hk hDk => by
    obtain ⟨e, hall⟩ := A.start hd
    rcases (hds k).1 hDk with e' | e'
    · omega
    · rw [hall k (by omega)] at e'; cases e'
  obtain ⟨⟨f0, r0, b1, b2, b3, b4, b5⟩, b6⟩ := L.bst nx hnx hdn
  have hge : done.getD w false = true → 0 ≤ least := fun hd => by
    have h1 : 0 ≤ sl m u v r0 nx := by
      by_cases h : r0 < i
      · exact A.feas r0 nx h hnx
      · have := A.row_lt b1
        have : r0 = i := by omega
        subst this
        exact A.feasi hd nx hnx
    omega
  have hslow : ∀ k r : Nat, k ≤ w → D.getD k false = true → row.getD k 0 = r → ∀ j, j < w → D.getD j false = false → least ≤ sl m u v r j := fun k r hk hd hr j hj hdj => by
    have h1 := (L.bst j hj hdj).2 k r hk hd hr
    have h2 := hmin j hj hdj
    omega
  have hsame : ∀ k r : Nat, k ≤ w → D.getD k false = true → row.getD k 0 = r → ∀ j, j ≤ w → D.getD j false = true → sl m u' v' r j = sl m u v r j := fun k r hk hd hr j hj hdj => by
    unfold sl
    rw [hTi k r hk hd hr, hvA j hj, if_pos hdj]
    omega
  have hdown : ∀ k r : Nat, k ≤ w → D.getD k false = true → row.getD k 0 = r → ∀ j, j ≤ w → D.getD j false = false → sl m u' v' r j = sl m u v r j - least := fun k r hk hd hr j hj hdj => by
    unfold sl
    rw [hTi k r hk hd hr, hvA j hj, if_neg (by rw [hdj]; simp)]
    omega
  have hiT := hTi w i (Nat.le_refl _) hDw hrowi
  have hfe : ∀ j, j < w → 0 ≤ sl m u' v' i j := fun j hj => by
    by_cases hdj : D.getD j false = true
    · rw [hsame w i (Nat.le_refl _) hDw hrowi j (by omega) hdj]
      by_cases hd : done.getD w false = true
      · exact A.feasi hd j hj
      · exact absurd hdj (hfirst (by simpa using hd) j hj)
    · simp only [Bool.not_eq_true] at hdj
      rw [hdown w i (Nat.le_refl _) hDw hrowi j (by omega) hdj]
      have := hslow w i (Nat.le_refl _) hDw hrowi j hj hdj
      omega
  exact {
    lu := by rw [X.lu]; exact A.lu
    lv := by rw [X.lv]; exact A.lv
    lr := A.lr
    lb := by rw [X.lb]; exact L.lb
    lf := L.lf
    ld := by rw [← hD, List.length_set]; exact A.ld
    hi := A.hi, hw := A.hw, hw2 := A.hw2, small := A.small
    u0 := fun r hr => by
      rw [hTo r (fun k hk _ e => by have := A.row_lt hk; omega)]
      exact A.u0 r hr
    rw' := A.rw', rng := A.rng, inj := A.inj, surj := A.surj
    feas := fun r j hr hj => by
      by_cases hT : ∃ k, k ≤ w ∧ D.getD k false = true ∧ row.getD k 0 = r
      · obtain ⟨k, hk, hd, hkr⟩ := hT
        by_cases hdj : D.getD j false = true
        · rw [hsame k r hk hd hkr j (by omega) hdj]; exact A.feas r j hr hj
        · simp only [Bool.not_eq_true] at hdj
          rw [hdown k r hk hd hkr j (by omega) hdj]
          have := hslow k r hk hd hkr j hj hdj
          omega
      · have hu := hTo r (fun k hk hd e => hT ⟨k, hk, hd, e⟩)
        have h1 := A.feas r j hr hj
        unfold sl at h1 ⊢
        rw [hu, hvA j (by omega)]
        by_cases hdj : D.getD j false = true
        · rw [if_pos hdj]
          by_cases hd : done.getD w false = true
          · have := hge hd; omega
          · exact absurd hdj (hfirst (by simpa using hd) j hj)
        · rw [if_neg hdj]; omega
    feasi := fun _ => hfe
    tight := fun j hj r hr => by
      have h1 := A.tight j hj r hr
      by_cases hdj : D.getD j false = true
      · rw [hsame j r (by omega) hdj hr j (by omega) hdj]; exact h1
      · have hu := hTo r (fun k hk hd e => hdj (by
          have := A.inj' (j := k) (k := j) hk (by omega) (by omega) (by omega)
          subst this; exact hd))
        unfold sl at h1 ⊢
        rw [hu, hvA j (by omega), if_neg hdj]
        exact h1
    vneg := fun j hj => by
      have h1 := A.vneg j hj
      rw [hvA j (by omega)]
      by_cases hdj : D.getD j false = true
      · rw [if_pos hdj]
        by_cases hd : done.getD w false = true
        · have := hge hd; omega
        · exact absurd hdj (hfirst (by simpa using hd) j hj)
      · rw [if_neg hdj]; exact h1
    vfree := fun j hj hf => by
      rw [hvA j (by omega), if_neg (fun hd => by have := hdn' j (by omega) hd; omega)]
      exact A.vfree j hj hf
    c0b := A.c0b
    uv := by
      have := A.uv
      rw [hiT, hvA w (Nat.le_refl _), if_pos hDw]
      omega
    ui := fun hc => by rw [hDw] at hc; cases hc
    uil := by
      rw [hiT]
      by_cases hd : done.getD w false = true
      · have := hge hd
        have := A.uil
        omega
      · have h1 := A.ui (by simpa using hd)
        have h2 : r0 = i := by
          rcases (hds f0).1 b2 with e | e
          · have := (A.start (by simpa using hd)).1
            subst e
            rw [this, hrowi] at b4
            omega
          · rw [(A.start (by simpa using hd)).2 f0 b1] at e; cases e
        subst h2
        have h3 := A.small r0 nx
        have h4 := A.vneg nx hnx
        unfold sl at b5
        omega
    dn := hdn'
    hpos := ⟨by omega, hdn⟩
    start := fun hc => by rw [hDw] at hc; cases hc
    bst := fun _ j hj hdj => by
      obtain ⟨⟨f, r, h1, h2, h3, h4, h5⟩, h6⟩ := L.bst j hj hdj
      refine ⟨⟨f, r, h1, h2, h3, h4, ?_⟩, fun k r' hk hd hr' => ?_⟩
      · rw [hbA j hj hdj, hdown f r h1 h2 h4 j (by omega) hdj, h5]
      · have := h6 k r' hk hd hr'
        rw [hbA j hj hdj, hdown k r' hk hd hr' j (by omega) hdj]
        omega
    far := fun hc => by rw [hDw] at hc; cases hc
    at0 := fun _ => by rw [hbA nx hnx hdn]; omega
    rk1 := fun k hk hd => by
      show (if k = pos then cnt else rk k) < cnt + 1
      split
      · omega
      · rcases (hds k).1 hd with e | e
        · contradiction
        · have := A.rk1 k hk e; omega
    path := fun k hk hd => by
      have hfne : ∀ f, done.getD f false = true → f ≠ pos := fun f hf e => hdp (e ▸ hf)
      by_cases h : k = pos
      · subst h
        have hdw : done.getD w false = true := by
          refine Classical.byContradiction fun hc => ?_
          have := (A.start (by simpa using hc)).1
          omega
        obtain ⟨⟨f, r, h1, h2, h3, h4, h5⟩, _⟩ := A.bst hdw k hk (by simpa using hdp)
        refine ⟨f, r, h1, (hds f).2 (.inr h2), by rw [L.keep k hd]; exact h3, ?_, h4, ?_⟩
        · show (if f = k then cnt else rk f) < (if k = k then cnt else rk k)
          rw [if_neg (hfne f h2), if_pos rfl]
          exact A.rk1 f h1 h2
        · rw [hsame f r h1 ((hds f).2 (.inr h2)) h4 k (by omega) hd, ← h5]
          exact A.at0 hk
      · have hdk : done.getD k false = true := by
          rcases (hds k).1 hd with e | e
          · contradiction
          · exact e
        obtain ⟨f, r, h1, h2, h3, h4, h5, h6⟩ := A.path k hk hdk
        refine ⟨f, r, h1, (hds f).2 (.inr h2), by rw [L.keep k hd]; exact h3, ?_, h5, ?_⟩
        · show (if f = pos then cnt else rk f) < (if k = pos then cnt else rk k)
          rw [if_neg (hfne f h2), if_neg h]
          exact h4
        · rw [hsame f r h1 ((hds f).2 (.inr h2)) h5 k (by omega) hd]
          exact h6 }

theorem wadd {a x b : Int} (e : a = x) (h : -1000000000 ≤ x ∧ x ≤ 1000000000) (h1 : -2000000000 ≤ b) (h2 : b ≤ 4000000000) : IntKind.i64.wrap (a + b) = a + b := i64_wrap (by omega) (by omega)
theorem wsub {a x b : Int} (e : a = x) (h : -200000000000 ≤ x ∧ x ≤ 200000000000) (h1 : -2000000000 ≤ b) (h2 : b ≤ 4000000000) : IntKind.i64.wrap (a - b) = a - b := i64_wrap (by omega) (by omega)
theorem wsub' {a x b : Int} (e : a = x) (h : -2000000000 ≤ x ∧ x ≤ 4000000000) (h1 : -2000000000 ≤ b) (h2 : b ≤ 4000000000) : IntKind.i64.wrap (a - b) = a - b := i64_wrap (by omega) (by omega)

theorem AInv.vb' (A : AInv m w i u v row best frm done pos c0 cnt rk) {j : Nat} (hj : j ≤ w) : -200000000000 ≤ v.getD j 0 ∧ v.getD j 0 ≤ 200000000000 := by
  by_cases h : j < w
  · have := A.vb h; omega
  · have : j = w := by omega
    rw [this]; exact A.vwb

theorem AInv.row_q (A : AInv m w i u v row best frm done pos c0 cnt rk) {j q : Nat} (hj : j ≤ w) (hq : row.getD j 0 = q) : q < m.length := by
  have := A.row_lt hj
  have := A.hi
  omega

theorem AInv.inj_lt (A : AInv m w i u v row best frm done pos c0 cnt rk) {j q : Nat} (hj : j ≤ w) (hq : row.getD j 0 = q) (k : Nat) (hk : k < j) (e : row.getD k 0 = row.getD j 0) : False := by
  have := A.inj' (j := k) (k := j) (by omega) hj e (by omega)
  omega

theorem L4.u_eq (X : L4 w u v best row done least j u' v' best2) {q : Nat} (hinj : ∀ k, k < j → row.getD k 0 = row.getD j 0 → False) (hq : row.getD j 0 = q) : u'.getD q 0 = u.getD q 0 :=
  X.ub q (fun k hk _ e => hinj k hk (by omega))
theorem L4.v_eq (X : L4 w u v best row done least j u' v' best2) : v'.getD j 0 = v.getD j 0 := by rw [X.va, if_neg (by omega)]
theorem L4.b_eq (X : L4 w u v best row done least j u' v' best2) (hj : j < w) : best2.getD j 0 = best.getD j 0 := by rw [X.ba j hj, if_neg (by omega)]

/-! ### the path is exchanged -/

structure FInv (m : List (List Int)) (w i : Nat) (u v row0 frm : List Int) (done : List Bool) (rk : Nat → Nat) (row : List Int) (a b : Nat) : Prop where
  lr : row.length = w + 1
  ha : a ≤ w
  inj : ∀ j k, j ≤ w → k ≤ w → j ≠ a → k ≠ a → row.getD j 0 = row.getD k 0 → 0 ≤ row.getD j 0 → j = k
  rng : ∀ j, j ≤ w → j ≠ a → -1 ≤ row.getD j 0 ∧ row.getD j 0 ≤ i
  surj : ∀ r : Nat, r ≤ i → ∃ j, j ≤ w ∧ j ≠ a ∧ row.getD j 0 = r
  tight : ∀ j, j < w → j ≠ a → ∀ r : Nat, row.getD j 0 = r → sl m u v r j = 0
  vfree : ∀ j, j < w → j ≠ a → row.getD j 0 < 0 → v.getD j 0 = 0
  old : ∀ k, k ≤ w → done.getD k false = true → rk k < b → row.getD k 0 = row0.getD k 0
  ne : ∀ k, k ≤ w → done.getD k false = true → rk k < b → k ≠ a
  pth : a < w → ∃ f r : Nat, f ≤ w ∧ done.getD f false = true ∧ frm.getD a 0 = f ∧ rk f < b ∧ row0.getD f 0 = r ∧ sl m u v r a = 0

theorem AInv.found (A : AInv m w i u v row best frm done pos c0 cnt rk) (hf : row.getD pos 0 < 0) : done.getD w false = true ∧ pos < w := by
  have hw := A.rw'
  have hp := A.hpos.1
  refine ⟨Classical.byContradiction fun hc => ?_, ?_⟩
  · have := (A.start (by simpa using hc)).1
    subst this
    omega
  · refine Classical.byContradiction fun hc => ?_
    have : pos = w := by omega
    subst this
    omega

theorem AInv.flip (A : AInv m w i u v row best frm done pos c0 cnt rk) (hf : row.getD pos 0 < 0) : FInv m w i u v row frm done rk row pos cnt := by
  obtain ⟨hdw, hpw⟩ := A.found hf
  refine ⟨A.lr, by omega, fun j k hj hk _ _ e h0 => A.inj' hj hk e h0, fun j hj _ => ?_, fun r hr => ?_, fun j hj _ r e => A.tight j hj r e, fun j hj _ e => A.vfree j hj e,
    fun k _ _ _ => rfl, fun k hk hd _ e => ?_, fun _ => ?_⟩
  · by_cases h : j < w
    · have := A.rng j h; omega
    · have : j = w := by omega
      subst this
      have := A.rw'; omega
  · by_cases h : r < i
    · obtain ⟨j, hj, e⟩ := A.surj r h
      exact ⟨j, by omega, fun e' => by subst e'; omega, e⟩
    · have := A.rw'
      exact ⟨w, Nat.le_refl _, by omega, by omega⟩
  · subst e
    rw [A.hpos.2] at hd; cases hd
  · obtain ⟨⟨f, r, h1, h2, h3, h4, h5⟩, _⟩ := A.bst hdw pos hpw A.hpos.2
    exact ⟨f, r, h1, h2, h3, A.rk1 f h1 h2, h4, by rw [← h5]; exact A.at0 hpw⟩

theorem FInv.step (A : AInv m w i u v row best frm done pos c0 cnt rk) {row' : List Int} {a b : Nat} (F : FInv m w i u v row frm done rk row' a b) (ha : a < w) :
    ∃ f : Nat, frm.getD a 0 = f ∧ f ≤ w ∧ f ≠ a ∧ rk f < b ∧ FInv m w i u v row frm done rk (row'.set a (row'.getD f 0)) f (rk f) := by
  obtain ⟨f, r, hfw, hdf, hfr, hrk, hr0, hsl⟩ := F.pth ha
  have hne := F.ne f hfw hdf hrk
  have hlr := F.lr
  have hrf : row'.getD f 0 = r := by rw [F.old f hfw hdf hrk]; exact hr0
  have hg : ∀ k, k ≠ a → (row'.set a (row'.getD f 0)).getD k 0 = row'.getD k 0 := fun k hk => by rw [gset (by omega), if_neg (fun e => hk e.symm)]
  have hga : (row'.set a (row'.getD f 0)).getD a 0 = r := by rw [gset (by omega), if_pos rfl]; exact hrf
  have hl2 : (row'.set a (row'.getD f 0)).length = w + 1 := by rw [List.length_set]; exact hlr
  refine ⟨f, hfr, hfw, hne, hrk, ?_⟩
  generalize row'.set a (row'.getD f 0) = row2 at hg hga hl2 ⊢
  refine ⟨hl2, hfw, fun j k hj hk hjf hkf e h0 => ?_, fun j hj hjf => ?_, fun r' hr' => ?_, fun j hj hjf r' e => ?_, fun j hj hjf e => ?_, fun k hk hd hlt => ?_, fun k hk hd hlt e => by subst e; omega, fun hlt => ?_⟩
  · by_cases h1 : j = a
    · by_cases h2 : k = a
      · omega
      · subst h1
        rw [hga, hg k h2] at e
        exact absurd (F.inj f k hfw hk hne h2 (by omega) (by omega)).symm hkf
    · by_cases h2 : k = a
      · subst h2
        rw [hga, hg j h1] at e
        exact absurd (F.inj f j hfw hj hne h1 (by omega) (by omega)).symm hjf
      · rw [hg j h1, hg k h2] at e
        rw [hg j h1] at h0
        exact F.inj j k hj hk h1 h2 e h0
  · by_cases h1 : j = a
    · subst h1
      rw [hga, ← hrf]
      exact F.rng f hfw hne
    · rw [hg j h1]; exact F.rng j hj h1
  · obtain ⟨j, hj, hja, e⟩ := F.surj r' hr'
    by_cases h1 : j = f
    · subst h1
      exact ⟨a, F.ha, fun x => hne x.symm, by omega⟩
    · exact ⟨j, hj, h1, by rw [hg j hja]; exact e⟩
  · by_cases h1 : j = a
    · subst h1
      rw [hga] at e
      have : r' = r := by omega
      subst this
      exact hsl
    · rw [hg j h1] at e; exact F.tight j hj h1 r' e
  · by_cases h1 : j = a
    · subst h1; omega
    · rw [hg j h1] at e; exact F.vfree j hj h1 e
  · have h1 := F.ne k hk hd (by omega)
    rw [hg k h1]
    exact F.old k hk hd (by omega)
  · obtain ⟨f', r', h1, h2, h3, h4, h5, h6⟩ := A.path f hlt hdf
    exact ⟨f', r', h1, h2, h3, h4, h5, h6⟩

theorem FInv.done' (A : AInv m w i u v row best frm done pos c0 cnt rk) (hdw : done.getD w false = true) {row' : List Int} {b : Nat} (F : FInv m w i u v row frm done rk row' w b) :
    HInv m w (i + 1) u v (row'.set w (-1)) := by
  have hlr := F.lr
  have hg : ∀ k, k < w → (row'.set w (-1)).getD k 0 = row'.getD k 0 := fun k hk => by rw [gset (by omega), if_neg (by omega)]
  have hui := A.ub i
  exact {
    lu := A.lu, lv := A.lv, lr := by rw [List.length_set]; exact hlr, hi := A.hi, hw := A.hw, hw2 := A.hw2, small := A.small
    u0 := fun r hr => A.u0 r (by omega)
    last := by rw [gset (by omega), if_pos rfl]
    rng := fun j hj => by rw [hg j hj]; have := F.rng j (by omega) (by omega); omega
    inj := fun j k hj hk e h0 => by rw [hg j hj, hg k hk] at e; rw [hg j hj] at h0; exact F.inj j k (by omega) (by omega) (by omega) (by omega) e h0
    surj := fun r hr => by
      obtain ⟨j, hj, hja, e⟩ := F.surj r (by omega)
      exact ⟨j, by omega, by rw [hg j (by omega)]; exact e⟩
    feas := fun r j hr hj => by
      by_cases h : r < i
      · exact A.feas r j h hj
      · have : r = i := by omega
        subst this; exact A.feasi hdw j hj
    tight := fun j hj r e => by rw [hg j hj] at e; exact F.tight j hj (by omega) r e
    vneg := A.vneg
    vfree := fun j hj e => by rw [hg j hj] at e; exact F.vfree j hj (by omega) e
    vw := by
      have := A.uv
      have := A.c0b
      omega
    vz := fun _ => by
      obtain ⟨j, hj, e⟩ := A.free
      exact ⟨j, hj, A.vfree j hj e⟩ }

end
end Go.Ab.A40
