/- Several texts in one: P2, P4, C1, C2, C3, C4, P3, M1, C5, C6, C7, C8, C9, P6, CA, CB, CC, CD, J1. -/
import Derived.Test.YtpidncgibgiidaaGreatQ1
import Derived.Test.YtpidncgibgiidaaGreatZ14
import Derived.Test.YtpidncgibgiidaaGreatZ7
import Derived.Test.YtpidncgibgiidaaGreatZ10
set_option linter.unusedSimpArgs false
set_option linter.unusedVariables false
set_option linter.unusedSectionVars false
set_option maxHeartbeats 4000000
set_option maxRecDepth 20000
namespace Go.Ab.A15
theorem nodup_bound : ∀ (N : Nat) (L : List Nat), L.Nodup → (∀ x ∈ L, x < N) → L.length ≤ N
  | 0, L, _, h => by
    cases L with
    | nil => simp
    | cons x r => exact absurd (h x List.mem_cons_self) (Nat.not_lt_zero _)
  | N + 1, L, hn, h => by
    have h1 := nodup_bound N (L.erase N) (hn.erase N) (fun x hx => by
      have h2 := h x (List.mem_of_mem_erase hx)
      have h3 : x ≠ N := (hn.mem_erase_iff.1 hx).1
      omega)
    by_cases hm : N ∈ L
    · rw [List.length_erase_of_mem hm] at h1; omega
    · rw [List.erase_of_not_mem hm] at h1; omega
def In16 (a : List Int) : Prop := ∀ x ∈ a, 0 ≤ x ∧ x < 16
structure Small (l : List Dp) (g : Dp) (nm : List ByteArray) : Prop where
  n4 : nm.length ≤ 4
  g3 : g.l.length ≤ 3
  gl : In16 g.l
  gf : g.f ∈ nm
  lr : ∀ d ∈ l, d.l.length = d.r.length
  r16 : ∀ d ∈ l, In16 d.r
  lt : ∀ d ∈ l, d.t ∈ nm
theorem folI_len {d : Dp} : ∀ {a : List Int} {q : List (Int × Int)}, folI d a = some q → q.length = a.length
  | [], q, h => by cases h; rfl
  | x :: r, q, h => by
    unfold folI at h
    by_cases h1 : atI x 0 d.l < 0
    · rw [if_pos h1] at h; cases h
    · rw [if_neg h1] at h
      cases h2 : folI d r with
      | none => rw [h2] at h; cases h
      | some q' => rw [h2] at h; cases h; rw [List.length_cons, folI_len h2, List.length_cons]
theorem folI_mem {d : Dp} : ∀ {a : List Int} {q : List (Int × Int)}, folI d a = some q → ∀ p ∈ q, ∃ j, p.1 = ((j : Nat) : Int) ∧ j < d.l.length ∧ p.2 = d.r.getD j 0
  | [], q, h, p, hp => by cases h; cases hp
  | x :: r, q, h, p, hp => by
    unfold folI at h
    by_cases h1 : atI x 0 d.l < 0
    · rw [if_pos h1] at h; cases h
    · rw [if_neg h1] at h
      cases h2 : folI d r with
      | none => rw [h2] at h; cases h
      | some q' =>
        rw [h2] at h
        cases h
        rcases List.mem_cons.1 hp with rfl | hp
        · obtain ⟨j, e1, e2, _⟩ := atI_is (x := x) (i := 0) (show 0 ≤ atI x 0 d.l by omega)
          rw [Nat.zero_add] at e1
          exact ⟨j, e1, e2, by show d.r.getD (atI x 0 d.l).toNat 0 = _; rw [e1, Int.toNat_natCast]⟩
        · exact folI_mem h2 p hp
theorem getD_mem' {α : Type} (d : α) {l : List α} {i : Nat} (h : i < l.length) : l.getD i d ∈ l := by
  have g : l.getD i d = l[i] := by simp [List.getD_eq_getElem?_getD, h]
  rw [g]
  exact List.getElem_mem h
theorem Ivs.all {l : List Dp} {g : Dp} {nm : List ByteArray} (hs : Small l g nm) {out : List Sn} (h : Ivs l g out) : ∀ j, j < out.length → (out.getD j s0).t ∈ nm ∧ In16 (out.getD j s0).a ∧ (out.getD j s0).a.length = g.l.length := by
  intro j
  induction j using Nat.strongRecOn with
  | ind j ih =>
    intro hj
    rcases Nat.eq_zero_or_pos j with rfl | h0
    · rw [h.rt]
      exact ⟨hs.gf, hs.gl, rfl⟩
    · obtain ⟨b, k, hb, hk, _, _, hn⟩ := h.nx j h0 hj
      obtain ⟨_, _, e3, _, _, q, e4, e5, _⟩ := nextS_bf hn
      have hm := getD_mem' d0 hk
      refine ⟨by rw [e3]; exact hs.lt _ hm, fun x hx => ?_, ?_⟩
      · rw [e5] at hx
        obtain ⟨p, hp, rfl⟩ := List.mem_map.1 hx
        obtain ⟨i, _, hi, e⟩ := folI_mem e4 p hp
        rw [e]
        exact hs.r16 _ hm _ (getD_mem' 0 (by rw [← hs.lr _ hm]; exact hi))
      · rw [e5, List.length_map, folI_len e4, (ih b hb (by omega)).2.2]
def idxN (t : ByteArray) : List ByteArray → Nat
  | [] => 0
  | y :: r => if y = t then 0 else idxN t r + 1
theorem idxN_lt {t : ByteArray} : ∀ {nm : List ByteArray}, t ∈ nm → idxN t nm < nm.length
  | y :: r, h => by
    unfold idxN
    by_cases h1 : y = t
    · rw [if_pos h1]; simp
    · rw [if_neg h1, List.length_cons]
      have := idxN_lt ((List.mem_cons.1 h).resolve_left (fun e => h1 e.symm))
      omega
theorem idxN_inj {t u : ByteArray} : ∀ {nm : List ByteArray}, t ∈ nm → u ∈ nm → idxN t nm = idxN u nm → t = u
  | y :: r, h1, h2, h => by
    unfold idxN at h
    by_cases e1 : y = t
    · rw [if_pos e1] at h
      by_cases e2 : y = u
      · rw [← e1, ← e2]
      · rw [if_neg e2] at h; omega
    · rw [if_neg e1] at h
      by_cases e2 : y = u
      · rw [if_pos e2] at h; omega
      · rw [if_neg e2] at h
        exact idxN_inj ((List.mem_cons.1 h1).resolve_left (fun e => e1 e.symm)) ((List.mem_cons.1 h2).resolve_left (fun e => e2 e.symm)) (by omega)
/-! proofs -/
def p0 : Int × List Int := (0, [])
end Go.Ab.A15
namespace Go.Ab.A15
def imgR (n : Nat) (d : Dp) (r : List Int) : List Int := (List.range n).map fun (i : Nat) => if atI (i : Int) 0 d.r < 0 then 0 else r.getD (d.l.getD (atI (i : Int) 0 d.r).toNat 0).toNat 0
def firstR (n : Nat) (g : Dp) : List Int := (List.range n).map fun (i : Nat) => if atI (i : Int) 0 g.l < 0 then 0 else atI (i : Int) 0 g.l + 1
inductive Cl (nm : List ByteArray) (ns : List Nat) (l : List Dp) (g : Dp) : Nat → List Int → Prop where
  | first : Cl nm ns l g (idxN g.f nm) (firstR (ns.getD (idxN g.f nm) 0) g)
  | step (d : Dp) (r : List Int) (hd : d ∈ l) (h : Cl nm ns l g (idxN d.f nm) r) : Cl nm ns l g (idxN d.t nm) (imgR (ns.getD (idxN d.t nm) 0) d r)
theorem getD_range {α : Type} {n i : Nat} (f : Nat → α) (d : α) (h : i < n) : ((List.range n).map f).getD i d = f i := by simp [List.getD_eq_getElem?_getD, h]
theorem Cl.len {nm : List ByteArray} {ns : List Nat} {l : List Dp} {g : Dp} {t : Nat} {r : List Int} (h : Cl nm ns l g t r) : r.length = ns.getD t 0 := by
  cases h <;> simp [firstR, imgR]
theorem atI_lt {x : Int} {l : List Int} (h : ¬ atI x 0 l < 0) : (atI x 0 l).toNat < l.length ∧ l.getD (atI x 0 l).toNat 0 = x := by
  obtain ⟨j, e1, e2, e3, _⟩ := atI_is (x := x) (l := l) (i := 0) (by omega)
  rw [e1, Nat.zero_add, Int.toNat_natCast]
  exact ⟨e2, e3⟩
theorem getD_out {l : List Int} {i : Nat} (h : l.length ≤ i) : l.getD i 0 = 0 := by
  rw [List.getD_eq_getElem?_getD, List.getElem?_eq_none h]; rfl
theorem Cl.val {nm : List ByteArray} {ns : List Nat} {l : List Dp} {g : Dp} {t : Nat} {r : List Int} (h : Cl nm ns l g t r) : ∀ i, 0 ≤ r.getD i 0 ∧ r.getD i 0 ≤ g.l.length := by
  induction h with
  | first =>
    intro i
    rcases Nat.lt_or_ge i (ns.getD (idxN g.f nm) 0) with hi | hi
    · unfold firstR
      rw [getD_range _ _ hi]
      split
      · omega
      · rename_i h1
        have := (atI_lt h1).1
        omega
    · rw [getD_out (by simp [firstR]; simpa using hi)]; omega
  | step d r hd h ih =>
    intro i
    rcases Nat.lt_or_ge i (ns.getD (idxN d.t nm) 0) with hi | hi
    · unfold imgR
      rw [getD_range _ _ hi]
      split
      · omega
      · exact ih _
    · rw [getD_out (by simp [imgR]; simpa using hi)]; omega
structure Fit (nm : List ByteArray) (ns : List Nat) (d : Dp) : Prop where
  f : d.f ∈ nm
  t : d.t ∈ nm
  lr : d.l.length = d.r.length
  l : ∀ x ∈ d.l, 0 ≤ x ∧ x < ns.getD (idxN d.f nm) 0
  r : ∀ x ∈ d.r, 0 ≤ x ∧ x < ns.getD (idxN d.t nm) 0
  nl : d.l.Nodup
  nr : d.r.Nodup
theorem folI_of {d : Dp} : ∀ {a : List Int}, (∀ x ∈ a, x ∈ d.l) → ∃ q, folI d a = some q ∧ q.map (·.2) = a.map fun x => d.r.getD (atI x 0 d.l).toNat 0
  | [], _ => ⟨[], rfl, rfl⟩
  | x :: r, h => by
    obtain ⟨q, e1, e2⟩ := folI_of (a := r) (d := d) fun y hy => h y (List.mem_cons_of_mem _ hy)
    have hx : ¬ atI x 0 d.l < 0 := fun h1 => atI_none.1 h1 (h x List.mem_cons_self)
    exact ⟨(atI x 0 d.l, d.r.getD (atI x 0 d.l).toNat 0) :: q, by unfold folI; rw [if_neg hx, e1], by rw [List.map_cons, List.map_cons, e2]⟩
theorem Cl.known {nm : List ByteArray} {ns : List Nat} {l : List Dp} {g : Dp} {out : List Sn} (hl : ∀ d ∈ l, Fit nm ns d) (hg : Fit nm ns g) (hr : 0 ≤ findS g.f g.l 0 out) (hd : ∀ i', i' < out.length → ∀ k', k' < l.length → Done l out i' k')
    {t : Nat} {r : List Int} (h : Cl nm ns l g t r) : ∀ (u : ByteArray) (a : List Int), u ∈ nm → idxN u nm = t → a.length = g.l.length → (∀ i, i < a.length → 0 ≤ a.getD i 0 ∧ a.getD i 0 < ns.getD t 0 ∧ r.getD (a.getD i 0).toNat 0 = (i : Int) + 1) → 0 ≤ findS u a 0 out := by
  induction h with
  | first =>
    intro u a hu ht hal ha
    obtain rfl := idxN_inj hu hg.f ht
    have e : a = g.l := by
      refine List.ext_getElem hal fun i h1 h2 => ?_
      obtain ⟨a1, a2, a3⟩ := ha i h1
      have ga : a.getD i 0 = a[i] := by simp [List.getD_eq_getElem?_getD, h1]
      have gl : g.l.getD i 0 = g.l[i] := by simp [List.getD_eq_getElem?_getD, h2]
      rw [← ga, ← gl]
      unfold firstR at a3
      rw [getD_range _ _ (by omega)] at a3
      rw [show (((a.getD i 0).toNat : Nat) : Int) = a.getD i 0 by omega] at a3
      split at a3
      · omega
      · rename_i h3
        obtain ⟨b1, b2⟩ := atI_lt h3
        have : (atI (a.getD i 0) 0 g.l).toNat = i := by omega
        rw [this] at b2
        exact b2.symm
    rw [e]
    exact hr
  | step d r hdm h ih =>
    intro u a hu ht hal ha
    have F := hl d hdm
    obtain rfl := idxN_inj hu F.t ht
    have key : ∀ i, i < a.length → ¬ atI (a.getD i 0) 0 d.r < 0 ∧ r.getD (d.l.getD (atI (a.getD i 0) 0 d.r).toNat 0).toNat 0 = (i : Int) + 1 := fun i hi => by
      obtain ⟨a1, a2, a3⟩ := ha i hi
      unfold imgR at a3
      rw [getD_range _ _ (by omega)] at a3
      rw [show (((a.getD i 0).toNat : Nat) : Int) = a.getD i 0 by omega] at a3
      split at a3
      · omega
      · rename_i h3
        exact ⟨h3, a3⟩
    have gm : ∀ i, i < (a.map fun x => d.l.getD (atI x 0 d.r).toNat 0).length → i < a.length ∧ (a.map fun x => d.l.getD (atI x 0 d.r).toNat 0).getD i 0 = d.l.getD (atI (a.getD i 0) 0 d.r).toNat 0 := fun i hi => by
      rw [List.length_map] at hi
      exact ⟨hi, by simp [List.getD_eq_getElem?_getD, hi]⟩
    have in_l : ∀ i, i < a.length → d.l.getD (atI (a.getD i 0) 0 d.r).toNat 0 ∈ d.l := fun i hi => getD_mem' 0 (by rw [F.lr]; exact (atI_lt (key i hi).1).1)
    have k1 := ih d.f (a.map fun x => d.l.getD (atI x 0 d.r).toNat 0) F.f rfl (by rw [List.length_map, hal]) (fun i hi => by
      obtain ⟨g1, g2⟩ := gm i hi
      have hb := F.l _ (in_l i g1)
      rw [g2]
      exact ⟨hb.1, hb.2, (key i g1).2⟩)
    obtain ⟨j, _, j2, j3, j4⟩ := findS_is k1
    obtain ⟨q, q1, q2⟩ := folI_of (d := d) (a := a.map fun x => d.l.getD (atI x 0 d.r).toNat 0) (fun x hx => by
      obtain ⟨i, hi, rfl⟩ := List.getElem_of_mem hx
      obtain ⟨g1, g2⟩ := gm i hi
      have := in_l i g1
      rw [← g2] at this
      rwa [List.getD_eq_getElem?_getD, List.getElem?_eq_getElem hi] at this)
    obtain ⟨kk, hk, hkd⟩ := List.getElem_of_mem hdm
    have := hd j j2 kk hk d ⟨d.t, q.map (·.2), j, kk, q.map (·.1), (out.getD j s0).st + 1⟩ (by rw [List.getElem?_eq_getElem hk, hkd]) (by
      unfold nextS
      rw [if_pos j3, j4, q1])
    simp only at this
    rw [q2, List.map_map] at this
    have e : (a.map ((fun x => d.r.getD (atI x 0 d.l).toNat 0) ∘ fun x => d.l.getD (atI x 0 d.r).toNat 0)) = a := by
      refine List.ext_getElem (by simp) fun i h1 h2 => ?_
      have ga : a.getD i 0 = a[i] := by simp [List.getD_eq_getElem?_getD, h2]
      obtain ⟨b1, b2⟩ := atI_lt (key i h2).1
      rw [List.getElem_map, Function.comp_apply, ← ga, atI_nodup F.nl (by rw [F.lr]; exact b1), Int.toNat_natCast, b2]
    rw [e] at this
    exact this
end Go.Ab.A15
namespace Go.Ab.A15
open Go Go.Ab Go.Ab.A34
def t0 : Tb := ⟨⟨#[]⟩, [], []⟩
abbrev tC (t : Tb) : List SV := [Str t.name, SL t.attrs, RL t.rows]
def tF (l : List Tb) (i : Nat) : List SV := tC (l.getD i t0)
abbrev TL (l : List Tb) : SV := .fl l.length 3 (tF l)
abbrev DB (l : List Tb) : SV := .agg [TL l]
def iF (l : List Int) (i : Nat) : List SV := [I64 (l.getD i 0)]
abbrev IL (l : List Int) : SV := .fl l.length 1 (iF l)
abbrev dC (d : Dp) : List SV := [Str d.f, IL d.l, Str d.t, IL d.r]
abbrev DV (d : Dp) : SV := .agg (dC d)
def tabI (x : ByteArray) : Nat → List Tb → Int
  | _, [] => -1
  | i, y :: l => if y.name = x then (i : Int) else tabI x (i + 1) l
theorem tabI_step {x : ByteArray} {l : List Tb} {i : Nat} (h : i < l.length) : tabI x i (l.drop i) = if (l.getD i t0).name = x then (i : Int) else tabI x (i + 1) (l.drop (i + 1)) := by
  have g : l.getD i t0 = l[i] := by simp [List.getD_eq_getElem?_getD, h]
  rw [List.drop_eq_getElem_cons h, g]
  rfl
theorem tabI_is {x : ByteArray} : ∀ {l : List Tb} {i : Nat}, (tabI x i l = -1 ∧ ∀ t ∈ l, t.name ≠ x) ∨ ∃ j, tabI x i l = ((i + j : Nat) : Int) ∧ j < l.length ∧ (l.getD j t0).name = x ∧ ∀ k, k < j → (l.getD k t0).name ≠ x
  | [], i => .inl ⟨rfl, fun t ht => by cases ht⟩
  | y :: l, i => by
    unfold tabI
    by_cases h : y.name = x
    · rw [if_pos h]
      exact .inr ⟨0, rfl, by simp, by simp [h], fun k hk => absurd hk (Nat.not_lt_zero _)⟩
    · rw [if_neg h]
      rcases tabI_is (x := x) (l := l) (i := i + 1) with ⟨h1, h2⟩ | ⟨j, e1, e2, e3, e4⟩
      · refine .inl ⟨h1, fun t ht => ?_⟩
        rcases List.mem_cons.1 ht with rfl | ht
        · exact h
        · exact h2 t ht
      · refine .inr ⟨j + 1, by rw [e1]; congr 1; omega, by simpa using e2, by simpa using e3, fun k hk => ?_⟩
        cases k with
        | zero => simpa using h
        | succ k => simpa using e4 k (by omega)
theorem iF_take {l : List Int} {i j : Nat} (hj : j < i) : iF l j = [I64 ((l.take i).getD j 0)] := by
  rw [getD_take _ _ _ _ hj]
  rfl
theorem tF_take {l : List Tb} {i j : Nat} (hj : j < i) : tF l j = tC ((l.take i).getD j t0) := by
  rw [getD_take _ _ _ _ hj]
  rfl
def winB (l : List Int) (n : Int) : Bool := l.all fun a => decide (0 ≤ a) && decide (a < n)
theorem winB_iff {l : List Int} {n : Int} : winB l n = true ↔ ∀ a ∈ l, 0 ≤ a ∧ a < n := by
  unfold winB
  simp [List.all_eq_true]
theorem posFi_step {p : Int → Bool} {l : List Int} {i : Nat} (h : i < l.length) : posF p i (l.drop i) = if p (l.getD i 0) = true then (i : Int) else posF p (i + 1) (l.drop (i + 1)) := posF_step 0 h
theorem nodup_take {l : List Int} : l.Nodup ↔ ∀ i, i < l.length → l.getD i 0 ∉ l.take i := by
  constructor
  · intro h i hi hm
    obtain ⟨j, hj, e⟩ := List.getElem_of_mem hm
    rw [List.length_take] at hj
    rw [List.getElem_take] at e
    have hj2 : j < l.length := by omega
    have := nodup_get h (i := j) (j := i) hj2 hi (by rw [← e]; simp [List.getD_eq_getElem?_getD, hj2])
    omega
  · intro h
    refine List.pairwise_iff_getElem.2 fun i j hi hj hij e => h j hj ?_
    have g : l.getD j 0 = l[j] := by simp [List.getD_eq_getElem?_getD, hj]
    rw [g, ← e]
    have hl : i < (l.take j).length := by rw [List.length_take]; omega
    have : (l.take j)[i] = l[i] := List.getElem_take
    rw [← this]
    exact List.getElem_mem hl
theorem nodup_at {l : List Int} : l.Nodup ↔ ∀ i, i < l.length → atI (l.getD i 0) 0 l = (i : Int) := by
  constructor
  · exact fun h i hi => atI_nodup h hi
  · intro h
    refine List.pairwise_iff_getElem.2 fun i j hi hj hij e => ?_
    have g1 : l.getD i 0 = l[i] := by simp [List.getD_eq_getElem?_getD, hi]
    have g2 : l.getD j 0 = l[j] := by simp [List.getD_eq_getElem?_getD, hj]
    have h1 := h i hi
    have h2 := h j hj
    rw [g1, e] at h1
    rw [g2] at h2
    omega
def fitsS (db : List Tb) (d : Dp) : Int :=
  if tabI d.f 0 db < 0 ∨ tabI d.t 0 db < 0 then 4
  else if ¬ d.l.length = d.r.length ∨ winB d.l (db.getD (tabI d.f 0 db).toNat t0).attrs.length = false ∨ winB d.r (db.getD (tabI d.t 0 db).toNat t0).attrs.length = false then 6
  else if d.l.Nodup ∧ d.r.Nodup then 0 else 1
end Go.Ab.A15
namespace Go.Proofs.YtpidncgibgiidaaGreat
open Go Go.Ab Go.Ab.A34 Go.Ab.A15
variable [Gl] [Tabs]
theorem find1_p (x : ByteArray) (t : Tb) : PCall Tryz.prog 137 [TB t, .fp [Str x]] (SB (decide (t.name = x))) := by
  obtain ⟨a, b, c⟩ := t
  simp only
  by_cases he : a = x
  · have ee : (a.toList == x.toList) = true := barr_eq.2 he
    rw [decide_eq_true he]
    refine Call.enter' (N := 8) (rs := [.tmp 3]) Tryz.func137 rfl rfl rfl (by decide) rfl ?_; simp only [argT]; have hD : (0 : Nat) = 0 := rfl
    repeat' first | (refine SW.seq_k fun K hK => ?_) | ((first | refine SW.region ?_ | refine SW.ret ?_ | (refine allF_i fun b hb => ?_; replace hD := And.intro hb hD; clear hb; try simp only [fresh_cons, fresh_nil, and_true, ne_eq, neF] at hD)); try simp only [go_sem, hD, ee]) | (apply hK; clear hK K)
    refine ret_pure ?_; simp only [resL_tmp, resL_nil, tupOf, go_sem, hD]
  · have ee : (a.toList == x.toList) = false := by rw [Bool.eq_false_iff]; exact fun h => he (barr_eq.1 h)
    rw [decide_eq_false he]
    refine Call.enter' (N := 8) (rs := [.tmp 3]) Tryz.func137 rfl rfl rfl (by decide) rfl ?_; simp only [argT]; have hD : (0 : Nat) = 0 := rfl
    repeat' first | (refine SW.seq_k fun K hK => ?_) | ((first | refine SW.region ?_ | refine SW.ret ?_ | (refine allF_i fun b hb => ?_; replace hD := And.intro hb hD; clear hb; try simp only [fresh_cons, fresh_nil, and_true, ne_eq, neF] at hD)); try simp only [go_sem, hD, ee]) | (apply hK; clear hK K)
    refine ret_pure ?_; simp only [resL_tmp, resL_nil, tupOf, go_sem, hD]
theorem indexT_p (x : ByteArray) (l : List Tb) (n : Nat) (hl : n ≤ 9223372036854775807) (hn : l.length = n) (f : Nat → List SV) (hf : ∀ i, i < n → f i = tC (l.getD i t0)) : PCall Tryz.prog 54 [.fl n 3 f, .fn (.func 137) [] [.fp [Str x]]] (I64 (tabI x 0 l)) := by
  subst hn
  obtain ⟨R, hR⟩ : ∃ R, R = tabI x 0 l := ⟨_, rfl⟩
  rw [← hR]
  refine Call.enter' (N := 19) (rs := [.tmp 4]) Tryz.func54 rfl rfl rfl (by decide) rfl ?_; simp only [argT]; have hD : (0 : Nat) = 0 := rfl
  repeat' first | (refine SW.seq_k fun K hK => ?_) | (refine SW.block ?_) | (refine SW.region ?_; try simp only [go_sem, hD]) | (apply hK; clear hK K)
  obtain ⟨I, hI⟩ : ∃ I : Nat → St → Prop, ∀ k S, I k S ↔ (∃ (i : Nat) , k = l.length - i ∧ i ≤ l.length ∧ R = tabI x i (l.drop i) ∧ S = ⟨[(0, .fl l.length 3 f), (1, .fn (.func 137) [] [.fp [Str x]]), (7, I64 l.length), (8, I64 i)], []⟩) := ⟨fun k S => _, fun _ _ => Iff.rfl⟩
  refine SW.loop' I (l.length) ((hI _ _).2 ⟨0, rfl, Nat.zero_le _, by rw [List.drop_zero]; exact hR, rfl⟩) (by repeat' (first | exact rfl | exact trivial | constructor)) ?_
  intro k S hIn
  obtain ⟨i, rfl, hi, hC, rfl⟩ := (hI _ _).1 hIn
  clear hIn
  have ie : ((i : Nat) : Int).toNat = i := Int.toNat_natCast _
  have i0 : (0 : Int) ≤ ((i : Nat) : Int) := by omega
  clear hR
  by_cases hlt : i < l.length
  · have hli : ((i : Nat) : Int) < (((l.length) : Nat) : Int) := by omega
    have w1 : IntKind.i64.wrap ((i : Int) + 1) = ((i + 1 : Nat) : Int) := by rw [i64_wrap (by omega) (by omega)]; omega
    rw [tabI_step hlt] at hC
    have fi := hf i hlt
    have c := find1_p x (l.getD i t0)
    generalize l.getD i t0 = t at *
    by_cases he : t.name = x
    · rw [if_pos he] at hC
      rw [decide_eq_true he] at c
      subst hC
      repeat' first | (refine SW.seq_k fun K hK => ?_) | (refine SW.block ?_) | ((first | refine SW.region ?_ | refine SW.cond ?_ | refine SW.skip ?_ | refine SW.ret ?_ | refine Call.of_pure (c) ?_); try simp only [go_sem, hD, hli, ie, i0, w1, fi]) | (apply hK; clear hK K)
      refine ret_pure ?_; simp only [resL_tmp, resL_nil, tupOf, go_sem, hD]
    · rw [if_neg he] at hC
      rw [decide_eq_false he] at c
      repeat' first | (refine SW.seq_k fun K hK => ?_) | (refine SW.block ?_) | ((first | refine SW.region ?_ | refine SW.cond ?_ | refine SW.skip ?_ | refine Call.of_pure (c) ?_); try simp only [go_sem, hD, hli, ie, i0, w1, fi]) | (apply hK; clear hK K)
      refine Rnd.sub (l.length - (i + 1)) (by omega) ((hI _ _).2 ⟨i + 1, rfl, by omega, hC, rfl⟩) (by repeat' (first | exact rfl | exact trivial | constructor))
  · have hli : ¬ ((i : Nat) : Int) < (((l.length) : Nat) : Int) := by omega
    rw [List.drop_of_length_le (by omega)] at hC
    have hC2 : R = -1 := hC
    subst hC2
    repeat' first | (refine SW.seq_k fun K hK => ?_) | ((first | refine SW.region ?_ | refine SW.cond ?_ | refine SW.exit ?_ | refine SW.ret ?_); try simp only [go_sem, hD, hli]) | (apply hK; clear hK K) | (clear hK K; apply hK; clear hK K)
    refine ret_pure ?_; simp only [resL_tmp, resL_nil, tupOf, go_sem, hD]
theorem find_p (x : ByteArray) (l : List Tb) (n : Nat) (hl : n ≤ 9223372036854775807) (hn : l.length = n) (f : Nat → List SV) (hf : ∀ i, i < n → f i = tC (l.getD i t0)) : PCall Tryz.prog 106 [.fl n 3 f, Str x] (I64 (tabI x 0 l)) := by
  have ix := indexT_p x l n hl hn f hf
  generalize tabI x 0 l = R at *
  refine Call.enter' (N := 8) (rs := [.tmp 4]) Tryz.func106 rfl rfl rfl (by decide) rfl ?_; simp only [argT]; have hD : (0 : Nat) = 0 := rfl
  repeat' first | ((refine Ab.SW.le (St.le_freezeP (i := 3) (n := 1) rfl (by rw [find_cons, if_pos rfl]) (by exact Nat.le_refl 1)) ?_); (rw [del_head]); (simp only [getN, Blk.get])) | (refine SW.seq_k fun K hK => ?_) | ((first | refine SW.region ?_ | refine SW.ret ?_ | refine Call.of_pure (ix) ?_ | (refine allF_i fun b hb => ?_; replace hD := And.intro hb hD; clear hb; try simp only [fresh_cons, fresh_nil, and_true, ne_eq, neF] at hD)); try simp only [go_sem, hD]) | (apply hK; clear hK K)
  refine ret_pure ?_; simp only [resL_tmp, resL_nil, tupOf, go_sem, hD]
theorem table_r (x : ByteArray) (l : List Tb) (n : Nat) (hl : n ≤ 9223372036854775807) (hn : l.length = n) (f : Nat → List SV) (hf : ∀ i, i < n → f i = tC (l.getD i t0)) : PCall Tryz.prog 33 [.fl n 3 f, Str x] (I64 (tabI x 0 l)) := by
  subst hn
  obtain ⟨R, hR⟩ : ∃ R, R = tabI x 0 l := ⟨_, rfl⟩
  rw [← hR]
  refine Call.enter' (N := 20) (rs := [.tmp 4]) Tryz.func33 rfl rfl rfl (by decide) rfl ?_; simp only [argT]; have hD : (0 : Nat) = 0 := rfl
  repeat' first | (refine SW.seq_k fun K hK => ?_) | (refine SW.block ?_) | (refine SW.region ?_; try simp only [go_sem, hD]) | (apply hK; clear hK K)
  obtain ⟨I, hI⟩ : ∃ I : Nat → St → Prop, ∀ k S, I k S ↔ (∃ (i : Nat) , k = l.length - i ∧ i ≤ l.length ∧ R = tabI x i (l.drop i) ∧ S = ⟨[(0, .fl l.length 3 f), (1, Str x), (5, I64 i)], []⟩) := ⟨fun k S => _, fun _ _ => Iff.rfl⟩
  refine SW.loop' I (l.length) ((hI _ _).2 ⟨0, rfl, Nat.zero_le _, by rw [List.drop_zero]; exact hR, rfl⟩) (by repeat' (first | exact rfl | exact trivial | constructor)) ?_
  intro k S hIn
  obtain ⟨i, rfl, hi, hC, rfl⟩ := (hI _ _).1 hIn
  clear hIn
  have ie : ((i : Nat) : Int).toNat = i := Int.toNat_natCast _
  have i0 : (0 : Int) ≤ ((i : Nat) : Int) := by omega
  clear hR
  by_cases hlt : i < l.length
  · have hli : ((i : Nat) : Int) < (((l.length) : Nat) : Int) := by omega
    have w1 : IntKind.i64.wrap ((i : Int) + 1) = ((i + 1 : Nat) : Int) := by rw [i64_wrap (by omega) (by omega)]; omega
    rw [tabI_step hlt] at hC
    have fi := hf i hlt
    generalize l.getD i t0 = t at *
    obtain ⟨a, b, c⟩ := t
    simp only at hC
    by_cases he : a = x
    · rw [if_pos he] at hC
      have ee : (a.toList == x.toList) = true := barr_eq.2 he
      subst hC
      repeat' first | (refine SW.seq_k fun K hK => ?_) | (refine SW.block ?_) | ((first | refine SW.region ?_ | refine SW.cond ?_ | refine SW.skip ?_ | refine SW.ret ?_); try simp only [go_sem, hD, hli, ie, i0, w1, fi, ee]) | (apply hK; clear hK K)
      refine ret_pure ?_; simp only [resL_tmp, resL_nil, tupOf, go_sem, hD]
    · rw [if_neg he] at hC
      have ee : (a.toList == x.toList) = false := by rw [Bool.eq_false_iff]; exact fun h => he (barr_eq.1 h)
      repeat' first | (refine SW.seq_k fun K hK => ?_) | (refine SW.block ?_) | ((first | refine SW.region ?_ | refine SW.cond ?_ | refine SW.skip ?_); try simp only [go_sem, hD, hli, ie, i0, w1, fi, ee]) | (apply hK; clear hK K)
      refine Rnd.sub (l.length - (i + 1)) (by omega) ((hI _ _).2 ⟨i + 1, rfl, by omega, hC, rfl⟩) (by repeat' (first | exact rfl | exact trivial | constructor))
  · have hli : ¬ ((i : Nat) : Int) < (((l.length) : Nat) : Int) := by omega
    rw [List.drop_of_length_le (by omega)] at hC
    have hC2 : R = -1 := hC
    subst hC2
    repeat' first | (refine SW.seq_k fun K hK => ?_) | ((first | refine SW.region ?_ | refine SW.cond ?_ | refine SW.exit ?_ | refine SW.ret ?_); try simp only [go_sem, hD, hli]) | (apply hK; clear hK K) | (clear hK K; apply hK; clear hK K)
    refine ret_pure ?_; simp only [resL_tmp, resL_nil, tupOf, go_sem, hD]
/-! numbers -/
theorem index_i (x : Int) (l : List Int) (n : Nat) (hl : n ≤ 9223372036854775807) (hn : l.length = n) (f : Nat → List SV) (hf : ∀ i, i < n → f i = [I64 (l.getD i 0)]) : PCall Tryz.prog 166 [.fl n 1 f, I64 x] (I64 (atI x 0 l)) := by
  subst hn
  obtain ⟨R, hR⟩ : ∃ R, R = atI x 0 l := ⟨_, rfl⟩
  rw [← hR]
  refine Call.enter' (N := 19) (rs := [.tmp 4]) Tryz.func166 rfl rfl rfl (by decide) rfl ?_; simp only [argT]; have hD : (0 : Nat) = 0 := rfl
  repeat' first | (refine SW.seq_k fun K hK => ?_) | (refine SW.block ?_) | (refine SW.region ?_; try simp only [go_sem, hD]) | (apply hK; clear hK K)
  obtain ⟨I, hI⟩ : ∃ I : Nat → St → Prop, ∀ k S, I k S ↔ (∃ (i : Nat) , k = l.length - i ∧ i ≤ l.length ∧ R = atI x i (l.drop i) ∧ S = ⟨[(0, .fl l.length 1 f), (1, I64 x), (7, I64 l.length), (8, I64 i)], []⟩) := ⟨fun k S => _, fun _ _ => Iff.rfl⟩
  refine SW.loop' I (l.length) ((hI _ _).2 ⟨0, rfl, Nat.zero_le _, by rw [List.drop_zero]; exact hR, rfl⟩) (by repeat' (first | exact rfl | exact trivial | constructor)) ?_
  intro k S hIn
  obtain ⟨i, rfl, hi, hC, rfl⟩ := (hI _ _).1 hIn
  clear hIn
  have ie : ((i : Nat) : Int).toNat = i := Int.toNat_natCast _
  have i0 : (0 : Int) ≤ ((i : Nat) : Int) := by omega
  clear hR
  by_cases hlt : i < l.length
  · have hli : ((i : Nat) : Int) < (((l.length) : Nat) : Int) := by omega
    have w1 : IntKind.i64.wrap ((i : Int) + 1) = ((i + 1 : Nat) : Int) := by rw [i64_wrap (by omega) (by omega)]; omega
    rw [atI_step hlt] at hC
    have fi := hf i hlt
    generalize l.getD i 0 = t at *
    by_cases he : t = x
    · rw [if_pos he] at hC
      subst hC
      repeat' first | (refine SW.seq_k fun K hK => ?_) | (refine SW.block ?_) | ((first | refine SW.region ?_ | refine SW.cond ?_ | refine SW.skip ?_ | refine SW.ret ?_); try simp only [go_sem, hD, hli, ie, i0, w1, fi, he]) | (apply hK; clear hK K)
      refine ret_pure ?_; simp only [resL_tmp, resL_nil, tupOf, go_sem, hD]
    · rw [if_neg he] at hC
      have he2 : ¬ x = t := fun e => he e.symm
      repeat' first | (refine SW.seq_k fun K hK => ?_) | (refine SW.block ?_) | ((first | refine SW.region ?_ | refine SW.cond ?_ | refine SW.skip ?_); try simp only [go_sem, hD, hli, ie, i0, w1, fi, he, he2]) | (apply hK; clear hK K)
      refine Rnd.sub (l.length - (i + 1)) (by omega) ((hI _ _).2 ⟨i + 1, rfl, by omega, hC, rfl⟩) (by repeat' (first | exact rfl | exact trivial | constructor))
  · have hli : ¬ ((i : Nat) : Int) < (((l.length) : Nat) : Int) := by omega
    rw [List.drop_of_length_le (by omega)] at hC
    have hC2 : R = -1 := hC
    subst hC2
    repeat' first | (refine SW.seq_k fun K hK => ?_) | ((first | refine SW.region ?_ | refine SW.cond ?_ | refine SW.exit ?_ | refine SW.ret ?_); try simp only [go_sem, hD, hli]) | (apply hK; clear hK K) | (clear hK K; apply hK; clear hK K)
    refine ret_pure ?_; simp only [resL_tmp, resL_nil, tupOf, go_sem, hD]
theorem at_r (x : Int) (l : List Int) (n : Nat) (hl : n ≤ 9223372036854775807) (hn : l.length = n) (f : Nat → List SV) (hf : ∀ i, i < n → f i = [I64 (l.getD i 0)]) : PCall Tryz.prog 104 [.fl n 1 f, I64 x] (I64 (atI x 0 l)) := by
  subst hn
  obtain ⟨R, hR⟩ : ∃ R, R = atI x 0 l := ⟨_, rfl⟩
  rw [← hR]
  refine Call.enter' (N := 19) (rs := [.tmp 4]) Tryz.func104 rfl rfl rfl (by decide) rfl ?_; simp only [argT]; have hD : (0 : Nat) = 0 := rfl
  repeat' first | (refine SW.seq_k fun K hK => ?_) | (refine SW.block ?_) | (refine SW.region ?_; try simp only [go_sem, hD]) | (apply hK; clear hK K)
  obtain ⟨I, hI⟩ : ∃ I : Nat → St → Prop, ∀ k S, I k S ↔ (∃ (i : Nat) , k = l.length - i ∧ i ≤ l.length ∧ R = atI x i (l.drop i) ∧ S = ⟨[(0, .fl l.length 1 f), (1, I64 x), (5, I64 i)], []⟩) := ⟨fun k S => _, fun _ _ => Iff.rfl⟩
  refine SW.loop' I (l.length) ((hI _ _).2 ⟨0, rfl, Nat.zero_le _, by rw [List.drop_zero]; exact hR, rfl⟩) (by repeat' (first | exact rfl | exact trivial | constructor)) ?_
  intro k S hIn
  obtain ⟨i, rfl, hi, hC, rfl⟩ := (hI _ _).1 hIn
  clear hIn
  have ie : ((i : Nat) : Int).toNat = i := Int.toNat_natCast _
  have i0 : (0 : Int) ≤ ((i : Nat) : Int) := by omega
  clear hR
  by_cases hlt : i < l.length
  · have hli : ((i : Nat) : Int) < (((l.length) : Nat) : Int) := by omega
    have w1 : IntKind.i64.wrap ((i : Int) + 1) = ((i + 1 : Nat) : Int) := by rw [i64_wrap (by omega) (by omega)]; omega
    rw [atI_step hlt] at hC
    have fi := hf i hlt
    generalize l.getD i 0 = t at *
    by_cases he : t = x
    · rw [if_pos he] at hC
      subst hC
      repeat' first | (refine SW.seq_k fun K hK => ?_) | (refine SW.block ?_) | ((first | refine SW.region ?_ | refine SW.cond ?_ | refine SW.skip ?_ | refine SW.ret ?_); try simp only [go_sem, hD, hli, ie, i0, w1, fi, he]) | (apply hK; clear hK K)
      refine ret_pure ?_; simp only [resL_tmp, resL_nil, tupOf, go_sem, hD]
    · rw [if_neg he] at hC
      repeat' first | (refine SW.seq_k fun K hK => ?_) | (refine SW.block ?_) | ((first | refine SW.region ?_ | refine SW.cond ?_ | refine SW.skip ?_); try simp only [go_sem, hD, hli, ie, i0, w1, fi, he]) | (apply hK; clear hK K)
      refine Rnd.sub (l.length - (i + 1)) (by omega) ((hI _ _).2 ⟨i + 1, rfl, by omega, hC, rfl⟩) (by repeat' (first | exact rfl | exact trivial | constructor))
  · have hli : ¬ ((i : Nat) : Int) < (((l.length) : Nat) : Int) := by omega
    rw [List.drop_of_length_le (by omega)] at hC
    have hC2 : R = -1 := hC
    subst hC2
    repeat' first | (refine SW.seq_k fun K hK => ?_) | ((first | refine SW.region ?_ | refine SW.cond ?_ | refine SW.exit ?_ | refine SW.ret ?_); try simp only [go_sem, hD, hli]) | (apply hK; clear hK K) | (clear hK K; apply hK; clear hK K)
    refine ret_pure ?_; simp only [resL_tmp, resL_nil, tupOf, go_sem, hD]
theorem contains_i (x : Int) (l : List Int) (n : Nat) (hl : n ≤ 9223372036854775807) (hn : l.length = n) (f : Nat → List SV) (hf : ∀ i, i < n → f i = [I64 (l.getD i 0)]) : PCall Tryz.prog 129 [.fl n 1 f, I64 x] (SB (decide (0 ≤ atI x 0 l))) := by
  have ix := index_i x l n hl hn f hf
  generalize atI x 0 l = R at *
  refine Call.enter' (N := 9) (rs := [.tmp 4]) Tryz.func129 rfl rfl rfl (by decide) rfl ?_; simp only [argT]; have hD : (0 : Nat) = 0 := rfl
  repeat' first | (refine SW.seq_k fun K hK => ?_) | ((first | refine SW.region ?_ | refine SW.ret ?_ | refine Call.of_pure (ix) ?_); try simp only [go_sem, hD]) | (apply hK; clear hK K)
  refine ret_pure ?_; simp only [resL_tmp, resL_nil, tupOf, go_sem, hD]
theorem within1_p (a n : Int) : PCall Tryz.prog 200 [I64 a, .fp [I64 n]] (SB (!(decide (0 ≤ a) && decide (a < n)))) := by
  by_cases h1 : a < 0
  · rw [decide_eq_false (show ¬ 0 ≤ a by omega)]
    refine Call.enter' (N := 11) (rs := [.tmp 3]) Tryz.func200 rfl rfl rfl (by decide) rfl ?_; simp only [argT]; have hD : (0 : Nat) = 0 := rfl
    repeat' first | (refine SW.seq_k fun K hK => ?_) | ((first | refine SW.region ?_ | refine SW.ret ?_); try simp only [go_sem, hD, h1]) | (apply hK; clear hK K)
    refine ret_pure ?_; simp only [resL_tmp, resL_nil, tupOf, go_sem, hD]
  · rw [decide_eq_true (show 0 ≤ a by omega)]
    by_cases h2 : a < n
    · have h3 : ¬ n ≤ a := by omega
      rw [decide_eq_true h2]
      refine Call.enter' (N := 11) (rs := [.tmp 3]) Tryz.func200 rfl rfl rfl (by decide) rfl ?_; simp only [argT]; have hD : (0 : Nat) = 0 := rfl
      repeat' first | (refine SW.seq_k fun K hK => ?_) | ((first | refine SW.region ?_ | refine SW.ret ?_); try simp only [go_sem, hD, h1, h3]) | (apply hK; clear hK K)
      refine ret_pure ?_; simp only [resL_tmp, resL_nil, tupOf, go_sem, hD]
    · have h3 : n ≤ a := by omega
      rw [decide_eq_false h2]
      refine Call.enter' (N := 11) (rs := [.tmp 3]) Tryz.func200 rfl rfl rfl (by decide) rfl ?_; simp only [argT]; have hD : (0 : Nat) = 0 := rfl
      repeat' first | (refine SW.seq_k fun K hK => ?_) | ((first | refine SW.region ?_ | refine SW.ret ?_); try simp only [go_sem, hD, h1, h3]) | (apply hK; clear hK K)
      refine ret_pure ?_; simp only [resL_tmp, resL_nil, tupOf, go_sem, hD]
theorem indexF_i (g : FuncId) (caps : List SV) (p : Int → Bool) (hg : ∀ v, PCall Tryz.prog g (I64 v :: caps) (SB (p v))) (l : List Int) (hl : l.length ≤ 9223372036854775807) : PCall Tryz.prog 207 [IL l, .fn (.func g) [] caps] (I64 (posF p 0 l)) := by
  obtain ⟨R, hR⟩ : ∃ R, R = posF p 0 l := ⟨_, rfl⟩
  rw [← hR]
  refine Call.enter' (N := 19) (rs := [.tmp 4]) Tryz.func207 rfl rfl rfl (by decide) rfl ?_; simp only [argT]; have hD : (0 : Nat) = 0 := rfl
  repeat' first | (refine SW.seq_k fun K hK => ?_) | (refine SW.block ?_) | (refine SW.region ?_; try simp only [go_sem, hD]) | (apply hK; clear hK K)
  obtain ⟨I, hI⟩ : ∃ I : Nat → St → Prop, ∀ k S, I k S ↔ (∃ (i : Nat) , k = l.length - i ∧ i ≤ l.length ∧ R = posF p i (l.drop i) ∧ S = ⟨[(0, IL l), (1, .fn (.func g) [] caps), (7, I64 l.length), (8, I64 i)], []⟩) := ⟨fun k S => _, fun _ _ => Iff.rfl⟩
  refine SW.loop' I (l.length) ((hI _ _).2 ⟨0, rfl, Nat.zero_le _, hR, rfl⟩) (by repeat' (first | exact rfl | exact trivial | constructor)) ?_
  intro k S hIn
  obtain ⟨i, rfl, hi, hC, rfl⟩ := (hI _ _).1 hIn
  clear hIn
  have ie : ((i : Nat) : Int).toNat = i := Int.toNat_natCast _
  have i0 : (0 : Int) ≤ ((i : Nat) : Int) := by omega
  clear hR
  by_cases hlt : i < l.length
  · have hli : ((i : Nat) : Int) < (((l.length) : Nat) : Int) := by omega
    have w1 : IntKind.i64.wrap ((i : Int) + 1) = ((i + 1 : Nat) : Int) := by rw [i64_wrap (by omega) (by omega)]; omega
    rw [posFi_step hlt] at hC
    have fi : iF l i = [I64 (l.getD i 0)] := rfl
    have c := hg (l.getD i 0)
    generalize l.getD i 0 = t at *
    cases he : p t with
    | true =>
      rw [he] at c
      rw [he, if_pos rfl] at hC
      subst hC
      repeat' first | (refine SW.seq_k fun K hK => ?_) | (refine SW.block ?_) | ((first | refine SW.region ?_ | refine SW.cond ?_ | refine SW.skip ?_ | refine SW.ret ?_ | refine Call.of_pure (c) ?_); try simp only [go_sem, hD, hli, ie, i0, w1, fi]) | (apply hK; clear hK K)
      refine ret_pure ?_; simp only [resL_tmp, resL_nil, tupOf, go_sem, hD]
    | false =>
      rw [he] at c
      rw [he, if_neg (by simp)] at hC
      repeat' first | (refine SW.seq_k fun K hK => ?_) | (refine SW.block ?_) | ((first | refine SW.region ?_ | refine SW.cond ?_ | refine SW.skip ?_ | refine Call.of_pure (c) ?_); try simp only [go_sem, hD, hli, ie, i0, w1, fi]) | (apply hK; clear hK K)
      refine Rnd.sub (l.length - (i + 1)) (by omega) ((hI _ _).2 ⟨i + 1, rfl, by omega, hC, rfl⟩) (by repeat' (first | exact rfl | exact trivial | constructor))
  · have hli : ¬ ((i : Nat) : Int) < (((l.length) : Nat) : Int) := by omega
    rw [List.drop_of_length_le (by omega)] at hC
    have hC2 : R = -1 := hC
    subst hC2
    repeat' first | (refine SW.seq_k fun K hK => ?_) | ((first | refine SW.region ?_ | refine SW.cond ?_ | refine SW.exit ?_ | refine SW.ret ?_); try simp only [go_sem, hD, hli]) | (apply hK; clear hK K) | (clear hK K; apply hK; clear hK K)
    refine ret_pure ?_; simp only [resL_tmp, resL_nil, tupOf, go_sem, hD]
theorem within_p (l : List Int) (n : Int) (hl : l.length ≤ 9223372036854775807) : PCall Tryz.prog 178 [IL l, I64 n] (SB (winB l n)) := by
  have ix := indexF_i 200 [.fp [I64 n]] (fun a => !(decide (0 ≤ a) && decide (a < n))) (fun v => within1_p v n) l hl
  have hm := posF_any (fun a => !(decide (0 ≤ a) && decide (a < n))) l 0
  have cf : PCall Tryz.prog 199 [IL l, .fn (.func 200) [] [.fp [I64 n]]] (SB (!(winB l n))) := by
    have e : decide (0 ≤ posF (fun a => !(decide (0 ≤ a) && decide (a < n))) 0 l) = !(winB l n) := by
      rw [Bool.eq_iff_iff, decide_eq_true_eq, hm]
      unfold winB
      simp [List.any_eq_true]
      constructor
      · rintro ⟨x, hx, h⟩
        exact ⟨x, hx, by omega⟩
      · rintro ⟨x, hx, h⟩
        exact ⟨x, hx, by omega⟩
    generalize posF (fun a => !(decide (0 ≤ a) && decide (a < n))) 0 l = Q at *
    generalize winB l n = W at *
    refine Call.enter' (N := 9) (rs := [.tmp 4]) Tryz.func199 rfl rfl rfl (by decide) rfl ?_; simp only [argT]; have hD : (0 : Nat) = 0 := rfl
    repeat' first | (refine SW.seq_k fun K hK => ?_) | ((first | refine SW.region ?_ | refine SW.ret ?_ | refine Call.of_pure (ix) ?_); try simp only [go_sem, hD, e]) | (apply hK; clear hK K)
    refine ret_pure ?_; simp only [resL_tmp, resL_nil, tupOf, go_sem, hD]
  generalize winB l n = W at *
  refine Call.enter' (N := 9) (rs := [.tmp 4]) Tryz.func178 rfl rfl rfl (by decide) rfl ?_; simp only [argT]; have hD : (0 : Nat) = 0 := rfl
  repeat' first | ((refine Ab.SW.le (St.le_freezeP (i := 3) (n := 1) rfl (by rw [find_cons, if_pos rfl]) (by exact Nat.le_refl 1)) ?_); (rw [del_head]); (simp only [getN, Blk.get])) | (refine SW.seq_k fun K hK => ?_) | ((first | refine SW.region ?_ | refine SW.ret ?_ | refine Call.of_pure (cf) ?_ | (refine allF_i fun b hb => ?_; replace hD := And.intro hb hD; clear hb; try simp only [fresh_cons, fresh_nil, and_true, ne_eq, neF] at hD)); try simp only [go_sem, hD]) | (apply hK; clear hK K)
  refine ret_pure ?_; simp only [resL_tmp, resL_nil, tupOf, go_sem, hD]
  rw [Bool.not_not]
theorem indices_r (l : List Int) (n : Int) (hl : l.length ≤ 9223372036854775807) : PCall Tryz.prog 101 [IL l, I64 n] (SB (winB l n)) := by
  obtain ⟨X, hX⟩ : ∃ X, X = winB l n := ⟨_, rfl⟩
  rw [← hX]
  have h1 : (∀ j, j < l.length → 0 ≤ l.getD j 0 ∧ l.getD j 0 < n) → X = true := fun h => by
    rw [hX, winB_iff]
    intro a ha
    obtain ⟨j, hj, rfl⟩ := List.getElem_of_mem ha
    have := h j hj
    rwa [show l.getD j 0 = l[j] by simp [List.getD_eq_getElem?_getD, hj]] at this
  have h2 : ∀ j, j < l.length → ¬ (0 ≤ l.getD j 0 ∧ l.getD j 0 < n) → X = false := fun j hj h => by
    rw [hX, Bool.eq_false_iff]
    exact fun hw => h (winB_iff.1 hw _ (getD_mem' 0 hj))
  clear hX
  refine Call.enter' (N := 25) (rs := [.tmp 4]) Tryz.func101 rfl rfl rfl (by decide) rfl ?_; simp only [argT]; have hD : (0 : Nat) = 0 := rfl
  repeat' first | (refine SW.seq_k fun K hK => ?_) | (refine SW.block ?_) | (refine SW.region ?_; try simp only [go_sem, hD]) | (apply hK; clear hK K)
  obtain ⟨I, hI⟩ : ∃ I : Nat → St → Prop, ∀ k S, I k S ↔ (∃ (i : Nat) , k = l.length - i ∧ i ≤ l.length ∧ (∀ j, j < i → 0 ≤ l.getD j 0 ∧ l.getD j 0 < n) ∧ S = ⟨[(0, IL l), (1, I64 n), (5, I64 i)], []⟩) := ⟨fun k S => _, fun _ _ => Iff.rfl⟩
  refine SW.loop' I (l.length) ((hI _ _).2 ⟨0, rfl, Nat.zero_le _, (fun j hj => absurd hj (by omega)), rfl⟩) (by repeat' (first | exact rfl | exact trivial | constructor)) ?_
  intro k S hIn
  obtain ⟨i, rfl, hi, hL, rfl⟩ := (hI _ _).1 hIn
  clear hIn
  have ie : ((i : Nat) : Int).toNat = i := Int.toNat_natCast _
  have i0 : (0 : Int) ≤ ((i : Nat) : Int) := by omega
  by_cases hlt : i < l.length
  · have hli : ((i : Nat) : Int) < (((l.length) : Nat) : Int) := by omega
    have w1 : IntKind.i64.wrap ((i : Int) + 1) = ((i + 1 : Nat) : Int) := by rw [i64_wrap (by omega) (by omega)]; omega
    have fi : iF l i = [I64 (l.getD i 0)] := rfl
    have hn1 : (0 ≤ l.getD i 0 ∧ l.getD i 0 < n) → ∀ j, j < i + 1 → 0 ≤ l.getD j 0 ∧ l.getD j 0 < n := fun h j hj => by
      rcases Nat.lt_or_ge j i with h3 | h3
      · exact hL j h3
      · obtain rfl : j = i := by omega
        exact h
    have h2i := h2 i hlt
    generalize l.getD i 0 = t at *
    by_cases a1 : t < 0
    · have hx := h2i (by omega)
      subst hx
      repeat' first | (refine SW.seq_k fun K hK => ?_) | (refine SW.block ?_) | ((first | refine SW.region ?_ | refine SW.cond ?_ | refine SW.skip ?_ | refine SW.ret ?_); try simp only [go_sem, hD, hli, ie, i0, w1, fi, a1]) | (apply hK; clear hK K)
      refine ret_pure ?_; simp only [resL_tmp, resL_nil, tupOf, go_sem, hD]
    · by_cases a2 : n ≤ t
      · have hx := h2i (by omega)
        subst hx
        repeat' first | (refine SW.seq_k fun K hK => ?_) | (refine SW.block ?_) | ((first | refine SW.region ?_ | refine SW.cond ?_ | refine SW.skip ?_ | refine SW.ret ?_); try simp only [go_sem, hD, hli, ie, i0, w1, fi, a1, a2]) | (apply hK; clear hK K)
        refine ret_pure ?_; simp only [resL_tmp, resL_nil, tupOf, go_sem, hD]
      · have hn2 := hn1 ⟨by omega, by omega⟩
        repeat' first | (refine SW.seq_k fun K hK => ?_) | (refine SW.block ?_) | ((first | refine SW.region ?_ | refine SW.cond ?_ | refine SW.skip ?_); try simp only [go_sem, hD, hli, ie, i0, w1, fi, a1, a2]) | (apply hK; clear hK K)
        refine Rnd.sub (l.length - (i + 1)) (by omega) ((hI _ _).2 ⟨i + 1, rfl, by omega, hn2, rfl⟩) (by repeat' (first | exact rfl | exact trivial | constructor))
  · have hli : ¬ ((i : Nat) : Int) < (((l.length) : Nat) : Int) := by omega
    have hx := h1 fun j hj => hL j (by omega)
    subst hx
    repeat' first | (refine SW.seq_k fun K hK => ?_) | ((first | refine SW.region ?_ | refine SW.cond ?_ | refine SW.exit ?_ | refine SW.ret ?_); try simp only [go_sem, hD, hli]) | (apply hK; clear hK K) | (clear hK K; apply hK; clear hK K)
    refine ret_pure ?_; simp only [resL_tmp, resL_nil, tupOf, go_sem, hD]
theorem repeated_p (l : List Int) (hl : l.length ≤ 9223372036854775807) : PCall Tryz.prog 179 [IL l] (SB (!decide l.Nodup)) := by
  obtain ⟨X, hX⟩ : ∃ X, X = !decide l.Nodup := ⟨_, rfl⟩
  rw [← hX]
  have h1 : (∀ j, j < l.length → atI (l.getD j 0) 0 (l.take j) < 0) → X = false := fun h => by
    rw [hX, decide_eq_true (nodup_take.2 fun i hi => atI_none.1 (h i hi))]
    rfl
  have h2 : ∀ j, j < l.length → ¬ atI (l.getD j 0) 0 (l.take j) < 0 → X = true := fun j hj h => by
    rw [hX, decide_eq_false fun hn => h (atI_none.2 (nodup_take.1 hn j hj))]
    rfl
  clear hX
  refine Call.enter' (N := 18) (rs := [.tmp 2]) Tryz.func179 rfl rfl rfl (by decide) rfl ?_; simp only [argT]; have hD : (0 : Nat) = 0 := rfl
  repeat' first | (refine SW.seq_k fun K hK => ?_) | (refine SW.block ?_) | (refine SW.region ?_; try simp only [go_sem, hD]) | (apply hK; clear hK K)
  obtain ⟨I, hI⟩ : ∃ I : Nat → St → Prop, ∀ k S, I k S ↔ (∃ (i : Nat) , k = l.length - i ∧ i ≤ l.length ∧ (∀ j, j < i → atI (l.getD j 0) 0 (l.take j) < 0) ∧ S = ⟨[(0, IL l), (5, IL l), (6, I64 l.length), (7, I64 i)], []⟩) := ⟨fun k S => _, fun _ _ => Iff.rfl⟩
  refine SW.loop' I (l.length) ((hI _ _).2 ⟨0, rfl, Nat.zero_le _, (fun j hj => absurd hj (by omega)), rfl⟩) (by repeat' (first | exact rfl | exact trivial | constructor)) ?_
  intro k S hIn
  obtain ⟨i, rfl, hi, hL, rfl⟩ := (hI _ _).1 hIn
  clear hIn
  have ie : ((i : Nat) : Int).toNat = i := Int.toNat_natCast _
  have i0 : (0 : Int) ≤ ((i : Nat) : Int) := by omega
  by_cases hlt : i < l.length
  · have hli : ((i : Nat) : Int) < (((l.length) : Nat) : Int) := by omega
    have w1 : IntKind.i64.wrap ((i : Int) + 1) = ((i + 1 : Nat) : Int) := by rw [i64_wrap (by omega) (by omega)]; omega
    have fi : iF l i = [I64 (l.getD i 0)] := rfl
    have hn1 : (atI (l.getD i 0) 0 (l.take i) < 0) → ∀ j, j < i + 1 → atI (l.getD j 0) 0 (l.take j) < 0 := fun h j hj => by
      rcases Nat.lt_or_ge j i with h3 | h3
      · exact hL j h3
      · obtain rfl : j = i := by omega
        exact h
    have h2i := h2 i hlt
    have iz : (((i : Nat) : Int) - 0).toNat = i := by omega
    have il : ((i : Nat) : Int) ≤ ((l.length : Nat) : Int) := by omega
    have c := contains_i (l.getD i 0) (l.take i) i (by omega) (by rw [List.length_take]; omega) (iF l) (fun j hj => iF_take hj)
    generalize l.getD i 0 = t at *
    generalize atI t 0 (l.take i) = q at *
    by_cases a1 : q < 0
    · rw [decide_eq_false (show ¬ 0 ≤ q by omega)] at c
      have hn2 := hn1 a1
      repeat' first | (refine SW.seq_k fun K hK => ?_) | (refine SW.block ?_) | ((first | refine SW.region ?_ | refine SW.cond ?_ | refine SW.skip ?_ | refine Call.of_pure (c) ?_); try simp only [go_sem, hD, hli, ie, i0, w1, fi, iz, il]) | (apply hK; clear hK K)
      refine Rnd.sub (l.length - (i + 1)) (by omega) ((hI _ _).2 ⟨i + 1, rfl, by omega, hn2, rfl⟩) (by repeat' (first | exact rfl | exact trivial | constructor))
    · rw [decide_eq_true (show 0 ≤ q by omega)] at c
      have hx := h2i a1
      subst hx
      repeat' first | (refine SW.seq_k fun K hK => ?_) | (refine SW.block ?_) | ((first | refine SW.region ?_ | refine SW.cond ?_ | refine SW.skip ?_ | refine SW.ret ?_ | refine Call.of_pure (c) ?_); try simp only [go_sem, hD, hli, ie, i0, w1, fi, iz, il]) | (apply hK; clear hK K)
      refine ret_pure ?_; simp only [resL_tmp, resL_nil, tupOf, go_sem, hD]
  · have hli : ¬ ((i : Nat) : Int) < (((l.length) : Nat) : Int) := by omega
    have hx := h1 fun j hj => hL j (by omega)
    subst hx
    repeat' first | (refine SW.seq_k fun K hK => ?_) | ((first | refine SW.region ?_ | refine SW.cond ?_ | refine SW.exit ?_ | refine SW.ret ?_); try simp only [go_sem, hD, hli]) | (apply hK; clear hK K) | (clear hK K; apply hK; clear hK K)
    refine ret_pure ?_; simp only [resL_tmp, resL_nil, tupOf, go_sem, hD]
theorem once_r (l : List Int) (hl : l.length ≤ 9223372036854775807) : PCall Tryz.prog 102 [IL l] (SB (decide l.Nodup)) := by
  obtain ⟨X, hX⟩ : ∃ X, X = decide l.Nodup := ⟨_, rfl⟩
  rw [← hX]
  have h1 : (∀ j, j < l.length → atI (l.getD j 0) 0 l = (j : Int)) → X = true := fun h => by
    rw [hX, decide_eq_true (nodup_at.2 h)]
  have h2 : ∀ j, j < l.length → ¬ atI (l.getD j 0) 0 l = (j : Int) → X = false := fun j hj h => by
    rw [hX, decide_eq_false fun hn => h (nodup_at.1 hn j hj)]
  clear hX
  refine Call.enter' (N := 18) (rs := [.tmp 2]) Tryz.func102 rfl rfl rfl (by decide) rfl ?_; simp only [argT]; have hD : (0 : Nat) = 0 := rfl
  repeat' first | (refine SW.seq_k fun K hK => ?_) | (refine SW.block ?_) | (refine SW.region ?_; try simp only [go_sem, hD]) | (apply hK; clear hK K)
  obtain ⟨I, hI⟩ : ∃ I : Nat → St → Prop, ∀ k S, I k S ↔ (∃ (i : Nat) , k = l.length - i ∧ i ≤ l.length ∧ (∀ j, j < i → atI (l.getD j 0) 0 l = (j : Int)) ∧ S = ⟨[(0, IL l), (3, I64 i)], []⟩) := ⟨fun k S => _, fun _ _ => Iff.rfl⟩
  refine SW.loop' I (l.length) ((hI _ _).2 ⟨0, rfl, Nat.zero_le _, (fun j hj => absurd hj (by omega)), rfl⟩) (by repeat' (first | exact rfl | exact trivial | constructor)) ?_
  intro k S hIn
  obtain ⟨i, rfl, hi, hL, rfl⟩ := (hI _ _).1 hIn
  clear hIn
  have ie : ((i : Nat) : Int).toNat = i := Int.toNat_natCast _
  have i0 : (0 : Int) ≤ ((i : Nat) : Int) := by omega
  by_cases hlt : i < l.length
  · have hli : ((i : Nat) : Int) < (((l.length) : Nat) : Int) := by omega
    have w1 : IntKind.i64.wrap ((i : Int) + 1) = ((i + 1 : Nat) : Int) := by rw [i64_wrap (by omega) (by omega)]; omega
    have fi : iF l i = [I64 (l.getD i 0)] := rfl
    have hn1 : atI (l.getD i 0) 0 l = (i : Int) → ∀ j, j < i + 1 → atI (l.getD j 0) 0 l = (j : Int) := fun h j hj => by
      rcases Nat.lt_or_ge j i with h3 | h3
      · exact hL j h3
      · obtain rfl : j = i := by omega
        exact h
    have h2i := h2 i hlt
    have c := at_r (l.getD i 0) l l.length hl rfl (iF l) (fun j hj => rfl)
    generalize l.getD i 0 = t at *
    generalize atI t 0 l = q at *
    by_cases a1 : q = (i : Int)
    · have hn2 := hn1 a1
      repeat' first | (refine SW.seq_k fun K hK => ?_) | (refine SW.block ?_) | ((first | refine SW.region ?_ | refine SW.cond ?_ | refine SW.skip ?_ | refine Call.of_pure (c) ?_); try simp only [go_sem, hD, hli, ie, i0, w1, fi, a1]) | (apply hK; clear hK K)
      refine Rnd.sub (l.length - (i + 1)) (by omega) ((hI _ _).2 ⟨i + 1, rfl, by omega, hn2, rfl⟩) (by repeat' (first | exact rfl | exact trivial | constructor))
    · have hx := h2i a1
      subst hx
      repeat' first | (refine SW.seq_k fun K hK => ?_) | (refine SW.block ?_) | ((first | refine SW.region ?_ | refine SW.cond ?_ | refine SW.skip ?_ | refine SW.ret ?_ | refine Call.of_pure (c) ?_); try simp only [go_sem, hD, hli, ie, i0, w1, fi, a1]) | (apply hK; clear hK K)
      refine ret_pure ?_; simp only [resL_tmp, resL_nil, tupOf, go_sem, hD]
  · have hli : ¬ ((i : Nat) : Int) < (((l.length) : Nat) : Int) := by omega
    have hx := h1 fun j hj => hL j (by omega)
    subst hx
    repeat' first | (refine SW.seq_k fun K hK => ?_) | ((first | refine SW.region ?_ | refine SW.cond ?_ | refine SW.exit ?_ | refine SW.ret ?_); try simp only [go_sem, hD, hli]) | (apply hK; clear hK K) | (clear hK K; apply hK; clear hK K)
    refine ret_pure ?_; simp only [resL_tmp, resL_nil, tupOf, go_sem, hD]
end Go.Proofs.YtpidncgibgiidaaGreat
namespace Go.Ab.A15
open Go Go.Ab Go.Ab.A34
def chkF (db : List Tb) : Nat → Nat → Int
  | 0, _ => 0
  | g + 1, i => if ¬ validS (db.getD i t0) = 0 then validS (db.getD i t0) else if 0 ≤ tabI (db.getD i t0).name 0 (db.take i) then 5 else chkF db g (i + 1)
def chkS (db : List Tb) : Int := if 50 < db.length then 3 else chkF db db.length 0
def dpF (l : List Dp) (i : Nat) : List SV := dC (l.getD i d0)
abbrev DpL (l : List Dp) : SV := .fl l.length 4 (dpF l)
structure OkD (d : Dp) : Prop where
  l : d.l.length ≤ 9223372036854775807
  r : d.r.length ≤ 9223372036854775807
end Go.Ab.A15
def Go.Ab.zC2_1 : Go.Ab.OZ := (.one 0 [0, 1, 4, 9, 10, 11] (.one 1 [1, 4, 9, 10, 11] (.one 2 [2, 3, 4, 9, 10, 11] (.one 3 [3, 4, 9, 10, 11] (.one 4 [4, 9, 10, 11] (.one 5 [5, 6, 9, 10, 11] (.one 6 [6, 9, 10, 11] (.one 7 [7, 8, 9, 10, 11] (.one 8 [8, 9, 10, 11] (.one 9 [9, 10, 11] (.one 10 [10, 11] (.one 11 [11] .done))))))))))))
def Go.Ab.zC2_2 : Go.Ab.OZ := (.one 0 [0, 1, 2, 6, 7, 8, 9, 10, 11, 12, 13, 14, 15, 16, 17, 18, 19, 20, 21, 22, 23, 24, 25, 26, 27, 28, 29, 30, 31, 32] (.one 1 [1, 2, 6, 7, 8, 9, 10, 11, 12, 13, 14, 15, 16, 17, 18, 19, 20, 21, 22, 23, 24, 25, 26, 27, 28, 29, 30, 31, 32] (.one 2 [2, 6, 7, 8, 9, 10, 11, 12, 13, 14, 15, 16, 17, 18, 19, 20, 21, 22, 23, 24, 25, 26, 27, 28, 29, 30, 31, 32] (.one 3 [3, 4, 5, 6, 7, 8, 9, 10, 11, 12, 13, 14, 15, 16, 17, 18, 19, 20, 21, 22, 23, 24, 25, 26, 27, 28, 29, 30, 31, 32] (.one 4 [4, 5, 6, 7, 8, 9, 10, 11, 12, 13, 14, 15, 16, 17, 18, 19, 20, 21, 22, 23, 24, 25, 26, 27, 28, 29, 30, 31, 32] (.one 5 [5, 6, 7, 8, 9, 10, 11, 12, 13, 14, 15, 16, 17, 18, 19, 20, 21, 22, 23, 24, 25, 26, 27, 28, 29, 30, 31, 32] (.one 6 [6, 7, 8, 9, 10, 11, 12, 13, 14, 15, 16, 17, 18, 19, 20, 21, 22, 23, 24, 25, 26, 27, 28, 29, 30, 31, 32] (.one 7 [7, 8, 9, 10, 11, 12, 13, 14, 15, 16, 17, 18, 19, 20, 21, 22, 23, 24, 25, 26, 27, 28, 29, 30, 31, 32] (.one 8 [8, 9, 17, 18, 19, 20, 21, 22, 23, 24, 25, 26, 27, 28, 29, 30, 31, 32] (.one 9 [9, 17, 18, 19, 20, 21, 22, 23, 24, 25, 26, 27, 28, 29, 30, 31, 32] (.one 10 [10, 11, 13, 14, 15, 16, 17, 18, 19, 20, 21, 22, 23, 24, 25, 26, 27, 28, 29, 30, 31, 32] (.one 11 [11, 13, 14, 15, 16, 17, 18, 19, 20, 21, 22, 23, 24, 25, 26, 27, 28, 29, 30, 31, 32] (.one 12 [12, 13, 14, 15, 16, 17, 18, 19, 20, 21, 22, 23, 24, 25, 26, 27, 28, 29, 30, 31, 32] (.one 13 [13, 14, 15, 16, 17, 18, 19, 20, 21, 22, 23, 24, 25, 26, 27, 28, 29, 30, 31, 32] (.one 14 [14, 15, 16, 17, 18, 19, 20, 21, 22, 23, 24, 25, 26, 27, 28, 29, 30, 31, 32] (.one 15 [15, 16, 17, 18, 19, 20, 21, 22, 23, 24, 25, 26, 27, 28, 29, 30, 31, 32] (.one 16 [16, 17, 18, 19, 20, 21, 22, 23, 24, 25, 26, 27, 28, 29, 30, 31, 32] (.one 17 [17, 18, 19, 20, 21, 22, 23, 24, 25, 26, 27, 28, 29, 30, 31, 32] (.one 18 [18, 19, 20, 21, 22, 23, 24, 25, 26, 27, 28, 29, 30, 31, 32] (.one 19 [19, 20, 21, 22, 23, 24, 25, 26, 27, 28, 29, 30, 31, 32] (.one 20 [20, 21, 22, 23, 24, 25, 26, 27, 28, 29, 30, 31, 32] (.one 21 [21, 22, 30, 31, 32] (.one 22 [22, 30, 31, 32] (.one 23 [23, 24, 26, 27, 28, 29, 30, 31, 32] (.one 24 [24, 26, 27, 28, 29, 30, 31, 32] (.one 25 [25, 26, 27, 28, 29, 30, 31, 32] (.one 26 [26, 27, 28, 29, 30, 31, 32] (.one 27 [27, 28, 29, 30, 31, 32] (.one 28 [28, 29, 30, 31, 32] (.one 29 [29, 30, 31, 32] (.one 30 [30, 31, 32] (.one 31 [31, 32] (.one 32 [32] .done)))))))))))))))))))))))))))))))))
namespace Go.Proofs.YtpidncgibgiidaaGreat
open Go Go.Ab Go.Ab.A34 Go.Ab.A15
variable [Gl] [Tabs]
theorem fits_p (db : List Tb) (d : Dp) (hdb : db.length ≤ 9223372036854775807) (hd : OkD d) : PCall Tryz.prog 136 [DB db, DV d] (I64 (fitsS db d)) := by
  obtain ⟨df, dl, dt, dr⟩ := d
  obtain ⟨h1, h2⟩ := hd
  simp only at h1 h2
  obtain ⟨R, hR⟩ : ∃ R, R = fitsS db ⟨df, dl, dt, dr⟩ := ⟨_, rfl⟩
  rw [← hR]
  unfold fitsS at hR
  simp only at hR ⊢
  have cf := find_p df db db.length hdb rfl (tF db) (fun i hi => rfl)
  have ct := find_p dt db db.length hdb rfl (tF db) (fun i hi => rfl)
  rcases tabI_is (x := df) (l := db) (i := 0) with ⟨e1, _⟩ | ⟨jf, e1, f1, _⟩
  · rw [e1] at hR cf
    rw [if_pos (.inl (by omega))] at hR
    subst hR
    generalize tabI dt 0 db = q at *
    refine Call.enter' (N := 64) (rs := [.tmp 4]) Tryz.func136 rfl rfl rfl (by decide) rfl ?_; simp only [argT]; have hD : (0 : Nat) = 0 := rfl
    repeat' first | (refine SW.seq_k fun K hK => ?_) | ((first | refine SW.region ?_ | refine SW.regionZ (id := 1) (Checked.mixed Tryz.checked) Go.Ab.zC2_1 (by kernel_rfl) ?_ | refine SW.cond ?_ | refine SW.ret ?_ | refine ⟨_, cf, ?_⟩ | refine ⟨_, ct, ?_⟩ | (refine allF_i fun b hb => ?_; replace hD := And.intro hb hD; clear hb; try simp only [fresh_cons, fresh_nil, and_true, ne_eq, neF] at hD)); try simp only [Go.Ab.zC2_1, go_sem, hD, true_implies]) | (refine ifI (fun hc => ?_) (fun hc => ?_) <;> first | (exfalso; omega) | skip) | (apply hK; clear hK K)
    refine ret_pure ?_; simp only [resL_tmp, resL_nil, tupOf, go_sem, hD]
  rw [Nat.zero_add] at e1
  rw [e1] at hR cf
  have n1 : ¬ ((jf : Nat) : Int) < 0 := by omega
  have z1 : ((jf : Nat) : Int).toNat = jf := Int.toNat_natCast _
  have p1 : (0 : Int) ≤ ((jf : Nat) : Int) := by omega
  have l1 : ((jf : Nat) : Int) < ((db.length : Nat) : Int) := by omega
  have tf1 : tF db jf = tC (db.getD jf t0) := rfl
  rw [z1] at hR
  rcases tabI_is (x := dt) (l := db) (i := 0) with ⟨e2, _⟩ | ⟨jt, e2, f2, _⟩
  · rw [e2] at hR ct
    rw [if_pos (.inr (by omega))] at hR
    subst hR
    refine Call.enter' (N := 64) (rs := [.tmp 4]) Tryz.func136 rfl rfl rfl (by decide) rfl ?_; simp only [argT]; have hD : (0 : Nat) = 0 := rfl
    repeat' first | (refine SW.seq_k fun K hK => ?_) | ((first | refine SW.region ?_ | refine SW.regionZ (id := 1) (Checked.mixed Tryz.checked) Go.Ab.zC2_1 (by kernel_rfl) ?_ | refine SW.cond ?_ | refine SW.ret ?_ | refine ⟨_, cf, ?_⟩ | refine ⟨_, ct, ?_⟩ | (refine allF_i fun b hb => ?_; replace hD := And.intro hb hD; clear hb; try simp only [fresh_cons, fresh_nil, and_true, ne_eq, neF] at hD)); try simp only [Go.Ab.zC2_1, go_sem, hD, n1]) | (apply hK; clear hK K)
    refine ret_pure ?_; simp only [resL_tmp, resL_nil, tupOf, go_sem, hD]
  rw [Nat.zero_add] at e2
  rw [e2] at hR ct
  have n2 : ¬ ((jt : Nat) : Int) < 0 := by omega
  have z2 : ((jt : Nat) : Int).toNat = jt := Int.toNat_natCast _
  have p2 : (0 : Int) ≤ ((jt : Nat) : Int) := by omega
  have l2 : ((jt : Nat) : Int) < ((db.length : Nat) : Int) := by omega
  have tf2 : tF db jt = tC (db.getD jt t0) := rfl
  rw [z2, if_neg (by omega)] at hR
  generalize db.getD jf t0 = T1 at *
  generalize db.getD jt t0 = T2 at *
  obtain ⟨a1, b1, c1⟩ := T1
  obtain ⟨a2, b2, c2⟩ := T2
  simp only at hR tf1 tf2
  have wl := within_p dl b1.length h1
  have wr := within_p dr b2.length h2
  have rl := repeated_p dl h1
  have rr := repeated_p dr h2
  by_cases hlen : dl.length = dr.length
  · have hli : ((dl.length : Nat) : Int) = ((dr.length : Nat) : Int) := by omega
    cases w1 : winB dl b1.length with
    | false =>
      rw [w1] at wl hR
      rw [if_pos (.inr (.inl rfl))] at hR
      subst hR
      refine Call.enter' (N := 64) (rs := [.tmp 4]) Tryz.func136 rfl rfl rfl (by decide) rfl ?_; simp only [argT]; have hD : (0 : Nat) = 0 := rfl
      repeat' first | (refine SW.seq_k fun K hK => ?_) | ((first | refine SW.region ?_ | refine SW.regionZ (id := 1) (Checked.mixed Tryz.checked) Go.Ab.zC2_1 (by kernel_rfl) ?_ | refine SW.regionZ (id := 4) (Checked.mixed Tryz.checked) Go.Ab.zC2_2 (by kernel_rfl) ?_ | refine SW.cond ?_ | refine SW.skip ?_ | refine SW.ret ?_ | refine ⟨_, cf, ?_⟩ | refine ⟨_, ct, ?_⟩ | refine ⟨_, wl, ?_⟩ | (refine allF_i fun b hb => ?_; replace hD := And.intro hb hD; clear hb; try simp only [fresh_cons, fresh_nil, and_true, ne_eq, neF] at hD)); try simp only [Go.Ab.zC2_1, Go.Ab.zC2_2, go_sem, hD, n1, n2, z1, p1, l1, z2, p2, l2, tf1, tf2, hli]) | (apply hK; clear hK K)
      refine ret_pure ?_; simp only [resL_tmp, resL_nil, tupOf, go_sem, hD]
    | true =>
      rw [w1] at wl hR
      cases w2 : winB dr b2.length with
      | false =>
        rw [w2] at wr hR
        rw [if_pos (.inr (.inr rfl))] at hR
        subst hR
        refine Call.enter' (N := 64) (rs := [.tmp 4]) Tryz.func136 rfl rfl rfl (by decide) rfl ?_; simp only [argT]; have hD : (0 : Nat) = 0 := rfl
        repeat' first | (refine SW.seq_k fun K hK => ?_) | ((first | refine SW.region ?_ | refine SW.regionZ (id := 1) (Checked.mixed Tryz.checked) Go.Ab.zC2_1 (by kernel_rfl) ?_ | refine SW.regionZ (id := 4) (Checked.mixed Tryz.checked) Go.Ab.zC2_2 (by kernel_rfl) ?_ | refine SW.cond ?_ | refine SW.skip ?_ | refine SW.ret ?_ | refine ⟨_, cf, ?_⟩ | refine ⟨_, ct, ?_⟩ | refine ⟨_, wl, ?_⟩ | refine ⟨_, wr, ?_⟩ | (refine allF_i fun b hb => ?_; replace hD := And.intro hb hD; clear hb; try simp only [fresh_cons, fresh_nil, and_true, ne_eq, neF] at hD)); try simp only [Go.Ab.zC2_1, Go.Ab.zC2_2, go_sem, hD, n1, n2, z1, p1, l1, z2, p2, l2, tf1, tf2, hli]) | (apply hK; clear hK K)
        refine ret_pure ?_; simp only [resL_tmp, resL_nil, tupOf, go_sem, hD]
      | true =>
        rw [w2] at wr hR
        rw [if_neg (by simp [hlen])] at hR
        by_cases q1 : dl.Nodup
        · rw [decide_eq_true q1] at rl
          by_cases q2 : dr.Nodup
          · rw [decide_eq_true q2] at rr
            rw [if_pos ⟨q1, q2⟩] at hR
            subst hR
            refine Call.enter' (N := 64) (rs := [.tmp 4]) Tryz.func136 rfl rfl rfl (by decide) rfl ?_; simp only [argT]; have hD : (0 : Nat) = 0 := rfl
            repeat' first | (refine SW.seq_k fun K hK => ?_) | ((first | refine SW.region ?_ | refine SW.regionZ (id := 1) (Checked.mixed Tryz.checked) Go.Ab.zC2_1 (by kernel_rfl) ?_ | refine SW.regionZ (id := 4) (Checked.mixed Tryz.checked) Go.Ab.zC2_2 (by kernel_rfl) ?_ | refine SW.cond ?_ | refine SW.skip ?_ | refine SW.ret ?_ | refine ⟨_, cf, ?_⟩ | refine ⟨_, ct, ?_⟩ | refine ⟨_, wl, ?_⟩ | refine ⟨_, wr, ?_⟩ | refine Call.of_pure (rl) ?_ | refine Call.of_pure (rr) ?_ | (refine allF_i fun b hb => ?_; replace hD := And.intro hb hD; clear hb; try simp only [fresh_cons, fresh_nil, and_true, ne_eq, neF] at hD)); try simp only [Go.Ab.zC2_1, Go.Ab.zC2_2, go_sem, hD, n1, n2, z1, p1, l1, z2, p2, l2, tf1, tf2, hli]) | (apply hK; clear hK K)
            refine ret_pure ?_; simp only [resL_tmp, resL_nil, tupOf, go_sem, hD]
          · rw [decide_eq_false q2] at rr
            rw [if_neg (fun x => q2 x.2)] at hR
            subst hR
            refine Call.enter' (N := 64) (rs := [.tmp 4]) Tryz.func136 rfl rfl rfl (by decide) rfl ?_; simp only [argT]; have hD : (0 : Nat) = 0 := rfl
            repeat' first | (refine SW.seq_k fun K hK => ?_) | ((first | refine SW.region ?_ | refine SW.regionZ (id := 1) (Checked.mixed Tryz.checked) Go.Ab.zC2_1 (by kernel_rfl) ?_ | refine SW.regionZ (id := 4) (Checked.mixed Tryz.checked) Go.Ab.zC2_2 (by kernel_rfl) ?_ | refine SW.cond ?_ | refine SW.skip ?_ | refine SW.ret ?_ | refine ⟨_, cf, ?_⟩ | refine ⟨_, ct, ?_⟩ | refine ⟨_, wl, ?_⟩ | refine ⟨_, wr, ?_⟩ | refine Call.of_pure (rl) ?_ | refine Call.of_pure (rr) ?_ | (refine allF_i fun b hb => ?_; replace hD := And.intro hb hD; clear hb; try simp only [fresh_cons, fresh_nil, and_true, ne_eq, neF] at hD)); try simp only [Go.Ab.zC2_1, Go.Ab.zC2_2, go_sem, hD, n1, n2, z1, p1, l1, z2, p2, l2, tf1, tf2, hli]) | (apply hK; clear hK K)
            refine ret_pure ?_; simp only [resL_tmp, resL_nil, tupOf, go_sem, hD]
        · rw [decide_eq_false q1] at rl
          rw [if_neg (fun x => q1 x.1)] at hR
          generalize (!decide dr.Nodup) = qq at *
          subst hR
          refine Call.enter' (N := 64) (rs := [.tmp 4]) Tryz.func136 rfl rfl rfl (by decide) rfl ?_; simp only [argT]; have hD : (0 : Nat) = 0 := rfl
          repeat' first | (refine SW.seq_k fun K hK => ?_) | ((first | refine SW.region ?_ | refine SW.regionZ (id := 1) (Checked.mixed Tryz.checked) Go.Ab.zC2_1 (by kernel_rfl) ?_ | refine SW.regionZ (id := 4) (Checked.mixed Tryz.checked) Go.Ab.zC2_2 (by kernel_rfl) ?_ | refine SW.cond ?_ | refine SW.skip ?_ | refine SW.ret ?_ | refine ⟨_, cf, ?_⟩ | refine ⟨_, ct, ?_⟩ | refine ⟨_, wl, ?_⟩ | refine ⟨_, wr, ?_⟩ | refine Call.of_pure (rl) ?_ | (refine allF_i fun b hb => ?_; replace hD := And.intro hb hD; clear hb; try simp only [fresh_cons, fresh_nil, and_true, ne_eq, neF] at hD)); try simp only [Go.Ab.zC2_1, Go.Ab.zC2_2, go_sem, hD, n1, n2, z1, p1, l1, z2, p2, l2, tf1, tf2, hli]) | (apply hK; clear hK K)
          refine ret_pure ?_; simp only [resL_tmp, resL_nil, tupOf, go_sem, hD]
  · have hli : ¬ ((dl.length : Nat) : Int) = ((dr.length : Nat) : Int) := by omega
    rw [if_pos (.inl hlen)] at hR
    generalize winB dl b1.length = w1 at *
    generalize winB dr b2.length = w2 at *
    subst hR
    refine Call.enter' (N := 64) (rs := [.tmp 4]) Tryz.func136 rfl rfl rfl (by decide) rfl ?_; simp only [argT]; have hD : (0 : Nat) = 0 := rfl
    repeat' first | (refine SW.seq_k fun K hK => ?_) | ((first | refine SW.region ?_ | refine SW.regionZ (id := 1) (Checked.mixed Tryz.checked) Go.Ab.zC2_1 (by kernel_rfl) ?_ | refine SW.regionZ (id := 4) (Checked.mixed Tryz.checked) Go.Ab.zC2_2 (by kernel_rfl) ?_ | refine SW.cond ?_ | refine SW.skip ?_ | refine SW.ret ?_ | refine ⟨_, cf, ?_⟩ | refine ⟨_, ct, ?_⟩ | (refine allF_i fun b hb => ?_; replace hD := And.intro hb hD; clear hb; try simp only [fresh_cons, fresh_nil, and_true, ne_eq, neF] at hD)); try simp only [Go.Ab.zC2_1, Go.Ab.zC2_2, go_sem, hD, n1, n2, z1, p1, l1, z2, p2, l2, tf1, tf2, hli]) | (apply hK; clear hK K)
    refine ret_pure ?_; simp only [resL_tmp, resL_nil, tupOf, go_sem, hD]
theorem fits_r (db : List Tb) (d : Dp) (hdb : db.length ≤ 9223372036854775807) (hd : OkD d) : PCall Tryz.prog 65 [DB db, DV d] (I64 (fitsS db d)) := by
  obtain ⟨df, dl, dt, dr⟩ := d
  obtain ⟨h1, h2⟩ := hd
  simp only at h1 h2
  obtain ⟨R, hR⟩ : ∃ R, R = fitsS db ⟨df, dl, dt, dr⟩ := ⟨_, rfl⟩
  rw [← hR]
  unfold fitsS at hR
  simp only at hR ⊢
  have cf := table_r df db db.length hdb rfl (tF db) (fun i hi => rfl)
  have ct := table_r dt db db.length hdb rfl (tF db) (fun i hi => rfl)
  rcases tabI_is (x := df) (l := db) (i := 0) with ⟨e1, _⟩ | ⟨jf, e1, f1, _⟩
  · rw [e1] at hR cf
    rw [if_pos (.inl (by omega))] at hR
    subst hR
    generalize tabI dt 0 db = q at *
    refine Call.enter' (N := 66) (rs := [.tmp 4]) Tryz.func65 rfl rfl rfl (by decide) rfl ?_; simp only [argT]; have hD : (0 : Nat) = 0 := rfl
    repeat' first | (refine SW.seq_k fun K hK => ?_) | ((first | refine SW.region ?_ | refine SW.regionZ (id := 1) (Checked.mixed Tryz.checked) Go.Ab.zC2_1 (by kernel_rfl) ?_ | refine SW.cond ?_ | refine SW.ret ?_ | refine ⟨_, cf, ?_⟩ | refine ⟨_, ct, ?_⟩ | (refine allF_i fun b hb => ?_; replace hD := And.intro hb hD; clear hb; try simp only [fresh_cons, fresh_nil, and_true, ne_eq, neF] at hD)); try simp only [Go.Ab.zC2_1, go_sem, hD, true_implies]) | (refine ifI (fun hc => ?_) (fun hc => ?_) <;> first | (exfalso; omega) | skip) | (apply hK; clear hK K)
    refine ret_pure ?_; simp only [resL_tmp, resL_nil, tupOf, go_sem, hD]
  rw [Nat.zero_add] at e1
  rw [e1] at hR cf
  have n1 : ¬ ((jf : Nat) : Int) < 0 := by omega
  have z1 : ((jf : Nat) : Int).toNat = jf := Int.toNat_natCast _
  have p1 : (0 : Int) ≤ ((jf : Nat) : Int) := by omega
  have l1 : ((jf : Nat) : Int) < ((db.length : Nat) : Int) := by omega
  have tf1 : tF db jf = tC (db.getD jf t0) := rfl
  rw [z1] at hR
  rcases tabI_is (x := dt) (l := db) (i := 0) with ⟨e2, _⟩ | ⟨jt, e2, f2, _⟩
  · rw [e2] at hR ct
    rw [if_pos (.inr (by omega))] at hR
    subst hR
    refine Call.enter' (N := 66) (rs := [.tmp 4]) Tryz.func65 rfl rfl rfl (by decide) rfl ?_; simp only [argT]; have hD : (0 : Nat) = 0 := rfl
    repeat' first | (refine SW.seq_k fun K hK => ?_) | ((first | refine SW.region ?_ | refine SW.regionZ (id := 1) (Checked.mixed Tryz.checked) Go.Ab.zC2_1 (by kernel_rfl) ?_ | refine SW.cond ?_ | refine SW.ret ?_ | refine ⟨_, cf, ?_⟩ | refine ⟨_, ct, ?_⟩ | (refine allF_i fun b hb => ?_; replace hD := And.intro hb hD; clear hb; try simp only [fresh_cons, fresh_nil, and_true, ne_eq, neF] at hD)); try simp only [Go.Ab.zC2_1, go_sem, hD, n1]) | (apply hK; clear hK K)
    refine ret_pure ?_; simp only [resL_tmp, resL_nil, tupOf, go_sem, hD]
  rw [Nat.zero_add] at e2
  rw [e2] at hR ct
  have n2 : ¬ ((jt : Nat) : Int) < 0 := by omega
  have z2 : ((jt : Nat) : Int).toNat = jt := Int.toNat_natCast _
  have p2 : (0 : Int) ≤ ((jt : Nat) : Int) := by omega
  have l2 : ((jt : Nat) : Int) < ((db.length : Nat) : Int) := by omega
  have tf2 : tF db jt = tC (db.getD jt t0) := rfl
  rw [z2, if_neg (by omega)] at hR
  generalize db.getD jf t0 = T1 at *
  generalize db.getD jt t0 = T2 at *
  obtain ⟨a1, b1, c1⟩ := T1
  obtain ⟨a2, b2, c2⟩ := T2
  simp only at hR tf1 tf2
  have wl := indices_r dl b1.length h1
  have wr := indices_r dr b2.length h2
  have rl := once_r dl h1
  have rr := once_r dr h2
  by_cases hlen : dl.length = dr.length
  · have hli : ((dl.length : Nat) : Int) = ((dr.length : Nat) : Int) := by omega
    cases w1 : winB dl b1.length with
    | false =>
      rw [w1] at wl hR
      rw [if_pos (.inr (.inl rfl))] at hR
      subst hR
      refine Call.enter' (N := 66) (rs := [.tmp 4]) Tryz.func65 rfl rfl rfl (by decide) rfl ?_; simp only [argT]; have hD : (0 : Nat) = 0 := rfl
      repeat' first | (refine SW.seq_k fun K hK => ?_) | ((first | refine SW.region ?_ | refine SW.regionZ (id := 1) (Checked.mixed Tryz.checked) Go.Ab.zC2_1 (by kernel_rfl) ?_ | refine SW.regionZ (id := 4) (Checked.mixed Tryz.checked) Go.Ab.zC2_2 (by kernel_rfl) ?_ | refine SW.cond ?_ | refine SW.skip ?_ | refine SW.ret ?_ | refine ⟨_, cf, ?_⟩ | refine ⟨_, ct, ?_⟩ | refine ⟨_, wl, ?_⟩ | (refine allF_i fun b hb => ?_; replace hD := And.intro hb hD; clear hb; try simp only [fresh_cons, fresh_nil, and_true, ne_eq, neF] at hD)); try simp only [Go.Ab.zC2_1, Go.Ab.zC2_2, go_sem, hD, n1, n2, z1, p1, l1, z2, p2, l2, tf1, tf2, hli]) | (apply hK; clear hK K)
      refine ret_pure ?_; simp only [resL_tmp, resL_nil, tupOf, go_sem, hD]
    | true =>
      rw [w1] at wl hR
      cases w2 : winB dr b2.length with
      | false =>
        rw [w2] at wr hR
        rw [if_pos (.inr (.inr rfl))] at hR
        subst hR
        refine Call.enter' (N := 66) (rs := [.tmp 4]) Tryz.func65 rfl rfl rfl (by decide) rfl ?_; simp only [argT]; have hD : (0 : Nat) = 0 := rfl
        repeat' first | (refine SW.seq_k fun K hK => ?_) | ((first | refine SW.region ?_ | refine SW.regionZ (id := 1) (Checked.mixed Tryz.checked) Go.Ab.zC2_1 (by kernel_rfl) ?_ | refine SW.regionZ (id := 4) (Checked.mixed Tryz.checked) Go.Ab.zC2_2 (by kernel_rfl) ?_ | refine SW.cond ?_ | refine SW.skip ?_ | refine SW.ret ?_ | refine ⟨_, cf, ?_⟩ | refine ⟨_, ct, ?_⟩ | refine ⟨_, wl, ?_⟩ | refine ⟨_, wr, ?_⟩ | (refine allF_i fun b hb => ?_; replace hD := And.intro hb hD; clear hb; try simp only [fresh_cons, fresh_nil, and_true, ne_eq, neF] at hD)); try simp only [Go.Ab.zC2_1, Go.Ab.zC2_2, go_sem, hD, n1, n2, z1, p1, l1, z2, p2, l2, tf1, tf2, hli]) | (apply hK; clear hK K)
        refine ret_pure ?_; simp only [resL_tmp, resL_nil, tupOf, go_sem, hD]
      | true =>
        rw [w2] at wr hR
        rw [if_neg (by simp [hlen])] at hR
        by_cases q1 : dl.Nodup
        · rw [decide_eq_true q1] at rl
          by_cases q2 : dr.Nodup
          · rw [decide_eq_true q2] at rr
            rw [if_pos ⟨q1, q2⟩] at hR
            subst hR
            refine Call.enter' (N := 66) (rs := [.tmp 4]) Tryz.func65 rfl rfl rfl (by decide) rfl ?_; simp only [argT]; have hD : (0 : Nat) = 0 := rfl
            repeat' first | (refine SW.seq_k fun K hK => ?_) | ((first | refine SW.region ?_ | refine SW.regionZ (id := 1) (Checked.mixed Tryz.checked) Go.Ab.zC2_1 (by kernel_rfl) ?_ | refine SW.regionZ (id := 4) (Checked.mixed Tryz.checked) Go.Ab.zC2_2 (by kernel_rfl) ?_ | refine SW.cond ?_ | refine SW.skip ?_ | refine SW.ret ?_ | refine ⟨_, cf, ?_⟩ | refine ⟨_, ct, ?_⟩ | refine ⟨_, wl, ?_⟩ | refine ⟨_, wr, ?_⟩ | refine Call.of_pure (rl) ?_ | refine Call.of_pure (rr) ?_ | (refine allF_i fun b hb => ?_; replace hD := And.intro hb hD; clear hb; try simp only [fresh_cons, fresh_nil, and_true, ne_eq, neF] at hD)); try simp only [Go.Ab.zC2_1, Go.Ab.zC2_2, go_sem, hD, n1, n2, z1, p1, l1, z2, p2, l2, tf1, tf2, hli]) | (apply hK; clear hK K)
            refine ret_pure ?_; simp only [resL_tmp, resL_nil, tupOf, go_sem, hD]
          · rw [decide_eq_false q2] at rr
            rw [if_neg (fun x => q2 x.2)] at hR
            subst hR
            refine Call.enter' (N := 66) (rs := [.tmp 4]) Tryz.func65 rfl rfl rfl (by decide) rfl ?_; simp only [argT]; have hD : (0 : Nat) = 0 := rfl
            repeat' first | (refine SW.seq_k fun K hK => ?_) | ((first | refine SW.region ?_ | refine SW.regionZ (id := 1) (Checked.mixed Tryz.checked) Go.Ab.zC2_1 (by kernel_rfl) ?_ | refine SW.regionZ (id := 4) (Checked.mixed Tryz.checked) Go.Ab.zC2_2 (by kernel_rfl) ?_ | refine SW.cond ?_ | refine SW.skip ?_ | refine SW.ret ?_ | refine ⟨_, cf, ?_⟩ | refine ⟨_, ct, ?_⟩ | refine ⟨_, wl, ?_⟩ | refine ⟨_, wr, ?_⟩ | refine Call.of_pure (rl) ?_ | refine Call.of_pure (rr) ?_ | (refine allF_i fun b hb => ?_; replace hD := And.intro hb hD; clear hb; try simp only [fresh_cons, fresh_nil, and_true, ne_eq, neF] at hD)); try simp only [Go.Ab.zC2_1, Go.Ab.zC2_2, go_sem, hD, n1, n2, z1, p1, l1, z2, p2, l2, tf1, tf2, hli]) | (apply hK; clear hK K)
            refine ret_pure ?_; simp only [resL_tmp, resL_nil, tupOf, go_sem, hD]
        · rw [decide_eq_false q1] at rl
          rw [if_neg (fun x => q1 x.1)] at hR
          generalize decide dr.Nodup = qq at *
          subst hR
          refine Call.enter' (N := 66) (rs := [.tmp 4]) Tryz.func65 rfl rfl rfl (by decide) rfl ?_; simp only [argT]; have hD : (0 : Nat) = 0 := rfl
          repeat' first | (refine SW.seq_k fun K hK => ?_) | ((first | refine SW.region ?_ | refine SW.regionZ (id := 1) (Checked.mixed Tryz.checked) Go.Ab.zC2_1 (by kernel_rfl) ?_ | refine SW.regionZ (id := 4) (Checked.mixed Tryz.checked) Go.Ab.zC2_2 (by kernel_rfl) ?_ | refine SW.cond ?_ | refine SW.skip ?_ | refine SW.ret ?_ | refine ⟨_, cf, ?_⟩ | refine ⟨_, ct, ?_⟩ | refine ⟨_, wl, ?_⟩ | refine ⟨_, wr, ?_⟩ | refine Call.of_pure (rl) ?_ | (refine allF_i fun b hb => ?_; replace hD := And.intro hb hD; clear hb; try simp only [fresh_cons, fresh_nil, and_true, ne_eq, neF] at hD)); try simp only [Go.Ab.zC2_1, Go.Ab.zC2_2, go_sem, hD, n1, n2, z1, p1, l1, z2, p2, l2, tf1, tf2, hli]) | (apply hK; clear hK K)
          refine ret_pure ?_; simp only [resL_tmp, resL_nil, tupOf, go_sem, hD]
  · have hli : ¬ ((dl.length : Nat) : Int) = ((dr.length : Nat) : Int) := by omega
    rw [if_pos (.inl hlen)] at hR
    generalize winB dl b1.length = w1 at *
    generalize winB dr b2.length = w2 at *
    subst hR
    refine Call.enter' (N := 66) (rs := [.tmp 4]) Tryz.func65 rfl rfl rfl (by decide) rfl ?_; simp only [argT]; have hD : (0 : Nat) = 0 := rfl
    repeat' first | (refine SW.seq_k fun K hK => ?_) | ((first | refine SW.region ?_ | refine SW.regionZ (id := 1) (Checked.mixed Tryz.checked) Go.Ab.zC2_1 (by kernel_rfl) ?_ | refine SW.regionZ (id := 4) (Checked.mixed Tryz.checked) Go.Ab.zC2_2 (by kernel_rfl) ?_ | refine SW.cond ?_ | refine SW.skip ?_ | refine SW.ret ?_ | refine ⟨_, cf, ?_⟩ | refine ⟨_, ct, ?_⟩ | (refine allF_i fun b hb => ?_; replace hD := And.intro hb hD; clear hb; try simp only [fresh_cons, fresh_nil, and_true, ne_eq, neF] at hD)); try simp only [Go.Ab.zC2_1, Go.Ab.zC2_2, go_sem, hD, n1, n2, z1, p1, l1, z2, p2, l2, tf1, tf2, hli]) | (apply hK; clear hK K)
    refine ret_pure ?_; simp only [resL_tmp, resL_nil, tupOf, go_sem, hD]
end Go.Proofs.YtpidncgibgiidaaGreat
namespace Go.Ab.A15
open Go Go.Ab Go.Ab.A34
def OkDb (db : List Tb) : Prop := ∀ t ∈ db, ∀ r ∈ t.rows, r.2.length ≤ 9223372036854775807
end Go.Ab.A15
def Go.Ab.zC3_1 : Go.Ab.OZ := (.one 0 [0, 1, 3, 6, 7] (.one 1 [1, 3, 6, 7] (.one 2 [2, 3, 6, 7] (.one 3 [3, 6, 7] (.one 4 [4, 5, 6, 7] (.one 5 [5, 6, 7] (.one 6 [6, 7] (.one 7 [7] .done))))))))
def Go.Ab.zC3_2 : Go.Ab.OZ := (.one 0 [0, 1, 3, 10, 11] (.one 1 [1, 3, 10, 11] (.one 2 [2, 3, 10, 11] (.one 3 [3, 10, 11] (.one 4 [4, 5, 7, 8, 9, 10, 11] (.one 5 [5, 7, 8, 9, 10, 11] (.one 6 [6, 7, 8, 9, 10, 11] (.one 7 [7, 8, 9, 10, 11] (.one 8 [8, 9, 10, 11] (.one 9 [9, 10, 11] (.one 10 [10, 11] (.one 11 [11] .done))))))))))))
namespace Go.Proofs.YtpidncgibgiidaaGreat
open Go Go.Ab Go.Ab.A34 Go.Ab.A15
variable [Gl] [Tabs]
theorem check_p (db : List Tb) (hdb : db.length ≤ 9223372036854775807) : PCall Tryz.prog 135 [DB db] (I64 (chkS db)) := by
  obtain ⟨R, hR⟩ : ∃ R, R = chkS db := ⟨_, rfl⟩
  rw [← hR]
  unfold chkS at hR
  by_cases h50 : 50 < db.length
  · rw [if_pos h50] at hR
    subst hR
    have h50i : (50 : Int) < ((db.length : Nat) : Int) := by omega
    refine Call.enter' (N := 32) (rs := [.tmp 2]) Tryz.func135 rfl rfl rfl (by decide) rfl ?_; simp only [argT]; have hD : (0 : Nat) = 0 := rfl
    repeat' first | (refine SW.seq_k fun K hK => ?_) | ((first | refine SW.region ?_ | refine SW.cond ?_ | refine SW.ret ?_ | (refine allF_i fun b hb => ?_; replace hD := And.intro hb hD; clear hb; try simp only [fresh_cons, fresh_nil, and_true, ne_eq, neF] at hD)); try simp only [go_sem, hD, h50i]) | (apply hK; clear hK K)
    refine ret_pure ?_; simp only [resL_tmp, resL_nil, tupOf, go_sem, hD]
  · rw [if_neg h50] at hR
    have h50i : ¬ (50 : Int) < ((db.length : Nat) : Int) := by omega
    refine Call.enter' (N := 32) (rs := [.tmp 2]) Tryz.func135 rfl rfl rfl (by decide) rfl ?_; simp only [argT]; have hD : (0 : Nat) = 0 := rfl
    repeat' first | (refine SW.seq_k fun K hK => ?_) | (refine SW.block ?_) | ((first | refine SW.region ?_ | refine SW.cond ?_ | refine SW.skip ?_ | (refine allF_i fun b hb => ?_; replace hD := And.intro hb hD; clear hb; try simp only [fresh_cons, fresh_nil, and_true, ne_eq, neF] at hD)); try simp only [go_sem, hD, h50i]) | (apply hK; clear hK K)
    obtain ⟨xb, rfl⟩ : ∃ x, x = b := ⟨_, rfl⟩
    obtain ⟨I, hI⟩ : ∃ I : Nat → St → Prop, ∀ k S, I k S ↔ (∃ (i : Nat) , k = db.length - i ∧ i ≤ db.length ∧ R = chkF db (db.length - i) i ∧ S = ⟨[(1, .op xb 0), (11, TL db), (12, I64 db.length), (13, I64 i)], [(xb, .svs [TL db])]⟩) := ⟨fun k S => _, fun _ _ => Iff.rfl⟩
    refine SW.loop' I (db.length) ((hI _ _).2 ⟨0, rfl, Nat.zero_le _, hR, rfl⟩) (by repeat' (first | exact rfl | exact trivial | constructor)) ?_
    intro k S hIn
    obtain ⟨i, rfl, hi, hC, rfl⟩ := (hI _ _).1 hIn
    clear hIn
    have ie : ((i : Nat) : Int).toNat = i := Int.toNat_natCast _
    have i0 : (0 : Int) ≤ ((i : Nat) : Int) := by omega
    clear hR
    by_cases hlt : i < db.length
    · have hli : ((i : Nat) : Int) < (((db.length) : Nat) : Int) := by omega
      have w1 : IntKind.i64.wrap ((i : Int) + 1) = ((i + 1 : Nat) : Int) := by rw [i64_wrap (by omega) (by omega)]; omega
      rw [show db.length - i = (db.length - (i + 1)) + 1 by omega, chkF] at hC
      have fi : tF db i = tC (db.getD i t0) := rfl
      have iz : (((i : Nat) : Int) - 0).toNat = i := by omega
      have il : ((i : Nat) : Int) ≤ ((db.length : Nat) : Int) := by omega
      have c1 := valid_tp (db.getD i t0)
      have c2 := find_p (db.getD i t0).name (db.take i) i (by omega) (by rw [List.length_take]; omega) (tF db) (fun j hj => tF_take hj)
      generalize db.getD i t0 = t at *
      generalize tabI t.name 0 (db.take i) = q at *
      generalize validS t = v at *
      obtain ⟨tn, ta, tr⟩ := t
      simp only at c2
      by_cases hv : v = 0
      · rw [if_neg (fun x => x hv)] at hC
        by_cases hq : 0 ≤ q
        · rw [if_pos hq] at hC
          subst hC
          repeat' first | (refine SW.seq_k fun K hK => ?_) | (refine SW.block ?_) | ((first | refine SW.region ?_ | refine SW.regionZ (id := 9) (Checked.mixed Tryz.checked) Go.Ab.zC3_1 (by kernel_rfl) ?_ | refine SW.cond ?_ | refine SW.skip ?_ | refine SW.ret ?_ | refine Call.of_pure (c1) ?_ | refine ⟨_, c2, ?_⟩ | (refine allF_i fun b hb => ?_; replace hD := And.intro hb hD; clear hb; try simp only [fresh_cons, fresh_nil, and_true, ne_eq, neF] at hD)); try simp only [Go.Ab.zC3_1, go_sem, hD, hli, ie, i0, w1, fi, iz, il, hv, hq, true_implies]) | (apply hK; clear hK K)
          refine ret_pure ?_; simp only [resL_tmp, resL_nil, tupOf, go_sem, hD]
        · rw [if_neg hq] at hC
          repeat' first | (refine SW.seq_k fun K hK => ?_) | (refine SW.block ?_) | ((first | refine SW.region ?_ | refine SW.regionZ (id := 9) (Checked.mixed Tryz.checked) Go.Ab.zC3_1 (by kernel_rfl) ?_ | refine SW.cond ?_ | refine SW.skip ?_ | refine Call.of_pure (c1) ?_ | refine ⟨_, c2, ?_⟩ | (refine allF_i fun b hb => ?_; replace hD := And.intro hb hD; clear hb; try simp only [fresh_cons, fresh_nil, and_true, ne_eq, neF] at hD)); try simp only [Go.Ab.zC3_1, go_sem, hD, hli, ie, i0, w1, fi, iz, il, hv, hq, true_implies]) | (apply hK; clear hK K)
          refine Rnd.le (St.le_only ?_) (Rnd.sub (db.length - (i + 1)) (by omega) ((hI _ _).2 ⟨i + 1, rfl, by omega, hC, rfl⟩) (by repeat' (first | exact rfl | exact trivial | constructor)))
          repeat (first | exact List.mem_cons_self | apply List.mem_cons_of_mem)
      · rw [if_pos hv] at hC
        subst hC
        repeat' first | (refine SW.seq_k fun K hK => ?_) | (refine SW.block ?_) | ((first | refine SW.region ?_ | refine SW.cond ?_ | refine SW.skip ?_ | refine SW.ret ?_ | refine Call.of_pure (c1) ?_ | (refine allF_i fun b hb => ?_; replace hD := And.intro hb hD; clear hb; try simp only [fresh_cons, fresh_nil, and_true, ne_eq, neF] at hD)); try simp only [go_sem, hD, hli, ie, i0, w1, fi, iz, il, hv, true_implies]) | (apply hK; clear hK K)
        refine ret_pure ?_; simp only [resL_tmp, resL_nil, tupOf, go_sem, hD]
    · have hli : ¬ ((i : Nat) : Int) < (((db.length) : Nat) : Int) := by omega
      rw [show db.length - i = 0 by omega] at hC
      have hC2 : R = 0 := hC
      subst hC2
      repeat' first | (refine SW.seq_k fun K hK => ?_) | ((first | refine SW.region ?_ | refine SW.cond ?_ | refine SW.exit ?_ | refine SW.ret ?_); try simp only [go_sem, hD, hli]) | (apply hK; clear hK K) | (clear hK K; apply hK; clear hK K)
      refine ret_pure ?_; simp only [resL_tmp, resL_nil, tupOf, go_sem, hD]
theorem check_r (db : List Tb) (hdb : db.length ≤ 9223372036854775807) (hok : OkDb db) : PCall Tryz.prog 64 [DB db] (I64 (chkS db)) := by
  obtain ⟨R, hR⟩ : ∃ R, R = chkS db := ⟨_, rfl⟩
  rw [← hR]
  unfold chkS at hR
  by_cases h50 : 50 < db.length
  · rw [if_pos h50] at hR
    subst hR
    have h50i : (50 : Int) < ((db.length : Nat) : Int) := by omega
    refine Call.enter' (N := 37) (rs := [.tmp 2]) Tryz.func64 rfl rfl rfl (by decide) rfl ?_; simp only [argT]; have hD : (0 : Nat) = 0 := rfl
    repeat' first | (refine SW.seq_k fun K hK => ?_) | ((first | refine SW.region ?_ | refine SW.cond ?_ | refine SW.ret ?_ | (refine allF_i fun b hb => ?_; replace hD := And.intro hb hD; clear hb; try simp only [fresh_cons, fresh_nil, and_true, ne_eq, neF] at hD)); try simp only [go_sem, hD, h50i]) | (apply hK; clear hK K)
    refine ret_pure ?_; simp only [resL_tmp, resL_nil, tupOf, go_sem, hD]
  · rw [if_neg h50] at hR
    have h50i : ¬ (50 : Int) < ((db.length : Nat) : Int) := by omega
    refine Call.enter' (N := 37) (rs := [.tmp 2]) Tryz.func64 rfl rfl rfl (by decide) rfl ?_; simp only [argT]; have hD : (0 : Nat) = 0 := rfl
    repeat' first | (refine SW.seq_k fun K hK => ?_) | (refine SW.block ?_) | ((first | refine SW.region ?_ | refine SW.cond ?_ | refine SW.skip ?_ | (refine allF_i fun b hb => ?_; replace hD := And.intro hb hD; clear hb; try simp only [fresh_cons, fresh_nil, and_true, ne_eq, neF] at hD)); try simp only [go_sem, hD, h50i]) | (apply hK; clear hK K)
    obtain ⟨xb, rfl⟩ : ∃ x, x = b := ⟨_, rfl⟩
    obtain ⟨I, hI⟩ : ∃ I : Nat → St → Prop, ∀ k S, I k S ↔ (∃ (i : Nat) , k = db.length - i ∧ i ≤ db.length ∧ R = chkF db (db.length - i) i ∧ S = ⟨[(1, .op xb 0), (3, I64 i)], [(xb, .svs [TL db])]⟩) := ⟨fun k S => _, fun _ _ => Iff.rfl⟩
    refine SW.loop' I (db.length) ((hI _ _).2 ⟨0, rfl, Nat.zero_le _, hR, rfl⟩) (by repeat' (first | exact rfl | exact trivial | constructor)) ?_
    intro k S hIn
    obtain ⟨i, rfl, hi, hC, rfl⟩ := (hI _ _).1 hIn
    clear hIn
    have ie : ((i : Nat) : Int).toNat = i := Int.toNat_natCast _
    have i0 : (0 : Int) ≤ ((i : Nat) : Int) := by omega
    clear hR
    by_cases hlt : i < db.length
    · have hli : ((i : Nat) : Int) < (((db.length) : Nat) : Int) := by omega
      have w1 : IntKind.i64.wrap ((i : Int) + 1) = ((i + 1 : Nat) : Int) := by rw [i64_wrap (by omega) (by omega)]; omega
      rw [show db.length - i = (db.length - (i + 1)) + 1 by omega, chkF] at hC
      have fi : tF db i = tC (db.getD i t0) := rfl
      have iz : (((i : Nat) : Int) - 0).toNat = i := by omega
      have il : ((i : Nat) : Int) ≤ ((db.length : Nat) : Int) := by omega
      have c1 := valid_tr (db.getD i t0) (hok _ (getD_mem' t0 hlt))
      have c2 := table_r (db.getD i t0).name (db.take i) i (by omega) (by rw [List.length_take]; omega) (tF db) (fun j hj => tF_take hj)
      generalize db.getD i t0 = t at *
      generalize tabI t.name 0 (db.take i) = q at *
      generalize validS t = v at *
      obtain ⟨tn, ta, tr⟩ := t
      simp only at c2
      by_cases hv : v = 0
      · rw [if_neg (fun x => x hv)] at hC
        by_cases hq : 0 ≤ q
        · rw [if_pos hq] at hC
          subst hC
          repeat' first | (refine SW.seq_k fun K hK => ?_) | (refine SW.block ?_) | ((first | refine SW.region ?_ | refine SW.regionZ (id := 9) (Checked.mixed Tryz.checked) Go.Ab.zC3_2 (by kernel_rfl) ?_ | refine SW.cond ?_ | refine SW.skip ?_ | refine SW.ret ?_ | refine Call.of_pure (c1) ?_ | refine ⟨_, c2, ?_⟩); try simp only [Go.Ab.zC3_2, go_sem, hD, hli, ie, i0, w1, fi, iz, il, hv, hq, true_implies]) | (apply hK; clear hK K)
          refine ret_pure ?_; simp only [resL_tmp, resL_nil, tupOf, go_sem, hD]
        · rw [if_neg hq] at hC
          repeat' first | (refine SW.seq_k fun K hK => ?_) | (refine SW.block ?_) | ((first | refine SW.region ?_ | refine SW.regionZ (id := 9) (Checked.mixed Tryz.checked) Go.Ab.zC3_2 (by kernel_rfl) ?_ | refine SW.cond ?_ | refine SW.skip ?_ | refine Call.of_pure (c1) ?_ | refine ⟨_, c2, ?_⟩); try simp only [Go.Ab.zC3_2, go_sem, hD, hli, ie, i0, w1, fi, iz, il, hv, hq, true_implies]) | (apply hK; clear hK K)
          refine Rnd.sub (db.length - (i + 1)) (by omega) ((hI _ _).2 ⟨i + 1, rfl, by omega, hC, rfl⟩) (by repeat' (first | exact rfl | exact trivial | constructor))
      · rw [if_pos hv] at hC
        subst hC
        repeat' first | (refine SW.seq_k fun K hK => ?_) | (refine SW.block ?_) | ((first | refine SW.region ?_ | refine SW.cond ?_ | refine SW.skip ?_ | refine SW.ret ?_ | refine Call.of_pure (c1) ?_); try simp only [go_sem, hD, hli, ie, i0, w1, fi, iz, il, hv, true_implies]) | (apply hK; clear hK K)
        refine ret_pure ?_; simp only [resL_tmp, resL_nil, tupOf, go_sem, hD]
    · have hli : ¬ ((i : Nat) : Int) < (((db.length) : Nat) : Int) := by omega
      rw [show db.length - i = 0 by omega] at hC
      have hC2 : R = 0 := hC
      subst hC2
      repeat' first | (refine SW.seq_k fun K hK => ?_) | ((first | refine SW.region ?_ | refine SW.cond ?_ | refine SW.exit ?_ | refine SW.ret ?_); try simp only [go_sem, hD, hli]) | (apply hK; clear hK K) | (clear hK K; apply hK; clear hK K)
      refine ret_pure ?_; simp only [resL_tmp, resL_nil, tupOf, go_sem, hD]
theorem valid_ip (db : List Tb) (d : Dp) (hdb : db.length ≤ 9223372036854775807) (hd : OkD d) : PCall Tryz.prog 105 [DB db, DV d] (I64 (if ¬ chkS db = 0 then chkS db else fitsS db d)) := by
  have c1 := check_p db hdb
  have c2 := fits_p db d hdb hd
  generalize chkS db = v at *
  generalize fitsS db d = u at *
  by_cases hv : v = 0
  · rw [if_neg (fun x => x hv)]
    refine Call.enter' (N := 14) (rs := [.tmp 4]) Tryz.func105 rfl rfl rfl (by decide) rfl ?_; simp only [argT]; have hD : (0 : Nat) = 0 := rfl
    repeat' first | (refine SW.seq_k fun K hK => ?_) | ((first | refine SW.region ?_ | refine SW.cond ?_ | refine SW.skip ?_ | refine SW.ret ?_ | refine Call.of_pure (c1) ?_ | refine Call.of_pure (c2) ?_ | (refine allF_i fun b hb => ?_; replace hD := And.intro hb hD; clear hb; try simp only [fresh_cons, fresh_nil, and_true, ne_eq, neF] at hD)); try simp only [go_sem, hD, hv]) | (apply hK; clear hK K)
    refine ret_pure ?_; simp only [resL_tmp, resL_nil, tupOf, go_sem, hD]
  · rw [if_pos hv]
    refine Call.enter' (N := 14) (rs := [.tmp 4]) Tryz.func105 rfl rfl rfl (by decide) rfl ?_; simp only [argT]; have hD : (0 : Nat) = 0 := rfl
    repeat' first | (refine SW.seq_k fun K hK => ?_) | ((first | refine SW.region ?_ | refine SW.cond ?_ | refine SW.ret ?_ | refine Call.of_pure (c1) ?_ | (refine allF_i fun b hb => ?_; replace hD := And.intro hb hD; clear hb; try simp only [fresh_cons, fresh_nil, and_true, ne_eq, neF] at hD)); try simp only [go_sem, hD, hv]) | (apply hK; clear hK K)
    refine ret_pure ?_; simp only [resL_tmp, resL_nil, tupOf, go_sem, hD]
theorem valid_ir (db : List Tb) (d : Dp) (hdb : db.length ≤ 9223372036854775807) (hok : OkDb db) (hd : OkD d) : PCall Tryz.prog 28 [DB db, DV d] (I64 (if ¬ chkS db = 0 then chkS db else fitsS db d)) := by
  have c1 := check_r db hdb hok
  have c2 := fits_r db d hdb hd
  generalize chkS db = v at *
  generalize fitsS db d = u at *
  by_cases hv : v = 0
  · rw [if_neg (fun x => x hv)]
    refine Call.enter' (N := 14) (rs := [.tmp 4]) Tryz.func28 rfl rfl rfl (by decide) rfl ?_; simp only [argT]; have hD : (0 : Nat) = 0 := rfl
    repeat' first | (refine SW.seq_k fun K hK => ?_) | ((first | refine SW.region ?_ | refine SW.cond ?_ | refine SW.skip ?_ | refine SW.ret ?_ | refine Call.of_pure (c1) ?_ | refine Call.of_pure (c2) ?_ | (refine allF_i fun b hb => ?_; replace hD := And.intro hb hD; clear hb; try simp only [fresh_cons, fresh_nil, and_true, ne_eq, neF] at hD)); try simp only [go_sem, hD, hv]) | (apply hK; clear hK K)
    refine ret_pure ?_; simp only [resL_tmp, resL_nil, tupOf, go_sem, hD]
  · rw [if_pos hv]
    refine Call.enter' (N := 14) (rs := [.tmp 4]) Tryz.func28 rfl rfl rfl (by decide) rfl ?_; simp only [argT]; have hD : (0 : Nat) = 0 := rfl
    repeat' first | (refine SW.seq_k fun K hK => ?_) | ((first | refine SW.region ?_ | refine SW.cond ?_ | refine SW.ret ?_ | refine Call.of_pure (c1) ?_ | (refine allF_i fun b hb => ?_; replace hD := And.intro hb hD; clear hb; try simp only [fresh_cons, fresh_nil, and_true, ne_eq, neF] at hD)); try simp only [go_sem, hD, hv]) | (apply hK; clear hK K)
    refine ret_pure ?_; simp only [resL_tmp, resL_nil, tupOf, go_sem, hD]
end Go.Proofs.YtpidncgibgiidaaGreat
namespace Go.Ab.A15
open Go Go.Ab Go.Ab.A34
abbrev SN : SV := .sc (.slice none 0 0)
end Go.Ab.A15
namespace Go.Proofs.YtpidncgibgiidaaGreat
open Go Go.Ab Go.Ab.A34 Go.Ab.A15
variable [Gl] [Tabs]
end Go.Proofs.YtpidncgibgiidaaGreat
namespace Go.Ab.A15
end Go.Ab.A15
namespace Go.Ab.A15
open Go Go.Ab Go.Ab.A34
theorem same_s (a b : ByteArray) : sameC .s (.string a) (.string b) = some (decide (a = b)) := by
  show some (a.data == b.data) = some (decide (a = b))
  congr 1
  rw [Bool.eq_iff_iff, beq_iff_eq, decide_eq_true_iff]
  exact ⟨fun h => ba_ext (by rw [h]), fun h => by rw [h]⟩
end Go.Ab.A15
namespace Go.Proofs.YtpidncgibgiidaaGreat
open Go Go.Ab Go.Ab.A34 Go.Ab.A15
variable [Gl] [Tabs]
end Go.Proofs.YtpidncgibgiidaaGreat
namespace Go.Ab
open Go
end Go.Ab
namespace Go.Ab.A15
open Go Go.Ab Go.Ab.A34
theorem list_eq {a c : List Int} (hl : a.length = c.length) (h : ∀ j, j < a.length → a.getD j 0 = c.getD j 0) : a = c := by
  refine List.ext_getElem hl fun i h1 h2 => ?_
  have := h i h1
  simpa [List.getD_eq_getElem?_getD, h1, h2] using this
theorem fC_lt {α : Type} {enc : α → List SV} {k : Nat} (hk : ∀ x, (enc x).length = k) {l : List α} {i j : Nat} (hi : i < l.length) (hj : j < k) : i * k + j < (fC enc l).length := by
  rw [← fC_len hk]
  have : (i + 1) * k ≤ l.length * k := Nat.mul_le_mul_right k hi
  rw [Nat.add_mul, Nat.one_mul] at this
  omega
end Go.Ab.A15
def Go.Ab.zC6_1 : Go.Ab.OZ := (.one 0 [0, 2, 3, 8] (.one 1 [1, 2, 3, 8] (.one 2 [2, 3, 8] (.one 3 [3, 8] (.one 4 [4, 6, 7, 8] (.one 5 [5, 6, 7, 8] (.one 6 [6, 7, 8] (.one 7 [7, 8] (.one 8 [8] .done)))))))))
namespace Go.Proofs.YtpidncgibgiidaaGreat
open Go Go.Ab Go.Ab.A34 Go.Ab.A15
variable [Gl] [Tabs]
theorem equal_i (a c : List Int) (ha : a.length ≤ 1000000000) (hc : c.length ≤ 1000000000) (n : Nat) (hn : c.length = n) (f : Nat → List SV) (hf : ∀ i, i < n → f i = [I64 (c.getD i 0)]) : PCall Tryz.prog 97 [IL a, .fl n 1 f] (SB (decide (a = c))) := by
  subst hn
  obtain ⟨X, hX⟩ : ∃ X, X = decide (a = c) := ⟨_, rfl⟩
  rw [← hX]
  have h0 : ¬ a.length = c.length → X = false := fun h => by rw [hX, decide_eq_false fun e => h (by rw [e])]
  have h1 : a.length = c.length → (∀ j, j < a.length → a.getD j 0 = c.getD j 0) → X = true := fun hl h => by rw [hX, decide_eq_true (list_eq hl h)]
  have h2 : ∀ j, ¬ a.getD j 0 = c.getD j 0 → X = false := fun j h => by rw [hX, decide_eq_false fun e => h (by rw [e])]
  clear hX
  by_cases hl : a.length = c.length
  · have hlq : ((a.length : Nat) : Int) = ((c.length : Nat) : Int) := by omega
    refine Call.enter' (N := 26) (rs := [.tmp 4]) Tryz.func97 rfl rfl rfl (by decide) rfl ?_; simp only [argT]; have hD : (0 : Nat) = 0 := rfl
    repeat' first | (refine SW.seq_k fun K hK => ?_) | (refine SW.block ?_) | ((first | refine SW.region ?_ | refine SW.cond ?_ | refine SW.skip ?_); try simp only [go_sem, hD, hlq]) | (apply hK; clear hK K)
    obtain ⟨I, hI⟩ : ∃ I : Nat → St → Prop, ∀ k S, I k S ↔ (∃ (i : Nat) , k = a.length - i ∧ i ≤ a.length ∧ (∀ j, j < i → a.getD j 0 = c.getD j 0) ∧ S = ⟨[(0, IL a), (1, .fl c.length 1 f), (11, IL a), (12, I64 a.length), (13, I64 i)], []⟩) := ⟨fun k S => _, fun _ _ => Iff.rfl⟩
    refine SW.loop' I (a.length) ((hI _ _).2 ⟨0, rfl, Nat.zero_le _, (fun j hj => absurd hj (by omega)), rfl⟩) (by repeat' (first | exact rfl | exact trivial | exact int_eq (by omega) | constructor)) ?_
    intro k S hIn
    obtain ⟨i, rfl, hi, hL, rfl⟩ := (hI _ _).1 hIn
    clear hIn
    have ie : ((i : Nat) : Int).toNat = i := Int.toNat_natCast _
    have i0 : (0 : Int) ≤ ((i : Nat) : Int) := by omega
    by_cases hlt : i < a.length
    · have hli : ((i : Nat) : Int) < (((a.length) : Nat) : Int) := by omega
      have w1 : IntKind.i64.wrap ((i : Int) + 1) = ((i + 1 : Nat) : Int) := by rw [i64_wrap (by omega) (by omega)]; omega
      have hlc : ((i : Nat) : Int) < ((c.length : Nat) : Int) := by omega
      have fi : iF a i = [I64 (a.getD i 0)] := rfl
      have gi := hf i (by omega)
      have h2i := h2 i
      have hn1 : a.getD i 0 = c.getD i 0 → ∀ j, j < i + 1 → a.getD j 0 = c.getD j 0 := fun h j hj => by
        rcases Nat.lt_or_ge j i with h3 | h3
        · exact hL j h3
        · obtain rfl : j = i := by omega
          exact h
      generalize a.getD i 0 = u at *
      generalize c.getD i 0 = v at *
      by_cases huv : u = v
      · have hn2 := hn1 huv
        repeat' first | (refine SW.seq_k fun K hK => ?_) | (refine SW.block ?_) | ((first | refine SW.region ?_ | refine SW.regionZ (id := 6) (Checked.mixed Tryz.checked) Go.Ab.zC6_1 (by kernel_rfl) ?_ | refine SW.cond ?_ | refine SW.skip ?_); try simp only [Go.Ab.zC6_1, go_sem, hD, hli, hlc, ie, i0, w1, fi, gi, huv]) | (apply hK; clear hK K)
        refine Rnd.sub (a.length - (i + 1)) (by omega) ((hI _ _).2 ⟨i + 1, rfl, by omega, hn2, rfl⟩) (by repeat' (first | exact rfl | exact trivial | constructor))
      · have hx := h2i huv
        subst hx
        repeat' first | (refine SW.seq_k fun K hK => ?_) | (refine SW.block ?_) | ((first | refine SW.region ?_ | refine SW.regionZ (id := 6) (Checked.mixed Tryz.checked) Go.Ab.zC6_1 (by kernel_rfl) ?_ | refine SW.cond ?_ | refine SW.skip ?_ | refine SW.ret ?_); try simp only [Go.Ab.zC6_1, go_sem, hD, hli, hlc, ie, i0, w1, fi, gi, huv]) | (apply hK; clear hK K)
        refine ret_pure ?_; simp only [resL_tmp, resL_nil, tupOf, go_sem, hD]
    · have hli : ¬ ((i : Nat) : Int) < (((a.length) : Nat) : Int) := by omega
      have hx := h1 hl fun j hj => hL j (by omega)
      subst hx
      have nl : ¬ ((c.length : Nat) : Int) < ((c.length : Nat) : Int) := by omega
      repeat' first | (refine SW.seq_k fun K hK => ?_) | ((first | refine SW.region ?_ | refine SW.cond ?_ | refine SW.exit ?_ | refine SW.ret ?_); try simp only [go_sem, hD, hli, nl]) | (apply hK; clear hK K) | (clear hK K; apply hK; clear hK K)
      refine ret_pure ?_; simp only [resL_tmp, resL_nil, tupOf, go_sem, hD]
  · have hlq : ¬ ((a.length : Nat) : Int) = ((c.length : Nat) : Int) := by omega
    have hx := h0 hl
    subst hx
    refine Call.enter' (N := 26) (rs := [.tmp 4]) Tryz.func97 rfl rfl rfl (by decide) rfl ?_; simp only [argT]; have hD : (0 : Nat) = 0 := rfl
    repeat' first | (refine SW.seq_k fun K hK => ?_) | ((first | refine SW.region ?_ | refine SW.cond ?_ | refine SW.ret ?_); try simp only [go_sem, hD, hlq]) | (apply hK; clear hK K)
    refine ret_pure ?_; simp only [resL_tmp, resL_nil, tupOf, go_sem, hD]
end Go.Proofs.YtpidncgibgiidaaGreat
namespace Go.Ab.A15
open Go Go.Ab Go.Ab.A34
theorem Ivs.st {l : List Dp} {g : Dp} {out : List Sn} (h : Ivs l g out) : ∀ j, j < out.length → (out.getD j s0).st ≤ j := by
  intro j
  induction j using Nat.strongRecOn with
  | ind j ih =>
    intro hj
    rcases Nat.eq_zero_or_pos j with rfl | h0
    · rw [h.rt]; exact Nat.le_refl 0
    · obtain ⟨b, k, hb, _, _, _, hn⟩ := h.nx j h0 hj
      obtain ⟨_, _, _, _, e5, _⟩ := nextS_bf hn
      have := ih b hb (by omega)
      omega
end Go.Ab.A15
namespace Go.Proofs.YtpidncgibgiidaaGreat
open Go Go.Ab Go.Ab.A34 Go.Ab.A15
variable [Gl] [Tabs]
end Go.Proofs.YtpidncgibgiidaaGreat
namespace Go.Ab.A15
open Go Go.Ab Go.Ab.A34
end Go.Ab.A15
namespace Go.Proofs.YtpidncgibgiidaaGreat
open Go Go.Ab Go.Ab.A34 Go.Ab.A15
variable [Gl] [Tabs]
end Go.Proofs.YtpidncgibgiidaaGreat
namespace Go.Ab.A15
open Go Go.Ab Go.Ab.A34
end Go.Ab.A15
namespace Go.Proofs.YtpidncgibgiidaaGreat
open Go Go.Ab Go.Ab.A34 Go.Ab.A15
variable [Gl] [Tabs]
end Go.Proofs.YtpidncgibgiidaaGreat
namespace Go.Ab.A15
open Go Go.Ab Go.Ab.A34
def nmsOf (db : List Tb) : List ByteArray := db.map (·.name)
def nsOf (db : List Tb) : List Nat := db.map fun t => t.attrs.length
theorem tabI_idx {x : ByteArray} : ∀ {l : List Tb} {i : Nat}, x ∈ nmsOf l → tabI x i l = ((i + idxN x (nmsOf l) : Nat) : Int)
  | y :: l, i, h => by
    unfold tabI nmsOf
    rw [List.map_cons, idxN]
    by_cases h1 : y.name = x
    · rw [if_pos h1, if_pos h1]; rfl
    · rw [if_neg h1, if_neg h1, tabI_idx (i := i + 1) ((List.mem_cons.1 h).resolve_left (fun e => h1 e.symm))]
      unfold nmsOf
      congr 1
      omega
theorem tabI_mem {x : ByteArray} : ∀ {l : List Tb} {i : Nat}, 0 ≤ tabI x i l → x ∈ nmsOf l
  | [], i, h => by simp [tabI] at h
  | y :: l, i, h => by
    unfold tabI at h
    unfold nmsOf
    rw [List.map_cons]
    by_cases h1 : y.name = x
    · rw [h1]; exact List.mem_cons_self
    · rw [if_neg h1] at h
      exact List.mem_cons_of_mem _ (tabI_mem h)
theorem chkF_ok {db : List Tb} : ∀ {g i : Nat}, chkF db g i = 0 → i + g = db.length → ∀ j, i ≤ j → j < db.length → validS (db.getD j t0) = 0 ∧ tabI (db.getD j t0).name 0 (db.take j) < 0
  | 0, i, _, h, j, h1, h2 => by omega
  | g + 1, i, hc, h, j, h1, h2 => by
    unfold chkF at hc
    by_cases hv : validS (db.getD i t0) = 0
    · rw [if_neg (fun x => x hv)] at hc
      by_cases hq : 0 ≤ tabI (db.getD i t0).name 0 (db.take i)
      · rw [if_pos hq] at hc; cases hc
      · rw [if_neg hq] at hc
        rcases Nat.lt_or_ge i j with h3 | h3
        · exact chkF_ok hc (by omega) j h3 h2
        · obtain rfl : j = i := by omega
          exact ⟨hv, by omega⟩
    · rw [if_pos hv] at hc; exact absurd hc hv
structure Vdb (db : List Tb) : Prop where
  v : ∀ t ∈ db, validS t = 0
  n : (nmsOf db).Nodup
theorem chkS_ok {db : List Tb} (h : chkS db = 0) : Vdb db := by
  unfold chkS at h
  by_cases h50 : 50 < db.length
  · rw [if_pos h50] at h; cases h
  · rw [if_neg h50] at h
    have key := chkF_ok h (by omega)
    refine ⟨fun t ht => ?_, ?_⟩
    · obtain ⟨j, hj, rfl⟩ := List.getElem_of_mem ht
      have := (key j (Nat.zero_le _) hj).1
      rwa [show db.getD j t0 = db[j] by simp [List.getD_eq_getElem?_getD, hj]] at this
    · refine List.pairwise_iff_getElem.2 fun i j hi hj hij e => ?_
      unfold nmsOf at hi hj
      rw [List.length_map] at hi hj
      unfold nmsOf at e
      rw [List.getElem_map, List.getElem_map] at e
      have := (key j (Nat.zero_le _) hj).2
      rw [show db.getD j t0 = db[j] by simp [List.getD_eq_getElem?_getD, hj]] at this
      have hm : db[j].name ∈ nmsOf (db.take j) := by
        unfold nmsOf
        rw [← e]
        refine List.mem_map.2 ⟨db[i], ?_, rfl⟩
        have hl : i < (db.take j).length := by rw [List.length_take]; omega
        have : (db.take j)[i] = db[i] := List.getElem_take
        rw [← this]
        exact List.getElem_mem hl
      rw [tabI_idx hm] at this
      omega
theorem fits_ok {db : List Tb} {d : Dp} (h : fitsS db d = 0) : Fit (nmsOf db) (nsOf db) d := by
  unfold fitsS at h
  by_cases h1 : tabI d.f 0 db < 0 ∨ tabI d.t 0 db < 0
  · rw [if_pos h1] at h; cases h
  · rw [if_neg h1] at h
    have mf : d.f ∈ nmsOf db := tabI_mem (i := 0) (by omega)
    have mt : d.t ∈ nmsOf db := tabI_mem (i := 0) (by omega)
    have ef := tabI_idx (i := 0) mf
    have et := tabI_idx (i := 0) mt
    rw [ef, et] at h
    simp only [Nat.zero_add, Int.toNat_natCast] at h
    have gn : ∀ i, (nsOf db).getD i 0 = (db.getD i t0).attrs.length := fun i => by
      unfold nsOf
      simp only [List.getD_eq_getElem?_getD, List.getElem?_map]
      cases db[i]? <;> rfl
    split at h
    · cases h
    · rename_i h2
      split at h
      · rename_i h3
        have w1 : winB d.l (db.getD (idxN d.f (nmsOf db)) t0).attrs.length = true := by
          cases hw : winB d.l (db.getD (idxN d.f (nmsOf db)) t0).attrs.length with
          | true => rfl
          | false => exact absurd (.inr (.inl hw)) h2
        have w2 : winB d.r (db.getD (idxN d.t (nmsOf db)) t0).attrs.length = true := by
          cases hw : winB d.r (db.getD (idxN d.t (nmsOf db)) t0).attrs.length with
          | true => rfl
          | false => exact absurd (.inr (.inr hw)) h2
        refine ⟨mf, mt, Classical.byContradiction fun x => h2 (.inl x), ?_, ?_, h3.1, h3.2⟩
        · rw [gn]; exact winB_iff.1 w1
        · rw [gn]; exact winB_iff.1 w2
      · cases h
structure Vall (db : List Tb) (l : List Dp) (g : Dp) : Prop where
  vd : Vdb db
  l : ∀ d ∈ l, Fit (nmsOf db) (nsOf db) d
  g : Fit (nmsOf db) (nsOf db) g
theorem Vdb.name {db : List Tb} (h : Vdb db) : ∀ x ∈ nmsOf db, nameB x.data.toList = true := fun x hx => by
  obtain ⟨t, ht, rfl⟩ := List.mem_map.1 hx
  have := h.v t ht
  unfold validS at this
  split at this
  · assumption
  · cases this
theorem Vdb.ns {db : List Tb} (h : Vdb db) (i : Nat) : (nsOf db).getD i 0 ≤ 16 := by
  unfold nsOf
  simp only [List.getD_eq_getElem?_getD, List.getElem?_map]
  cases hi : db[i]? with
  | none => exact Nat.zero_le _
  | some t => exact (valid_rows (h.v t (List.mem_of_getElem? hi))).2.1
theorem Fit.in16l {db : List Tb} {d : Dp} (h : Vdb db) (hf : Fit (nmsOf db) (nsOf db) d) : In16 d.l := fun x hx => by
  have := hf.l x hx
  have h2 := h.ns (idxN d.f (nmsOf db))
  omega
theorem Fit.in16r {db : List Tb} {d : Dp} (h : Vdb db) (hf : Fit (nmsOf db) (nsOf db) d) : In16 d.r := fun x hx => by
  have := hf.r x hx
  have h2 := h.ns (idxN d.t (nmsOf db))
  omega
theorem in16_len {a : List Int} (hn : a.Nodup) (h : In16 a) : a.length ≤ 16 := by
  have key := nodup_bound 16 (a.map Int.toNat) ?_ ?_
  · rwa [List.length_map] at key
  · have hp := List.pairwise_iff_getElem.1 hn
    refine List.pairwise_iff_getElem.2 fun i j hi hj hij e => ?_
    rw [List.length_map] at hi hj
    rw [List.getElem_map, List.getElem_map] at e
    have h1 := h _ (List.getElem_mem hi)
    have h2 := h _ (List.getElem_mem hj)
    exact hp i j hi hj hij (by omega)
  · intro x hx
    obtain ⟨y, hy, rfl⟩ := List.mem_map.1 hx
    have := h y hy
    omega
theorem Vall.small {db : List Tb} {l : List Dp} {g : Dp} (h : Vall db l g) (h4 : db.length ≤ 4) (h3 : g.l.length ≤ 3) : Small l g (nmsOf db) where
  n4 := by unfold nmsOf; rw [List.length_map]; exact h4
  g3 := h3
  gl := h.g.in16l h.vd
  gf := h.g.f
  lr d hd := (h.l d hd).lr
  r16 d hd := (h.l d hd).in16r h.vd
  lt d hd := (h.l d hd).t
end Go.Ab.A15
namespace Go.Ab.A15
open Go Go.Ab Go.Ab.A34
structure Few (db : List Tb) (l : List Dp) (g : Dp) : Prop where
  d4 : db.length ≤ 4
  ll : l.length ≤ 1000000
  okl : ∀ d ∈ l, OkD d
  okg : OkD g
  g3 : g.l.length ≤ 3
  r3 : g.r.length ≤ 3
end Go.Ab.A15
namespace Go.Proofs.YtpidncgibgiidaaGreat
open Go Go.Ab Go.Ab.A34 Go.Ab.A15
variable [Gl] [Tabs]
end Go.Proofs.YtpidncgibgiidaaGreat
namespace Go.Ab.A15
open Go Go.Ab Go.Ab.A34
theorem map_get {a : List Int} {j : Nat} (h : j < a.length) : (a.map fun x => I64 x).getD j .any = I64 (a.getD j 0) := by simp [List.getD_eq_getElem?_getD, h]
theorem fl_map (l : List Int) : flCells (iF l) l.length = l.map fun x => I64 x := by
  have e : l = (List.range l.length).map fun i => l.getD i 0 := by
    refine List.ext_getElem (by simp) fun i h1 h2 => ?_
    simp [List.getD_eq_getElem?_getD, h1]
  unfold flCells
  conv => rhs; rw [e]
  rw [List.map_map]
  unfold iF
  induction (List.range l.length) with
  | nil => rfl
  | cons x r ih => rw [List.flatMap_cons, List.map_cons, ih]; rfl
end Go.Ab.A15
namespace Go.Proofs.YtpidncgibgiidaaGreat
open Go Go.Ab Go.Ab.A34 Go.Ab.A15
variable [Gl] [Tabs]
theorem clone_i (l : List Int) (hl : l.length ≤ 1000000) : Ab.Call Tryz.prog 130 [IL l] [] (fun r h' => (l = [] ∧ r = SN ∧ h' = []) ∨ ∃ b, r = .os b 0 l.length 1 ∧ h' = [(b, .svs (l.map fun x => I64 x))]) := by
  have hfm := fl_map l
  refine Call.enter' (N := 8) (rs := [.tmp 2]) Tryz.func130 rfl rfl rfl (by decide) rfl ?_; simp only [argT]; have hD : (0 : Nat) = 0 := rfl
  refine SW.seq_k fun K0 hK0 => ?_
  refine SW.region ?_
  simp only [go_sem, hD]
  refine hK0 _ ?_
  clear hK0 K0
  refine SW.seq_k fun K hK => ?_
  refine SW.seq_k fun K2 hK2 => ?_
  refine SW.region_nil (i := 0) (j := 3) (k := 4) rfl rfl rfl rfl rfl rfl Tryz.underlying38 rfl (by decide) (by decide) (fun hn => ?_) ?_
  · refine hK2 _ ?_
    clear hK2 K2
    have hl0 : l = [] := List.eq_nil_of_length_eq_zero hn
    subst hl0
    repeat' first | (refine SW.seq_k fun K hK => ?_) | ((first | refine SW.region ?_ | refine SW.cond ?_ | refine SW.ret ?_); try simp only [go_sem, hD]) | (apply hK; clear hK K)
    refine retQ_le (fun M w0 D N a w r => r) ?_
    simp only [resL_tmp, resL_nil, tupOf, go_sem, hD]
    try exact .inl ⟨rfl, rfl, rfl⟩
  · refine hK2 _ ?_
    clear hK2 K2
    repeat' first | (refine SW.seq_k fun K hK => ?_) | ((first | refine SW.region ?_ | refine SW.cond ?_ | refine SW.skip ?_ | (refine allF_i fun b hb => ?_; replace hD := And.intro hb hD; clear hb; try simp only [fresh_cons, fresh_nil, and_true, ne_eq, neF] at hD) | simp only [appK, appOsK]); try simp only [go_sem, hD]) | (apply hK; clear hK K)
    rw [hfm]
    refine ⟨?_, by omega, by omega, allF_i fun b' hb' => ?_⟩
    · rw [List.all_eq_true]
      intro x hx
      obtain ⟨r, _, rfl⟩ := List.mem_map.1 hx
      rfl
    · apply hK
      clear hK K
      repeat' (refine SW.ret ?_; try simp only [go_sem, hD])
      refine retQ_le (fun M w0 D N a w r => r) ?_
      simp only [resL_tmp, resL_nil, tupOf, go_sem, hD]
      exact .inr ⟨_, rfl, rfl⟩
end Go.Proofs.YtpidncgibgiidaaGreat
namespace Go.Proofs.YtpidncgibgiidaaGreat
open Go Go.Ab Go.Ab.A34 Go.Ab.A15
variable [Gl] [Tabs]
end Go.Proofs.YtpidncgibgiidaaGreat
namespace Go.Proofs.YtpidncgibgiidaaGreat
open Go Go.Ab Go.Ab.A34 Go.Ab.A15
variable [Gl] [Tabs]
end Go.Proofs.YtpidncgibgiidaaGreat
namespace Go.Ab.A34
open Go Go.Ab Go.Proofs
abbrev U8 (n : Int) : SV := .sc (.int .u8 n)
def codeV (c : Int) : V3 :=
  if c % 12 = 0 then (1, 0, ⟨#[]⟩) else if c % 12 = 1 then (1, 1, ⟨#[]⟩) else if c % 12 = 2 then (1, 2, ⟨#[]⟩) else if c % 12 = 3 then (0, 0, ⟨#[]⟩)
  else if c % 12 = 4 then (2, 0, ⟨#[97]⟩) else if c % 12 = 5 then (2, 0, ⟨#[98]⟩) else if c % 12 = 6 then (2, 0, ⟨#[]⟩) else if c % 12 = 7 then (3, 1, ⟨#[]⟩)
  else if c % 12 = 8 then (1, -1, ⟨#[]⟩) else if c % 12 = 9 then (2, 0, ⟨#[97, 98]⟩) else if c % 12 = 10 then (3, 2, ⟨#[]⟩) else (1, 7, ⟨#[]⟩)
def nm8 : List ByteArray := [⟨#[97]⟩, ⟨#[98]⟩, ⟨#[99]⟩, ⟨#[100]⟩, ⟨#[101]⟩, ⟨#[102]⟩, ⟨#[103]⟩, ⟨#[104]⟩]
abbrev UL (l : List Int) : SV := .fl l.length 1 (fun j => [U8 (l.getD j 0)])
abbrev UU (l : List (List Int)) : SV := .fl l.length 1 (fun i => [UL (l.getD i [])])
structure Rc where
  attrs : Int
  gap : Int
  rows : List (List Int)
abbrev RCC (x : Rc) : List SV := [U8 x.attrs, U8 x.gap, UU x.rows]
abbrev RC (x : Rc) : SV := .agg (RCC x)
def okRc (x : Rc) : Prop := (0 ≤ x.attrs ∧ x.attrs < 256) ∧ (0 ≤ x.gap ∧ x.gap < 256) ∧ ∀ r ∈ x.rows, ∀ c ∈ r, 0 ≤ c ∧ c < 256
def rowS (gap : Int) (n i : Nat) (r : List Int) : R3 := (1 + (i : Int) * (1 + gap % 3), (List.range n).map fun k => codeV (r.getD k 0))
def wideS (x : Rc) (n : Nat) : Tb := ⟨⟨#[114]⟩, nm8.take n, (List.range x.rows.length).map fun i => rowS x.gap n i (x.rows.getD i [])⟩
end Go.Ab.A34
namespace Go.Proofs.YtpidncgibgiidaaGreat
open Go Go.Ab Go.Ab.A34
variable [Gl] [Tabs]
theorem code_r (c : Int) (h1 : 0 ≤ c) (h2 : c < 256) : PCall Tryz.prog 126 [U8 c] (VV (codeV c)) := by
  have hm : c.tmod 12 = c % 12 := Int.tmod_eq_emod_of_nonneg h1
  have hk : c % 12 = 0 ∨ c % 12 = 1 ∨ c % 12 = 2 ∨ c % 12 = 3 ∨ c % 12 = 4 ∨ c % 12 = 5 ∨ c % 12 = 6 ∨ c % 12 = 7 ∨ c % 12 = 8 ∨ c % 12 = 9 ∨ c % 12 = 10 ∨ c % 12 = 11 := by omega
  obtain ⟨X, hX⟩ : ∃ X, X = codeV c := ⟨_, rfl⟩
  rw [← hX]
  unfold codeV at hX
  rcases hk with h | h | h | h | h | h | h | h | h | h | h | h
  all_goals
    rw [h] at hm hX
    simp only [Int.reduceEq, if_true, if_false] at hX
    subst hX
    refine Call.enter' (N := 39) (rs := [.cell 2 114]) Tryz.func126 rfl rfl rfl (by decide) rfl ?_; simp only [argT]; have hD : (0 : Nat) = 0 := rfl
    repeat' first | (refine SW.seq_k fun K hK => ?_) | (refine SW.block ?_) | ((first | refine SW.region ?_ | refine SW.cond ?_ | refine SW.skip ?_ | refine SW.ret ?_ | (refine allF_i fun b hb => ?_; replace hD := And.intro hb hD; clear hb; try simp only [fresh_cons, fresh_nil, and_true, ne_eq, neF] at hD)); try simp only [go_sem, hD, hm]) | (apply hK; clear hK K)
    apply ret_cell (i := 2) (n := 3); exact rfl; (simp only [go_sem, hD]; try rfl); (first | exact Nat.le_refl _ | decide); simp only [resL_tmp, resL_cellE, resC_ok, resL_nil, tupOf, getN, go_sem, hD]
end Go.Proofs.YtpidncgibgiidaaGreat
