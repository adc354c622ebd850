/- Slices, conversions, and the operations that make a block. -/
import Derived.Test.YtockdinjmnkdoaaAd
namespace Go.Ab
open Go.RowKit

section
variable {P : Program} {M : Nat → Prop} {h : Heap} {w : World}

def ORep (E : Env) : Option Value → Option SV → Prop
  | none, none => True
  | some v, some s => Rep E v s
  | _, _ => False

theorem sliceBounds_run {E : Env} {isS : Bool} {len cap : Nat} {lo hi : Option Value} {slo shi : Option SV} {l r : Int} (hlo : ORep E lo slo) (hhi : ORep E hi shi)
    (bl : bnd slo 0 = some l) (br : bnd shi len = some r) (h0 : 0 ≤ l) (h1 : l ≤ r) (h2 : r ≤ len) (h3 : len ≤ cap) :
    (Instr.sliceBounds isS len cap lo hi none).run P w = .ok (l.toNat, r.toNat, cap) w := by
  have hiv : (match hi with | some v => Instr.sliceBound v cap (if isS then .sliceAcap else .sliceAlen) | none => pure len : Sem Nat).run P w = .ok r.toNat w := by
    cases hi with
    | none =>
      cases shi with
      | none => simp [bnd] at br; subst br; simp
      | some _ => exact hhi.elim
    | some v =>
      cases shi with
      | none => exact hhi.elim
      | some s =>
        unfold bnd at br
        split at br
        · rename_i hh; cases hh
        · rename_i k n hh
          cases hh; cases br; cases hhi
          simp [Instr.sliceBound, asIntOf, show 0 ≤ r ∧ r ≤ (cap : Int) by omega]
        · cases br
  have lov : ∀ code, (match lo with | some v => Instr.sliceBound v r.toNat code | none => pure 0 : Sem Nat).run P w = .ok l.toNat w := fun code => by
    cases lo with
    | none =>
      cases slo with
      | none => simp [bnd] at bl; subst bl; simp
      | some _ => exact hlo.elim
    | some v =>
      cases slo with
      | none => exact hlo.elim
      | some s =>
        unfold bnd at bl
        split at bl
        · rename_i hh; cases hh
        · rename_i k n hh
          cases hh; cases bl; cases hlo
          simp [Instr.sliceBound, asIntOf, show 0 ≤ l ∧ l ≤ max r 0 by omega]
        · cases bl
  unfold Instr.sliceBounds
  cases hi with
  | none =>
    simp only [Sem.run_pure] at hiv
    simp only [Sem.run_bind, Sem.run_pure, Result.andThen_ok]
    cases hiv
    cases lo with
    | none => simpa using lov .sliceB
    | some v =>
      have := lov .sliceB
      simp only at this
      simp [this]
  | some v =>
    simp only at hiv
    simp only [Sem.run_bind, Sem.run_pure, Result.andThen_ok, hiv]
    cases lo with
    | none => simpa using lov .sliceB
    | some v =>
      have := lov .sliceB
      simp only at this
      simp [this]

theorem slice_sound {t : TypeId} {u : Value} {x v : SV} {lo hi : Option Value} {slo shi : Option SV} {pre : Prop} (hx : Rep (envOf (hid M h) w) u x)
    (hlo : ORep (envOf (hid M h) w) lo slo) (hhi : ORep (envOf (hid M h) w) hi shi)
    (hv : sliceSV (isStr P t) (slk P t) x slo shi none = .ok pre v) (hp : pre) : ∃ r, (Instr.sliceAt t u lo hi none).run P w = .ok r w ∧ Rep (envOf (hid M h) w) r v := by
  unfold sliceSV at hv
  simp only at hv
  split at hv
  · rename_i s
    split at hv
    · rename_i l r bl br
      cases hv
      obtain ⟨hs, h0, h1, h2⟩ := hp
      cases hx
      refine ⟨.string (s.extract l.toNat r.toNat), ?_, .sc _⟩
      simp [Instr.sliceAt, Instr.slice, run_underlying (isStr_spec hs), sliceBounds_run hlo hhi bl br h0 h1 h2 (Nat.le_refl _)]
    · cases hv
  · split at hv
    · rename_i q l r hL bl br
      obtain ⟨q1, q2, q3⟩ := q
      cases hv
      obtain ⟨h0, h1, h2⟩ := hp
      obtain ⟨i, hu, hin, hs, rfl⟩ := slk_spec hL
      cases hx
      have hl : l = 0 := by omega
      have hr : r = 0 := by omega
      subst hl; subst hr
      refine ⟨.slice none 0 0, ?_, .sc _⟩
      simp [Instr.sliceAt, Instr.slice, run_underlying hu, sliceBounds_run (isS := true) (len := 0) (cap := 0) hlo hhi bl br h0 h1 h2 (Nat.le_refl _), run_sizeOf_info hin]
    · cases hv
  · rename_i n sz f
    split at hv
    · rename_i q s bb l r hL bl br
      cases hv
      obtain ⟨rfl, h0, h1, h2⟩ := hp
      obtain ⟨i, hu, hin, hs, rfl⟩ := slk_spec hL
      cases hx with
      | fl0 a cap _ f =>
        have hl : l = 0 := by omega
        have hr : r = 0 := by omega
        subst hl; subst hr
        refine ⟨_, by simp [Instr.sliceAt, Instr.slice, run_underlying hu, sliceBounds_run (isS := true) hlo hhi bl br h0 h1 h2 (Nat.zero_le cap), run_sizeOf_info hin]; rfl, ?_⟩
        exact .fl0 _ _ _ _
      | fl b off _ cap _ _ val hc hl hsee hr =>
        by_cases hm : cap = l.toNat
        · have e0 : (r - l).toNat = 0 := by omega
          have hbd := sliceBounds_run (P := P) (w := w) (isS := true) hlo hhi bl br h0 h1 h2 hc
          refine ⟨.slice (some ⟨b, off, none⟩) 0 (cap - l.toNat), ?_, ?_⟩
          · simp only [Instr.sliceAt, Instr.slice, Sem.run_bind, run_underlying hu, Result.andThen_ok, hbd, run_sizeOf_info hin, Sem.run_pure, if_pos hm]
            rw [show r.toNat - l.toNat = 0 by omega]
          rw [e0]
          exact .fl0 _ _ _ _
        · have e1 : r.toNat - l.toNat = (r - l).toNat := by omega
          refine ⟨.slice (some ⟨b, off + l.toNat * sz, none⟩) (r - l).toNat (cap - l.toNat), by simp [Instr.sliceAt, Instr.slice, run_underlying hu, sliceBounds_run (isS := true) hlo hhi bl br h0 h1 h2 hc, run_sizeOf_info hin, hm, hs, Addr.add_lit, e1], ?_⟩
          refine .fl b _ _ _ _ _ (fun i j => val (l.toNat + i) j) (by omega) (fun i hi => hl _ (by omega)) (fun i hi j hj => ?_) (fun i hi j hj => hr _ (by omega) j hj)
          have := hsee (l.toNat + i) (by omega) j hj
          rwa [Nat.add_mul, ← Nat.add_assoc] at this
    · cases hv
  · rename_i b off n sz
    split at hv
    · rename_i q s bb l r hL bl br
      cases hv
      obtain ⟨rfl, h0, h1, h2, h3⟩ := hp
      obtain ⟨i, hu, hin, hs, rfl⟩ := slk_spec hL
      cases hx with
      | os _ _ _ cap _ m hc hm hb =>
        have e1 : r.toNat - l.toNat = (r - l).toNat := by omega
        have hrun : (Instr.sliceAt t (.slice (some ⟨b, off, none⟩) n cap) lo hi none).run P w = .ok (.slice (some ⟨b, off + l.toNat * sz, none⟩) (r - l).toNat (cap - l.toNat)) w := by
          by_cases hml : cap = l.toNat
          · have hl0 : l = 0 := by omega
            have hbd := sliceBounds_run (P := P) (w := w) (isS := true) hlo hhi bl br h0 h1 h2 hc
            simp only [Instr.sliceAt, Instr.slice, Sem.run_bind, run_underlying hu, Result.andThen_ok, hbd, run_sizeOf_info hin, Sem.run_pure, if_pos hml]
            rw [hl0]
            simp
          · simp [Instr.sliceAt, Instr.slice, run_underlying hu, sliceBounds_run (isS := true) hlo hhi bl br h0 h1 h2 hc, run_sizeOf_info hin, hml, hs, Addr.add_lit, e1]
        refine ⟨_, hrun, .os b _ _ _ _ m (by omega) hm ?_⟩
        have : l.toNat * sz + (cap - l.toNat) * sz = cap * sz := by rw [← Nat.add_mul]; congr 1; omega
        omega
    · cases hv
  · cases hv

theorem bnd_some {E : Env} {v : Value} {s : SV} {d : Nat} {r : Int} (h : Rep E v s) (hb : bnd (some s) d = some r) : ∃ k, v = .int k r := by
  unfold bnd at hb
  split at hb
  · rename_i hh; cases hh
  · rename_i k n hh
    cases hh; cases hb; cases h
    exact ⟨k, rfl⟩
  · cases hb

theorem sliceBounds3_run {E : Env} {isS : Bool} {len cap d1 d2 : Nat} {lo : Option Value} {slo : Option SV} {hi mx : Value} {shi smx : SV} {l r m : Int} (hlo : ORep E lo slo) (hhi : Rep E hi shi) (hmx : Rep E mx smx)
    (bl : bnd slo 0 = some l) (br : bnd (some shi) d1 = some r) (bm : bnd (some smx) d2 = some m) (h0 : 0 ≤ l) (h1 : l ≤ r) (h2 : r ≤ m) (h4 : m ≤ cap) :
    (Instr.sliceBounds isS len cap lo (some hi) (some mx)).run P w = .ok (l.toNat, r.toNat, m.toNat) w := by
  obtain ⟨k1, rfl⟩ := bnd_some hhi br
  obtain ⟨k2, rfl⟩ := bnd_some hmx bm
  have hM : ∀ code, (Instr.sliceBound (.int k2 m) cap code).run P w = .ok m.toNat w := fun code => by simp [Instr.sliceBound, asIntOf, show 0 ≤ m ∧ m ≤ (cap : Int) by omega]
  have hH : ∀ code, (Instr.sliceBound (.int k1 r) m.toNat code).run P w = .ok r.toNat w := fun code => by simp [Instr.sliceBound, asIntOf, show 0 ≤ r ∧ r ≤ max m 0 by omega]
  unfold Instr.sliceBounds
  simp only [Sem.run_bind, hM, hH, Result.andThen_ok]
  cases lo with
  | none =>
    cases slo with
    | none => simp [bnd] at bl; subst bl; simp
    | some _ => exact hlo.elim
  | some v =>
    cases slo with
    | none => exact hlo.elim
    | some s =>
      obtain ⟨k3, rfl⟩ := bnd_some hlo bl
      have hL : ∀ code, (Instr.sliceBound (.int k3 l) r.toNat code).run P w = .ok l.toNat w := fun code => by simp [Instr.sliceBound, asIntOf, show 0 ≤ l ∧ l ≤ max r 0 by omega]
      simp [hL]

theorem slice3_sound {t : TypeId} {u : Value} {x v : SV} {lo hi : Option Value} {slo shi : Option SV} {mx : Value} {smx : SV} {pre : Prop} (hx : Rep (envOf (hid M h) w) u x)
    (hlo : ORep (envOf (hid M h) w) lo slo) (hhi : ORep (envOf (hid M h) w) hi shi) (hmx : Rep (envOf (hid M h) w) mx smx)
    (hv : sliceSV (isStr P t) (slk P t) x slo shi (some smx) = .ok pre v) (hp : pre) : ∃ r, (Instr.sliceAt t u lo hi (some mx)).run P w = .ok r w ∧ Rep (envOf (hid M h) w) r v := by
  unfold sliceSV at hv
  simp only at hv
  split at hv
  · cases hv
  · rename_i hi0 shi
    cases hi with
    | none => exact hhi.elim
    | some hi =>
      split at hv
      · rename_i n sz f
        split at hv
        · rename_i q s bb l r m hL bl br bm
          cases hv
          obtain ⟨rfl, h0, h1, h2, h3⟩ := hp
          obtain ⟨i, hu, hin, hs, rfl⟩ := slk_spec hL
          cases hx with
          | fl0 a cap _ f =>
            have hl : l = 0 := by omega
            have hr : r = 0 := by omega
            have hm : m = 0 := by omega
            subst hl; subst hr; subst hm
            refine ⟨_, by simp [Instr.sliceAt, Instr.slice, run_underlying hu, sliceBounds3_run (isS := true) (len := 0) (cap := cap) hlo hhi hmx bl br bm h0 h1 h2 (by omega), run_sizeOf_info hin]; rfl, ?_⟩
            exact .fl0 _ _ _ _
          | fl b off _ cap _ _ val hc hl hsee hr =>
            have hbd := sliceBounds3_run (P := P) (w := w) (isS := true) (len := n) (cap := cap) hlo hhi hmx bl br bm h0 h1 h2 (by omega)
            by_cases hm : m.toNat = l.toNat
            · have e0 : (r - l).toNat = 0 := by omega
              refine ⟨.slice (some ⟨b, off, none⟩) 0 (m.toNat - l.toNat), ?_, ?_⟩
              · simp only [Instr.sliceAt, Instr.slice, Sem.run_bind, run_underlying hu, Result.andThen_ok, hbd, run_sizeOf_info hin, Sem.run_pure, if_pos hm]
                rw [show r.toNat - l.toNat = 0 by omega]
              rw [e0]
              exact .fl0 _ _ _ _
            · have e1 : r.toNat - l.toNat = (r - l).toNat := by omega
              refine ⟨.slice (some ⟨b, off + l.toNat * sz, none⟩) (r - l).toNat (m.toNat - l.toNat), by simp [Instr.sliceAt, Instr.slice, run_underlying hu, hbd, run_sizeOf_info hin, hm, hs, Addr.add_lit, e1], ?_⟩
              refine .fl b _ _ _ _ _ (fun i j => val (l.toNat + i) j) (by omega) (fun i hi => hl _ (by omega)) (fun i hi j hj => ?_) (fun i hi j hj => hr _ (by omega) j hj)
              have := hsee (l.toNat + i) (by omega) j hj
              rwa [Nat.add_mul, ← Nat.add_assoc] at this
        · cases hv
      · rename_i b off n sz
        split at hv
        · rename_i q s bb l r m hL bl br bm
          cases hv
          obtain ⟨rfl, h0, h1, h2, h3, h4⟩ := hp
          obtain ⟨i, hu, hin, hs, rfl⟩ := slk_spec hL
          cases hx with
          | os _ _ _ cap _ mm hc hm hb =>
            have e1 : r.toNat - l.toNat = (r - l).toNat := by omega
            have hbd := sliceBounds3_run (P := P) (w := w) (isS := true) (len := n) (cap := cap) hlo hhi hmx bl br bm h0 h1 h2 (by omega)
            have hrun : (Instr.sliceAt t (.slice (some ⟨b, off, none⟩) n cap) lo (some hi) (some mx)).run P w = .ok (.slice (some ⟨b, off + l.toNat * sz, none⟩) (r - l).toNat (m.toNat - l.toNat)) w := by
              by_cases hml : m.toNat = l.toNat
              · have hl0 : l = 0 := by omega
                simp only [Instr.sliceAt, Instr.slice, Sem.run_bind, run_underlying hu, Result.andThen_ok, hbd, run_sizeOf_info hin, Sem.run_pure, if_pos hml]
                rw [hl0]
                simp
              · simp [Instr.sliceAt, Instr.slice, run_underlying hu, hbd, run_sizeOf_info hin, hml, hs, Addr.add_lit, e1]
            refine ⟨_, hrun, .os b _ _ _ _ mm (by omega) hm ?_⟩
            have h5 : l.toNat * sz + (m.toNat - l.toNat) * sz = m.toNat * sz := by rw [← Nat.add_mul]; congr 1; omega
            have h6 : m.toNat * sz ≤ cap * sz := Nat.mul_le_mul_right _ (by omega)
            omega
        · cases hv
      · cases hv

theorem conv_sound {s d : TypeId} {u : Value} {x v : SV} {pre : Prop} (hsrc : (P.underlying s).isSome = true) (hx : Rep (envOf (hid M h) w) u x)
    (hv : convSV (ik P d) (isStr P d) x = .ok pre v) (hp : pre) : ∃ r, (convert s d u).run P w = .ok r w ∧ Rep (envOf (hid M h) w) r v := by
  obtain ⟨sd, hsd⟩ := Option.isSome_iff_exists.1 hsrc
  unfold convSV at hv
  split at hv
  · rename_i k0 n
    split at hv
    · rename_i k hk
      cases hv
      cases hx
      have hu : P.underlying d = some (.int k) := by
        unfold ik at hk
        split at hk
        · rename_i k' hu; cases hk; exact hu
        · cases hk
      exact ⟨_, by simp [convert, run_underlying hsd, run_underlying hu, Conv.intToInt], .sc _⟩
    · cases hv
  · rename_i s
    cases hv
    cases hx
    exact ⟨_, by simp [convert, run_underlying hsd, run_underlying (isStr_spec hp)], .sc _⟩
  · cases hv

theorem tup_sound {u : Value} {cs : List SV} {i : Nat} (hx : Rep (envOf (hid M h) w) u (.tup cs)) (hi : i < cs.length) :
    ∃ r, (Instr.extract u i).run P w = .ok r w ∧ Rep (envOf (hid M h) w) r (cs.getD i .any) := by
  cases hx with
  | tup c _ hl hr =>
    have hlt : i < c.size := by omega
    refine ⟨c[i], by simp [Instr.extract, hlt], ?_⟩
    have := hr i hi
    simpa [hlt] using this

/-- Single cells: neither an aggregate nor a tuple. -/
theorem single_spec {E : Env} {v : Value} {s : SV} (hr : Rep E v s) (hs : single s = true) : v.oneCell' = true ∧ v.cells = #[v] := by
  cases hr
  case sc => cases v <;> first | (simp [single] at hs; done) | exact ⟨rfl, rfl⟩
  all_goals first | (simp [single] at hs; done) | exact ⟨rfl, rfl⟩

theorem svCells_spec {E : Env} {v : Value} {s : SV} {cs : List SV} (hr : Rep E v s) (hc : svCells s = some cs) :
    v.cells.size = cs.length ∧ (∀ i, i < cs.length → Rep E (v.cells.getD i undef) (cs.getD i .any)) ∧ ∀ i, i < cs.length → (v.cells.getD i undef).oneCell' = true := by
  have one : single s = true → some [s] = some cs → v.cells.size = cs.length ∧ (∀ i, i < cs.length → Rep E (v.cells.getD i undef) (cs.getD i .any)) ∧ ∀ i, i < cs.length → (v.cells.getD i undef).oneCell' = true := by
    intro hs hh
    cases hh
    obtain ⟨h1, h2⟩ := single_spec hr hs
    rw [h2]
    refine ⟨rfl, fun i hi => ?_, fun i hi => ?_⟩
    · obtain rfl : i = 0 := by simpa using hi
      simpa using hr
    · obtain rfl : i = 0 := by simpa using hi
      simpa using h1
  cases s with
  | agg cs' =>
    simp only [svCells] at hc
    by_cases ha : cs'.all single = true
    · rw [ha] at hc
      simp only [cond_true, Option.some.injEq] at hc
      subst hc
      cases hr with
      | agg c _ hl hh =>
        refine ⟨hl, hh, fun i hi => ?_⟩
        have hm : cs'.getD i .any ∈ cs' := by rw [getD_list _ _ _ hi]; exact List.getElem_mem hi
        exact (single_spec (hh i hi) (List.all_eq_true.1 ha _ hm)).1
    · simp only [Bool.not_eq_true] at ha
      rw [ha] at hc
      simp at hc
  | any => simp [svCells, single] at hc
  | tup cs' => simp [svCells, single] at hc
  | sc x =>
    simp only [svCells] at hc
    by_cases hs : single (.sc x) = true
    · rw [hs] at hc; simp only [cond_true] at hc; exact one hs hc
    · simp only [Bool.not_eq_true] at hs; rw [hs] at hc; simp at hc
  | _ => exact one rfl (by simpa [svCells, single] using hc)

end
end Go.Ab
