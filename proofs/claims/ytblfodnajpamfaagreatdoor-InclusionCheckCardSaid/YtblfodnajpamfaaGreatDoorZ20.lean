/- The abstract layer, part Z20: regions that draw their order, where what a stable operation yields may be told (slices behind the last element). -/
import Derived.Test.YtblfodnajpamfaaGreatDoorZ5
import Derived.Test.YtblfodnajpamfaaGreatDoorZ13
set_option linter.unusedVariables false
set_option linter.unusedSectionVars false
set_option linter.unusedSimpArgs false
namespace Go.Ab
open Go.RowKit
section
variable {P : Program} {M : Nat → Prop} {w0 : World} {D : Nat → Prop} {N : Nat} {h : Heap} {w : World}
def vcA [Gl] (P : Program) (N : Nat) (ops : List Oper) (K : St → Prop) : OZ → St → Prop
  | .done, S => K S
  | .nil, S => True
  | .alt i t r, S => stZ P N ops ops[i]? (vcA P N ops K t) S ∧ vcA P N ops K r S
  | .one i _ t, S => stZ P N ops ops[i]? (vcA P N ops K t) S ∨ ∃ o v, ops[i]? = some o ∧ YA P N ops o (look S.t) S.h v ∧ vcA P N ops K t (S.put o.dst v)
theorem vcA_sound [Gl] {ops : List Oper} {K : St → Prop} {K' : (Nat → SV) → Heap → Prop} (hk : ∀ S, K S → K' (look S.t) S.h) : ∀ (t : OZ),
    (∀ (f : Nat) (l : Array Bool) (S : St), t.root ops l = true → t.chk ops f l = true → vcA P N ops K t S → anyZ P N ops K' f l (look S.t) S.h) ∧
    (∀ (f : Nat) (l : Array Bool) (S : St), t.chk ops (f + 1) l = true → vcA P N ops K t S → ∀ i ∈ t.heads, i ∈ Region.ready .any ops.toArray l → opZ P N ops i (anyZ P N ops K' f (l.setIfInBounds i true)) (look S.t) S.h)
  | .done => by
    refine ⟨fun f l S h1 h2 h3 => ?_, fun f l S _ _ i hi => by cases hi⟩
    have h0 : Region.ready .any ops.toArray l = [] := by simpa [OZ.root] using h1
    cases f with
    | zero => exact ⟨h0, hk S h3⟩
    | succ f => exact ⟨fun _ => hk S h3, fun i hi => by rw [h0] at hi; cases hi⟩
  | .nil => ⟨fun f l S h1 h2 h3 => (by cases h1), fun f l S _ _ i hi => by cases hi⟩
  | .one i W t => by
    obtain ⟨ht, _⟩ := vcA_sound hk t
    refine ⟨fun f l S h1 h2 h3 => ?_, fun f l S _ _ i hi => by cases hi⟩
    cases f with
    | zero => cases h2
    | succ f =>
      simp only [OZ.root] at h1
      unfold oneOk at h1
      split at h1
      · cases h1
      · rename_i oi hi
        simp only [OZ.chk, Bool.and_eq_true] at h2
        simp only [Bool.and_eq_true] at h1
        obtain ⟨⟨⟨c1, c2⟩, c3⟩, c4⟩ := h1
        obtain ⟨S1, v, e1, e2, hy, hK⟩ : ∃ (S1 : St) (v : SV), look S1.t = look S.t ∧ S1.h = S.h ∧ YA P N ops oi (look S.t) S.h v ∧ vcA P N ops K t (S1.put oi.dst v) := by
          rcases h3 with h3 | ⟨o', v, ho', hy, hK⟩
          · unfold stZ at h3
            rw [hi] at h3
            exact sstep_of c1 h3
          · rw [hi] at ho'
            cases ho'
            exact ⟨S, v, rfl, rfl, hy, hK⟩
        have hn := ht f _ _ h2.1 h2.2 hK
        rw [look_put, h_put, e1, e2] at hn
        rw [List.all_eq_true] at c3
        have c3' : ∀ m, hasN W m = true → l.getD m true = false ∧ (m = i ∨ ∃ om, ops[m]? = some om ∧ ∃ e ∈ om.after, Region.binds .any e = true ∧ hasN W e.on = true) := fun m hm => by
          have := c3 m (hasN_iff.1 hm)
          simp only [Bool.and_eq_true, Bool.not_eq_true', Bool.or_eq_true, Nat.beq_eq] at this
          refine ⟨this.1, this.2.imp id fun h => ?_⟩
          split at h
          · cases h
          · rename_i om hom
            rw [Array.any_eq_true'] at h
            obtain ⟨e, he, h⟩ := h
            rw [Bool.and_eq_true] at h
            exact ⟨om, hom, e, he, h.1, h.2⟩
        refine anyZ_first hi c1 (hasN W) (fun m om hm hW => ?_) l (fun j oj hj h1 h2 => ?_) f l _ _ (fun m hm => (c3' m hm).1) (fun j hj => hj) ?_ hy hn
        · rcases (c3' m hW).2 with e | ⟨om', h1, h2⟩
          · exact .inl e
          · rw [hm] at h1
            cases h1
            exact .inr h2
        · exact freeAll_spec ops 0 c4 j oj hj (by rw [Nat.zero_add]; exact h1) (by rw [Nat.zero_add]; exact h2)
        · rw [List.any_eq_true] at c2
          obtain ⟨x, hx, he⟩ := c2
          rw [Nat.beq_eq] at he
          exact he ▸ hx
  | .alt i t r => by
    obtain ⟨ht, _⟩ := vcA_sound hk t
    obtain ⟨_, hrr⟩ := vcA_sound hk r
    have B : ∀ (f : Nat) (l : Array Bool) (S : St), (OZ.alt i t r).chk ops (f + 1) l = true → vcA P N ops K (.alt i t r) S → ∀ j ∈ (OZ.alt i t r).heads, j ∈ Region.ready .any ops.toArray l → opZ P N ops j (anyZ P N ops K' f (l.setIfInBounds j true)) (look S.t) S.h := by
      intro f l S hc hv j hj hrd
      simp only [OZ.chk, Bool.and_eq_true] at hc
      obtain ⟨⟨c1, c2⟩, c3⟩ := hc
      obtain ⟨v1, v2⟩ := hv
      rcases List.mem_cons.1 hj with rfl | hj
      · obtain ⟨_, o, ho, _⟩ := mem_ready.1 hrd
        rw [List.getElem?_toArray] at ho
        rw [ho] at v1
        exact opZ_of ho (fun S' hS => ht f _ S' c1 c2 hS) v1
      · exact hrr f l S c3 v2 j hj hrd
    refine ⟨fun f l S h1 h2 h3 => ?_, B⟩
    have h0 : Region.ready .any ops.toArray l = (OZ.alt i t r).heads := by simpa [OZ.root] using h1
    cases f with
    | zero => simp [OZ.chk] at h2
    | succ f =>
      refine ⟨fun he => ?_, fun j hj => B f l S h2 h3 j (by rw [← h0]; exact hj) hj⟩
      rw [h0] at he
      cases he
end
theorem SW.regionL [Gl] {P : Program} {N : Nat} {id : Nat} {ops : List Oper} {Q : Exit → St → Prop} {S : St} (hm : P.follows .mixedOrders = true) (T : OZ) (hB : (T.root ops (Array.replicate ops.length false) && T.chk ops ops.length (Array.replicate ops.length false)) = true)
    (h : vcA P N ops (Q .normal) T S) : SW P N (.region id ops.toArray true) Q S := SW.mk fun M w0 D a w hr => by
  rw [Bool.and_eq_true] at hB
  refine wp_region_any hm ?_
  have hr' : Rel M w0 D N S a (drw w) := ⟨hr.defers, hr.n, fun i => (hr.t i).mono (env_drw _ _), hr.own.drw, hr.frm.trans (frm_drw (fun _ => False) w) (fun _ _ x => x.elim), hr.new⟩
  have h1 := (vcA_sound (K' := fun T h => ∃ S', look S'.t = T ∧ S'.h = h ∧ Q .normal S') (fun S hS => ⟨S, rfl, rfl, hS⟩) T).1 ops.length _ S hB.1 hB.2 h
  have h2 := anyZ_sound (Q := fun e a' w' => ∃ S', Q e S' ∧ Rel M w0 D N S' a' w') (K := fun T h => ∃ S', look S'.t = T ∧ S'.h = h ∧ Q .normal S') (fun S a w ⟨S', e1, e2, hx⟩ hr => ⟨S', hx, hr.look_eq e1 e2⟩) _ _ S a _ hr' h1
  simpa [drw] using h2
section
variable {P : Program} {N : Nat} {ops : List Oper} {K : St → Prop} {S : St}
theorem vcA_done [Gl] (h : K S) : vcA P N ops K .done S := h
theorem vcA_one [Gl] {o : Oper} {i : Nat} {W : List Nat} {t : OZ} (ho : ops[i]? = some o) (g : o.guard = none) (h : stepD P N o (vcA P N ops K t) S) : vcA P N ops K (.one i W t) S := by
  refine .inl ?_
  unfold stZ
  rw [ho]
  show gstep ops N o.guard o.dst _ _ S
  rw [g]
  exact h
theorem vcA_alt [Gl] {o : Oper} {i : Nat} {t : OZ} (ho : ops[i]? = some o) (g : o.guard = none) (h : stepD P N o (vcA P N ops K t) S) : vcA P N ops K (.alt i t .nil) S := by
  refine ⟨?_, trivial⟩
  unfold stZ
  rw [ho]
  show gstep ops N o.guard o.dst _ _ S
  rw [g]
  exact h
theorem vcA_tail [Gl] {o : Oper} {i : Nat} {W : List Nat} {q : OZ} {t e : TypeId} {x lo : Operand} {b off n sz bytes : Nat} (f : Nat → List SV) (ho : ops[i]? = some o) (g : o.guard = none) (hd : dstOk N o.dst) (hop : o.op = .slice t x (some lo) none none) (hL : slk P t = some (e, sz, bytes))
    (hx : S.ev x = .os b off n sz) (hl : S.ev lo = .sc (.int .i64 (n : Int))) (h : vcA P N ops K q (S.put o.dst (.fl 0 sz f))) : vcA P N ops K (.one i W q) S :=
  .inr ⟨o, _, ho, ⟨hd, .inl ⟨by rw [g]; rfl, .inr (.inr ⟨t, x, lo, e, b, off, n, sz, bytes, f, hop, hL, by rw [← ev_look]; exact hx, by rw [← ev_look]; exact hl, rfl⟩)⟩⟩, h⟩
end
end Go.Ab
