/- The abstract layer, part Z17: an owned slice is lent to a call that answers a plain value. -/
import Derived.Test.YtpidncgibgiidaaGreatZ13
set_option linter.unusedVariables false
set_option linter.unusedSectionVars false
set_option linter.unusedSimpArgs false
namespace Go.Ab
open Go.RowKit
section
variable {P : Program} {M : Nat → Prop} {h : Heap} {w : World}
theorem Call.lend [Gl] {f : FuncId} {args : List SV} {v : Value} (i : Nat) {b off len sz : Nat} {k : Blk} (g : Nat → List SV) (hi : i < args.length) (ha : args.getD i .any = .os b off len sz) (hk : h.find b = some k) (hle : off + len * sz ≤ k.len)
    (hg : ∀ j, j < len → g j = getN k (off + j * sz) sz) (hc : PCall P f (args.set i (.fl len sz g)) (.sc v)) : Call P f args h (fun r h' => r = .sc v ∧ h' = h) := by
  refine ⟨fun M w vs own hr => ?_⟩
  have own0 : Owns M [] w := own.sub (by simp) (fun x hx => by cases hx)
  have hr0 : Reps (envOf (hid M []) w) vs (args.set i (.fl len sz g)) := by
    refine ⟨by simpa using hr.1, fun j hj => ?_⟩
    rw [getD_set hi]
    have h0 := hr.2 j (by simpa using hj)
    by_cases hij : i = j
    · subst hij
      rw [if_pos rfl]
      rw [ha] at h0
      exact (freeze_rep own hk hle g hg h0).mono (env_le (Frm.refl (fun _ => False) w) (fun _ x _ => x.elim) (fun c _ x => x.elim .inl (fun ⟨_, hk⟩ => by cases hk)))
    · rw [if_neg hij]
      exact h0.mono (env_le (Frm.refl (fun _ => False) w) (fun _ x _ => x.elim) (fun c _ x => x.elim .inl (fun ⟨_, hk⟩ => by cases hk)))
  refine (hc.out M w vs own0 hr0).mono fun e w' ⟨u, r, h', he, ⟨e1, e2⟩, hv, _, frm, _⟩ => ?_
  subst e1 e2
  have frm0 : ∀ D, Frm D w w' := fun D => ⟨frm.size, fun b hb _ => frm.keep b hb (fun ⟨_, hk⟩ => by cases hk), frm.sizes, frm.os, frm.tape, frm.output, frm.drn⟩
  cases hv
  exact ⟨_, .sc v, h, he, ⟨rfl, rfl⟩, .sc v, own.frm (frm0 _), frm0 _, fun c hb _ => hb⟩
theorem Call.lend_ints [Gl] {f : FuncId} {args : List SV} {v : Value} (i : Nat) {b n : Nat} {blk : Blk} (k : IntKind) (l : List Int) (hi : i < args.length) (ha : args.getD i .any = .os b 0 n 1) (hn : n = l.length) (hk : h.find b = some blk)
    (hb : blk.cells = l.map fun n => .sc (.int k n)) (hc : PCall P f (args.set i (ints k l)) (.sc v)) : Call P f args h (fun r h' => r = .sc v ∧ h' = h) := by
  subst hn
  refine Call.lend (k := blk) (sz := 1) (off := 0) i (fun j => [.sc (.int k (l.getD j 0))]) hi ha hk (by rw [← Blk.length_cells, hb]; simp) (fun j hj => ?_) hc
  rw [Nat.zero_add, Nat.mul_one, getN_one, get_of_cells hb (by simpa using hj)]
  simp [List.getD_eq_getElem?_getD, hj]
theorem Call.sayR [Gl] {f : FuncId} {args : List SV} {Q Q' : SV → Heap → Prop} (hc : Call P f args h Q) (hq : ∀ r h', Q r h' → ∃ r1, Q' r1 h' ∧ ∀ E v, Rep E v r → Rep E v r1) : Call P f args h Q' :=
  ⟨fun M w vs own hr => (hc.out M w vs own hr).mono fun _ _ ⟨v, r, h', h1, h2, h3, h4⟩ => by
    obtain ⟨r1, h5, h6⟩ := hq r h' h2
    exact ⟨v, r1, h', h1, h5, h6 _ _ h3, h4⟩⟩
theorem PCall.sayR [Gl] {f : FuncId} {args : List SV} {r r1 : SV} (hc : PCall P f args r) (hq : ∀ E v, Rep E v r → Rep E v r1) : PCall P f args r1 :=
  Call.sayR hc fun r' h' ⟨e, e2⟩ => ⟨r1, ⟨rfl, e2⟩, by rw [e]; exact hq⟩
theorem Rep.agg_mono {E : Env} {v : Value} {cs ds : List SV} (hl : cs.length = ds.length) (h : ∀ j, j < cs.length → ∀ u, Rep E u (cs.getD j .any) → Rep E u (ds.getD j .any)) (hr : Rep E v (.agg cs)) : Rep E v (.agg ds) := by
  cases hr with
  | agg c _ h1 h2 => exact .agg c ds (by omega) (fun j hj => h j (by omega) _ (h2 j (by omega)))
end
end Go.Ab
