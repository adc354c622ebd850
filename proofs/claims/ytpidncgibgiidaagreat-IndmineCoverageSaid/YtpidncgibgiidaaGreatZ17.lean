/- The abstract layer, part Z17: an owned slice is lent to a call that answers a plain value. -/
import Derived.Test.YtpidncgibgiidaaGreatZ13
set_option linter.unusedVariables false
set_option linter.unusedSectionVars false
set_option linter.unusedSimpArgs false
namespace Go.Ab
open Go.RowKit
section
variable {P : Program} {M : Nat → Prop} {h : Heap} {w : World}
theorem Call.lend [Gl] {f : FuncId} {args : List SV} {v : Value} (i : Nat) {b off len sz : Nat} {k : Blk} (g : Nat → List SV) (hi : i < args.length) (ha : args.getD i .any = .os b off len sz) (hk : h.find b = some k) (hle : off + len * sz ≤ k.len)
    (hg : ∀ j, j < len → g j = getN k (off + j * sz) sz) (hc : PCall P f (args.set i (.fl len sz g)) (.sc v)) : Call P f args h (fun r h' => r = .sc v ∧ h' = h) := by
  refine ⟨fun M w vs own hr => ?_⟩
  have own0 : Owns M [] w := own.sub (by simp) (fun x hx => by cases hx)
  have hr0 : Reps (envOf (hid M []) w) vs (args.set i (.fl len sz g)) := by
    refine ⟨by simpa using hr.1, fun j hj => ?_⟩
    rw [getD_set hi]
    have h0 := hr.2 j (by simpa using hj)
    by_cases hij : i = j
    · subst hij
      rw [if_pos rfl]
      rw [ha] at h0
      exact (freeze_rep own hk hle g hg h0).mono (env_le (Frm.refl (fun _ => False) w) (fun _ x _ => x.elim) (fun c _ x => x.elim .inl (fun ⟨_, hk⟩ => by cases hk)))
    · rw [if_neg hij]
      exact h0.mono (env_le (Frm.refl (fun _ => False) w) (fun _ x _ => x.elim) (fun c _ x => x.elim .inl (fun ⟨_, hk⟩ => by cases hk)))
  refine (hc.out M w vs own0 hr0).mono fun e w' ⟨u, r, h', he, ⟨e1, e2⟩, hv, _, frm, _⟩ => ?_
  subst e1 e2
  have frm0 : ∀ D, Frm D w w' := fun D => ⟨frm.size, fun b hb _ => frm.keep b hb (fun ⟨_, hk⟩ => by cases hk), frm.sizes, frm.os, frm.tape, frm.output, frm.drn⟩
  cases hv
  exact ⟨_, .sc v, h, he, ⟨rfl, rfl⟩, .sc v, own.frm (frm0 _), frm0 _, fun c hb _ => hb⟩
end
end Go.Ab
