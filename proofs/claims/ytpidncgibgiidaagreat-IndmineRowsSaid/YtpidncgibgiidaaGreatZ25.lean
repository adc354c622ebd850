/- The abstract layer, part Z25: arguments of a call are frozen as a state's temporaries are; a slice in a struct is frozen. -/
import Derived.Test.YtpidncgibgiidaaGreatZ13
set_option linter.unusedVariables false
set_option linter.unusedSectionVars false
set_option linter.unusedSimpArgs false
namespace Go.Ab
open Go.RowKit
section
variable {P : Program}
theorem St.le_freezeA [Gl] {t : List (Nat × SV)} {h : Heap} {i j b off len sz : Nat} {k : Blk} {cs : List SV} (hi : look t i = .agg cs) (hjl : j < cs.length) (hj : cs.getD j .any = .os b off len sz) (hk : h.find b = some k) (hle : off + len * sz ≤ k.len) (f : Nat → List SV)
    (hf : ∀ j, j < len → f j = getN k (off + j * sz) sz) : (St.mk t h).le ⟨(i, .agg (cs.set j (.fl len sz f))) :: t, h.del b⟩ := fun M w0 D N a w r => by
  have hd := St.le_del (t := t) (h := h) (b := b) M w0 D N a w r
  refine ⟨r.defers, r.n, fun q => ?_, hd.own, r.frm, hd.new⟩
  show Rep _ _ (look ((i, _) :: t) q)
  rw [look_if]
  by_cases hq : i = q
  · subst hq
    rw [if_pos rfl]
    have h1 := r.t i
    rw [hi] at h1
    generalize a.tmps.getD i undef = v at h1
    cases h1 with
    | agg c _ hl hr =>
      refine .agg c _ (by rw [List.length_set]; exact hl) (fun p hp => ?_)
      rw [List.length_set] at hp
      rw [getD_set hjl]
      by_cases hpj : j = p
      · subst hpj
        rw [if_pos rfl]
        have h2 := hr j hp
        rw [hj] at h2
        exact freeze_rep r.own hk hle f hf h2
      · rw [if_neg hpj]
        exact (hr p hp).mono (env_le (Frm.refl (fun _ => False) w) (fun _ x _ => x.elim) (fun b _ x => x.imp id (fun ⟨k', hk'⟩ => ⟨k', mem_del hk'⟩)))
  · rw [if_neg hq]
    exact hd.t q
theorem Call.ofSt [Gl] {f : FuncId} {args args2 : List SV} {h h2 : Heap} {Q : SV → Heap → Prop} (hl : args.length = args2.length) (hsub : ∀ b, h2.has b → h.has b) (hle : ∃ t2, (St.mk (argT 0 args) h).le ⟨t2, h2⟩ ∧ ∀ i, i < args2.length → look t2 i = args2.getD i .any) (hc : Call P f args2 h2 Q) : Call P f args h Q := by
  obtain ⟨t2, hle, ht2⟩ := hle
  refine Call.le hsub (fun M w vs own hr => ?_) hc
  have r : Rel M w (fun _ => True) vs.size (St.mk (argT 0 args) h) ⟨vs, []⟩ w := by
    refine ⟨rfl, rfl, fun i => ?_, own, Frm.refl _ _, fun _ _ _ => trivial⟩
    show Rep _ (vs.getD i undef) (look (argT 0 args) i)
    rw [look_argT _ _ _ (by omega), Nat.sub_zero]
    by_cases hi : i < args.length
    · exact hr.2 i hi
    · rw [List.getD_eq_getElem?_getD, List.getElem?_eq_none (by omega)]
      exact .any _
  have r2 := hle M w (fun _ => True) vs.size ⟨vs, []⟩ w r
  refine ⟨r2.own, by rw [hr.1, hl], fun i hi => ?_⟩
  have := r2.t i
  rw [show look (St.mk t2 h2).t i = _ from ht2 i hi] at this
  exact this
end
end Go.Ab
