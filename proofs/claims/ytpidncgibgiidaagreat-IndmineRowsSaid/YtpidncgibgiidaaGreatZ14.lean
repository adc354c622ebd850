/- The abstract layer, part Z14: a slice that is only read, compared with nil. -/
import Derived.Test.YtpidncgibgiidaaGreatZ13
import Derived.Lib.SliceRun
set_option linter.unusedSimpArgs false
set_option linter.unusedVariables false
set_option linter.unusedSectionVars false
namespace Go.Ab
open Go.RowKit
theorem SW.region_nil [Gl] {P : Program} {N id n sz : Nat} {i j k : Tmp} {ty e rt : TypeId} {o1 o2 : Oper} {f : Nat → List SV} {Q : Exit → St → Prop} {S : St}
    (g1 : o1.guard = none) (p1 : o1.op = .move (.tmp i)) (d1 : o1.dst = some j) (g2 : o2.guard = none) (p2 : o2.op = .binOp .eql ty (.tmp j) (.const (.slice none 0 0)) rt) (d2 : o2.dst = some k)
    (hu : P.underlying ty = some (.slice e)) (hx : look S.t i = .fl n sz f) (hj : j < N) (hk : k < N)
    (h1 : n = 0 → Q .normal ((S.put (some j) (.fl n sz f)).put (some k) (.sc (.bool true)))) (h2 : Q .normal ((S.put (some j) (.fl n sz f)).put (some k) (.sc (.bool false)))) :
    SW P N (.region id #[o1, o2] false) Q S := SW.mk fun M w0 D a w hr => by
  refine wp_region_list ?_
  have hv := hr.t i
  rw [hx] at hv
  have r1 := hr.put' (d := some j) hj hv
  refine wpList_plain g1 fun K hK => ?_
  unfold Oper.wp
  rw [show (execOp a.eval o1).run P w = .ok (.value (a.tmps.getD i undef)) w by unfold execOp; rw [p1]; rfl]
  refine hK (a.put o1.dst (a.tmps.getD i undef)) w ?_
  rw [d1]
  refine wpList_plain g2 fun K' hK' => ?_
  have hy := r1.t j
  have hlj : look (S.put (some j) (.fl n sz f)).t j = .fl n sz f := by
    show look ((j, SV.fl n sz f) :: S.t) j = _
    rw [look_cons, show Nat.beq j j = true by rw [Nat.beq_eq]]
    rfl
  rw [hlj] at hy
  have hev : (a.put (some j) (a.tmps.getD i undef)).eval (.tmp j) = (a.put (some j) (a.tmps.getD i undef)).tmps.getD j undef := rfl
  obtain ⟨b, hrun, hb⟩ : ∃ b, (execOp (a.put (some j) (a.tmps.getD i undef)).eval o2).run P w = .ok (.value (.bool b)) w ∧ (b = true → n = 0) := by
    generalize a.put (some j) (a.tmps.getD i undef) = a' at hy hev
    unfold execOp
    rw [p2]
    simp only [hev, show a'.eval (.const (.slice none 0 0)) = .slice none 0 0 from rfl]
    generalize a'.tmps.getD j undef = u at hy
    cases hy with
    | fl0 ad cap _ _ =>
      refine ⟨ad.isNone, run_asNext ?_, fun _ => rfl⟩
      have := Lib.run_eql_slice_nil w ty e ad 0 cap 0 0 hu
      simpa [eqGuard, Sem.run_bind] using this
    | fl b off _ cap _ _ val hc hl hs hr =>
      refine ⟨false, run_asNext ?_, fun h => by cases h⟩
      have := Lib.run_eql_slice_nil w ty e (some ⟨b, off, none⟩) n cap 0 0 hu
      simpa [eqGuard, Sem.run_bind] using this
  unfold Oper.wp
  rw [hrun]
  refine hK' (Act.put _ o2.dst (.bool b)) w (wpList_nil ?_)
  rw [d2]
  have r2 := r1.put' (d := some k) hk (v := .bool b) (s := .sc (.bool b)) (.sc _)
  cases b with
  | true => exact ⟨_, h1 (hb rfl), r2⟩
  | false => exact ⟨_, h2, r2⟩
end Go.Ab
