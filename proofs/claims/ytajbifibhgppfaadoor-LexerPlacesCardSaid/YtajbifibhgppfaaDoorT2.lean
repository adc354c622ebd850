/- What comes in, with what the world's shape says of the library's own variable. -/
import Derived.Test.YtajbifibhgppfaaDoorM4
import Derived.Test.YtajbifibhgppfaaDoorI1
import Derived.Handed
import Derived.Shelf.Vars
set_option linter.unusedSimpArgs false
set_option linter.unusedVariables false
set_option linter.unusedSectionVars false
namespace Go.Proofs.YtajbifibhgppfaaDoor
open Go Go.Ab Go.Ab.A01 Go.Ab.A05 Go.ChangeShapes Go.WideShapes Go.ChangeAt Go.RowKit

/-- The frame of a law's proof, with the world's shape handed on. -/
theorem and_shaped {H : Type} {enc : TypeId × Value → H} {a : Assume} {C : Checked} {os : Os} {f : FuncId} {fn : Func} {s : ChangeSpec} {conds : List PathCond} {apart fresh handsOn again : Bool} {X : World → Array Value → Prop}
    (hX : ∀ (w w' : World) (args : Array Value), w.heap = w'.heap → X w args → X w' args)
    (own : ownKnob C.prog.godebug = .none) (started : os.Started) (noInit : C.prog.inits.idxOf? f = .none) (hfn : C.prog.funcs[f]? = some fn)
    (witness : ∃ (w : World) (tape : Tape) (i : Input), w.os = os ∧ (w.forCall tape i).Shaped C.prog ∧ i.vars = [] ∧ Input.okWide C.prog (w.forCall tape i) .any w.heap.size f i ∧
      ((s.pre enc C.prog fn conds apart (w.forCall tape i).memory i.args ∧ X (w.forCall tape i).memory i.args) ∧ sizedMet enc C.prog fn (OpenSpec.ofChange s) apart (w.forCall tape i).memory i.args) ∧ a.holds C.prog (lone (Frame.enter C.prog f i.args .normal) [] (w.forCall tape i)))
    (contract : ∀ (W : World) (base : Nat) (args : Array Value) (ds gs : List (DataW H)) (before : List MemPlace),
      (∀ (j : Nat) t v, fn.params[j]? = some t → args[j]? = some v → Value.okWide C.prog W .any base t v) →
      DataW.Whole enc C.prog fn.params.toList s.vars apart W args.toList ds gs before →
      conds.all (PathCond.test C.prog ⟨fn.params.toList, ds, s.plain.varTypes C.prog, gs⟩) = true →
      (DataW.weightsEach C.prog (fn.params.toList ++ s.plain.varTypes C.prog) (ds ++ gs)).all (· ≤ reachBytes) = true → X W args →
      W.ShapedOpen C.prog →
      a.holds C.prog (lone (Frame.enter C.prog f args .normal) [] W) →
      Calls C.prog f args W fun e W' => ∃ v, e = .returned v ∧ s.post enc C.prog fn apart fresh handsOn again W args v W') :
    ReturnsInHanded a C os f .any (fun w args => (s.pre enc C.prog fn conds apart w args ∧ X w args) ∧ sizedMet enc C.prog fn (OpenSpec.ofChange s) apart w args) (s.post enc C.prog fn apart fresh handsOn again) := by
  refine returnsInHanded_of_calls own started noInit witness ?_
  intro w tape i _ hsh _ hok hpre hholds
  obtain ⟨_, _, _, fn', hfn', _, _, _, _, hval⟩ := hok
  have e : fn' = fn := Option.some.inj (hfn'.symm.trans hfn)
  subst e
  obtain ⟨⟨⟨ds, gs, before, hw, hc⟩, hx⟩, hz⟩ := hpre
  have hw' := DataW.Whole.of_heap (w' := w.forCall tape i) (by rfl) hw
  refine (contract (w.forCall tape i) w.heap.size i.args ds gs before hval hw' hc (hz.weights hw) (hX _ _ _ (by rfl) hx) hsh hholds).mono fun e W' ⟨v, he, hp⟩ => ?_
  subst he
  exact ChangeSpec.post_blind hp

/-- What is known of the package-level variables. -/
@[reducible] def gM (m : Int) (a2 : TypeId) (b2 : Value) (a3 : TypeId) (b3 : Value) : Gl :=
  ⟨fun g => if g = 1 then .fp [.sc (.int .i64 m)] else (gE a2 b2 a3 b3).gl g, (gE a2 b2 a3 b3).sz⟩
theorem tabsM (m : Int) (a2 : TypeId) (b2 : Value) (a3 : TypeId) (b3 : Value) : @Tabs (gM m a2 b2 a3 b3) := @Tabs.mk (gM m a2 b2 a3 b3) rfl rfl ⟨a2, b2, rfl⟩ ⟨a3, b3, rfl⟩
theorem symsM (m : Int) (a2 : TypeId) (b2 : Value) (a3 : TypeId) (b3 : Value) : @Syms (gM m a2 b2 a3 b3) := @Syms.mk (gM m a2 b2 a3 b3) rfl
theorem mxM (m : Int) (a2 : TypeId) (b2 : Value) (a3 : TypeId) (b3 : Value) : @Mx (gM m a2 b2 a3 b3) := @Mx.mk (gM m a2 b2 a3 b3) ⟨m, rfl⟩
theorem gl_of_laidM {W : World} (h : laidMetH Tryd.prog Rows.lexerTokensRow.laid W) (hsh : W.ShapedOpen Tryd.prog) : ∃ m a2 b2 a3 b3, @GlOk (gM m a2 b2 a3 b3) (envOf (fun _ => False) W) := by
  obtain ⟨a2, b2, a3, b3, hgl⟩ := gl_of_laid h
  obtain ⟨m, hm⟩ := cell_of_shapedOpen_int (g := 1) (t := 3) (zero := #[.int .i64 0]) (k := .i64) hsh (of_decide_eq_true (by kernel_rfl)) (by kernel_rfl) rfl (by kernel_rfl) (by kernel_rfl) Tryd.underlying3
  refine ⟨m, a2, b2, a3, b3, fun g => ?_⟩
  by_cases h1 : g = 1
  · subst h1
    exact ⟨rep_fp1 ⟨id, hm⟩, fun x hx => by cases hx⟩
  · refine ⟨?_, (hgl g).2⟩
    show Rep _ _ (if g = 1 then _ else _)
    rw [if_neg h1]
    exact (hgl g).1
end Go.Proofs.YtajbifibhgppfaaDoor
