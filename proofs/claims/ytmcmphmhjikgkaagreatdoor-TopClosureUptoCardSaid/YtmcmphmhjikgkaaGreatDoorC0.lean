/- The builtin clear at the last cell of an owned slice. -/
import Derived.Test.YtmcmphmhjikgkaaGreatDoorZ13
import Derived.Lib.SliceRun
set_option linter.unusedSimpArgs false
set_option linter.unusedVariables false
set_option linter.unusedSectionVars false
namespace Go.Ab
open Go Go.RowKit
section
variable {P : Program} {M : Nat → Prop} {w0 : World} {D : Nat → Prop} {N : Nat}

theorem vcOps_last [Gl] {ops : List Oper} {Q : Exit → Act → World → Prop} {K : St → Prop} {o : Oper} (hK : ∀ S a w, K S → Rel M w0 D N S a w → wpList P ops.toArray Q [o] a w) :
    ∀ (l : List Oper) (S : St) (a : Act) (w : World), vcOps P N ops l K S → Rel M w0 D N S a w → wpList P ops.toArray Q (l ++ [o]) a w
  | [], S, a, w, h, hr => hK S a w h hr
  | o :: r, S, a, w, h, hr => by
    obtain ⟨S', hr', h'⟩ := gstep_sound (ops := ops) hr h
    refine wpList_step fun K' hK' => ?_
    rcases h' with ⟨hw, hA⟩ | ⟨hw, hd, hB⟩
    · rw [if_pos hw]
      exact Oper.wp_mono (fun a' w' ⟨S'', h1, h2⟩ => hK' a' w' (vcOps_last hK r S'' a' w' h1 h2)) (stepK_sound hr' hA)
    · rw [if_neg (by rw [hw]; simp)]
      exact hK' _ _ (vcOps_last hK r _ _ _ hB (hr'.put' hd (.sc _)))

/-- What stands behind clearing a slice of one element. -/
def clrK [Gl] (x : Operand) (K : St → Prop) (S : St) : Prop := ∃ b off k, S.ev x = .os b off 1 1 ∧ S.h.find b = some k ∧ off < k.len ∧ k.isM = false ∧ K ⟨S.t, S.h.upd b (k.set off (.sc (.slice none 0 0)))⟩
/-- A region whose last operation clears a slice of one element. -/
theorem SW.region_clear [Gl] {id : Nat} {l : List Oper} {o : Oper} {x : Operand} {t e : TypeId} {Q : Exit → St → Prop} {S : St} (g : o.guard = none) (d : o.dst = none) (hop : o.op = .call ⟨.builtin .clear, ⟨[x]⟩, ⟨[t]⟩⟩)
    (hu : P.underlying t = some (.slice e)) (hz0 : (P.info? e).bind (fun i => i.zero) = some (.slice none 0 0))
    (h : vcOps P N (l ++ [o]) l (clrK x (Q .normal)) S) :
    SW P N (.region id (l ++ [o]).toArray false) Q S := SW.mk fun M w0 D a w hr => by
  have hz : ∀ w, (zeroValue e).run P w = .ok (.slice none 0 0) w := fun w => by
    cases hi : P.info? e with
    | none => rw [hi] at hz0; cases hz0
    | some i => rw [hi] at hz0; exact run_zeroValue hi hz0
  refine wp_region_list ?_
  simp only [List.toList_toArray]
  refine vcOps_last ?_ l S a w h hr
  clear h hr
  rintro S a w ⟨b, off, k, hx, hk, hlt, hkM, hQ⟩ hr
  refine wpList_plain g fun K' hK' => ?_
  have hv := hr.ev x
  rw [hx] at hv
  have hm := Heap.find_mem hk
  obtain ⟨w', hrun, own', frm⟩ := storeCells_run (P := P) [Value.slice none 0 0] [SV.sc (.slice none 0 0)] off 0 w S.h k hr.own hm rfl (by simp only [List.length_cons, List.length_nil]; omega)
    (fun j hj => by obtain rfl : j = 0 := by (simp at hj; omega)
                    exact .sc _) (fun j hj => by obtain rfl : j = 0 := by (simp at hj; omega)
                                                 rfl)
  generalize hxv : a.eval x = xv at hv
  cases hv with
  | os _ _ _ cap _ m hc hsz hb =>
    have hexec : (execOp a.eval o).run P w = .ok (.value (.tuple #[])) w' := by
      have : (Builtin.clear_ #[t] o.type #[.slice (some ⟨b, off, none⟩) 1 cap]).run P w = .ok (.tuple #[]) w' := by
        simp [Builtin.clear_, run_underlying hu, hz, Builtin.zeroCells, Value.cells, hrun]
      simp [execOp, hop, resolve, invoke, builtin, hxv, this]
    unfold Oper.wp
    rw [hexec]
    refine hK' _ w' (wpList_nil ?_)
    rw [d]
    refine ⟨_, hQ, ?_⟩
    exact hr.move frm (fun c hc _ => hc ▸ ⟨k, hm⟩) (by simpa [setN] using own') (fun c _ hc => has_upd.1 hc)
end
end Go.Ab
