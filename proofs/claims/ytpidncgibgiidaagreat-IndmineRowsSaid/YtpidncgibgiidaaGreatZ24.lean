/- The abstract layer, part Z24: the builtin clear at the end of an owned block. -/
import Derived.Test.YtpidncgibgiidaaGreatZ13
import Derived.Lib.SliceRun
set_option linter.unusedVariables false
set_option linter.unusedSectionVars false
set_option linter.unusedSimpArgs false
namespace Go.Ab
open Go.RowKit
section
variable {P : Program} {M : Nat → Prop} {w0 : World} {D : Nat → Prop} {N : Nat}
theorem vcOps_lastQ [Gl] {ops : List Oper} {Q : Exit → Act → World → Prop} {K : St → Prop} {o : Oper} (hK : ∀ S a w, K S → Rel M w0 D N S a w → wpList P ops.toArray Q [o] a w) :
    ∀ (l : List Oper) (S : St) (a : Act) (w : World), vcOps P N ops l K S → Rel M w0 D N S a w → wpList P ops.toArray Q (l ++ [o]) a w
  | [], S, a, w, h, hr => hK S a w h hr
  | o :: r, S, a, w, h, hr => by
    obtain ⟨S', hr', h'⟩ := gstep_sound (ops := ops) hr h
    refine wpList_step fun K' hK' => ?_
    rcases h' with ⟨hw, hA⟩ | ⟨hw, hd, hB⟩
    · rw [if_pos hw]
      exact Oper.wp_mono (fun a' w' ⟨S'', h1, h2⟩ => hK' a' w' (vcOps_lastQ hK r S'' a' w' h1 h2)) (stepK_sound hr' hA)
    · rw [if_neg (by rw [hw]; simp)]
      exact hK' _ _ (vcOps_lastQ hK r _ _ _ hB (hr'.put' hd (.sc _)))
theorem setAll_take : ∀ (cs l : List SV) (off : Nat), (setAll l off cs).take off = l.take off
  | [], l, off => rfl
  | c :: r, l, off => by
    unfold setAll
    have h := setAll_take r (l.set off c) (off + 1)
    have h2 := congrArg (List.take off) h
    rw [List.take_take, List.take_take, Nat.min_eq_left (by omega)] at h2
    rw [h2]
    exact List.take_set_of_le (Nat.le_refl _)
theorem map_sc_getD (L : List Value) (j : Nat) (hj : j < L.length) : (L.map SV.sc).getD j .any = .sc (L.getD j undef) := by
  simp [List.getD_eq_getElem?_getD, hj]
def clrK2 [Gl] (sz : Nat) (x : Operand) (K : St → Prop) (S : St) : Prop := (∃ f, S.ev x = .fl 0 sz f ∧ K S) ∨ ∃ b off n k, S.ev x = .os b off n sz ∧ S.h.find b = some k ∧ off + n * sz ≤ k.len ∧ k.isM = false ∧ ∀ k' : Blk, k'.cells.take off = k.cells.take off → k'.isM = false → K ⟨S.t, S.h.upd b k'⟩
theorem SW.region_clr [Gl] {id : Nat} {l : List Oper} {o : Oper} {x : Operand} {t e : TypeId} {Q : Exit → St → Prop} {S : St} {zv : Value} (g : o.guard = none) (d : o.dst = none) (hop : o.op = .call ⟨.builtin .clear, ⟨[x]⟩, ⟨[t]⟩⟩)
    (hu : P.underlying t = some (.slice e)) (hz0 : (P.info? e).bind (fun i => i.zero) = some zv) (hone : zv.cells.toList.all (fun v => v.oneCell') = true) (sz : Nat) (hsz : zv.cells.size = sz)
    (h : vcOps P N (l ++ [o]) l (clrK2 sz x (Q .normal)) S) :
    SW P N (.region id (l ++ [o]).toArray false) Q S := SW.mk fun M w0 D a w hr => by
  subst hsz
  have hz : ∀ w, (zeroValue e).run P w = .ok zv w := fun w => by
    cases hi : P.info? e with
    | none => rw [hi] at hz0; cases hz0
    | some i => rw [hi] at hz0; exact run_zeroValue hi hz0
  refine wp_region_list ?_
  simp only [List.toList_toArray]
  refine vcOps_lastQ ?_ l S a w h hr
  clear h hr
  rintro S a w (⟨f, hx, hQ⟩ | ⟨b, off, n, k, hx, hk, hle, hkM, hQ⟩) hr
  · refine wpList_plain g fun K' hK' => ?_
    have hv := hr.ev x
    rw [hx] at hv
    generalize hxv : a.eval x = xv at hv
    have hexec : (execOp a.eval o).run P w = .ok (.value (.tuple #[])) w := by
      cases hv with
      | fl => 
        have : ∀ aa cap, (Builtin.clear_ #[t] o.type #[.slice (some aa) 0 cap]).run P w = .ok (.tuple #[]) w := fun aa cap => by simp [Builtin.clear_, run_underlying hu]
        simp [execOp, hop, resolve, invoke, builtin, hxv, this]
      | _ =>
        have : ∀ aa cap, (Builtin.clear_ #[t] o.type #[.slice aa 0 cap]).run P w = .ok (.tuple #[]) w := fun aa cap => by
          cases aa <;> simp [Builtin.clear_, run_underlying hu]
        simp [execOp, hop, resolve, invoke, builtin, hxv, this]
    unfold Oper.wp
    rw [hexec]
    refine hK' _ w (wpList_nil ?_)
    rw [d]
    exact ⟨_, hQ, hr⟩
  refine wpList_plain g fun K' hK' => ?_
  have hv := hr.ev x
  rw [hx] at hv
  have hm := Heap.find_mem hk
  have hzs : (Builtin.zeroCells zv.cells n).size = n * zv.cells.size := by simp [Builtin.zeroCells]
  obtain ⟨w', hrun, own', frm⟩ := storeCells_run (P := P) (Builtin.zeroCells zv.cells n).toList ((Builtin.zeroCells zv.cells n).toList.map SV.sc) off 0 w S.h k hr.own hm (by simp) (by rw [List.length_map, Array.length_toList, hzs]; omega)
    (fun j hj => by
      rw [List.length_map] at hj
      have e1 := map_sc_getD _ j hj
      rw [e1]
      exact .sc _) (fun j hj => by
      rw [List.length_map, Array.length_toList] at hj
      have hj2 := hj
      rw [hzs] at hj2
      have hp : 0 < zv.cells.size := by
        rcases Nat.eq_zero_or_pos zv.cells.size with h | h
        · rw [h] at hj2; omega
        · exact h
      have hmz : j % zv.cells.size < zv.cells.size := Nat.mod_lt _ hp
      have e2 : (Builtin.zeroCells zv.cells n).toList.getD j undef = zv.cells.toList.getD (j % zv.cells.size) undef := by
        rw [← getD_toList]
        exact mkCells zv.cells n j hj2
      rw [e2]
      have := List.all_eq_true.1 hone (zv.cells.toList.getD (j % zv.cells.size) undef) (by
        rw [getD_list _ _ _ (by simpa using hmz)]
        exact List.getElem_mem _)
      exact this)
  have hkM2 : (setN k (off + 0) ((Builtin.zeroCells zv.cells n).toList.map SV.sc)).isM = false := by rw [isM_setN]; exact hkM
  have hQ2 := hQ (setN k (off + 0) ((Builtin.zeroCells zv.cells n).toList.map SV.sc)) (by
    rw [setN_cells, Nat.add_zero]
    exact setAll_take _ _ _) hkM2
  generalize hxv : a.eval x = xv at hv
  cases hv with
  | os _ _ _ cap _ m hc hsz hb =>
    rcases Nat.eq_zero_or_pos n with rfl | hn
    · have hexec : (execOp a.eval o).run P w = .ok (.value (.tuple #[])) w := by
        have : (Builtin.clear_ #[t] o.type #[.slice (some ⟨b, off, none⟩) 0 cap]).run P w = .ok (.tuple #[]) w := by simp [Builtin.clear_, run_underlying hu]
        simp [execOp, hop, resolve, invoke, builtin, hxv, this]
      unfold Oper.wp
      rw [hexec]
      refine hK' _ w (wpList_nil ?_)
      rw [d]
      have hk2 : S.h.upd b k = S.h := upd_self hr.own.nodup hm
      refine ⟨_, hQ k rfl hkM, ?_⟩
      rw [hk2]
      exact hr
    have hexec : (execOp a.eval o).run P w = .ok (.value (.tuple #[])) w' := by
      have : (Builtin.clear_ #[t] o.type #[.slice (some ⟨b, off, none⟩) n cap]).run P w = .ok (.tuple #[]) w' := by
        have hnn : n ≠ 0 := by omega
        simp [Builtin.clear_, run_underlying hu, hz, hnn, hrun]
      simp [execOp, hop, resolve, invoke, builtin, hxv, this]
    unfold Oper.wp
    rw [hexec]
    refine hK' _ w' (wpList_nil ?_)
    rw [d]
    refine ⟨_, hQ2, ?_⟩
    exact hr.move frm (fun c hc _ => hc ▸ ⟨k, hm⟩) own' (fun c _ hc => has_upd.1 hc)
end
end Go.Ab
