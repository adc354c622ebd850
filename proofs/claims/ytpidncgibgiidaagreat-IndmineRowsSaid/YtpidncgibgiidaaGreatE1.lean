/- Contracts: a builder of bytes: copyCheck, String. -/
import Derived.Test.YtpidncgibgiidaaGreatChecked
import Derived.Test.YtpidncgibgiidaaGreatZ11
import Derived.Test.YtpidncgibgiidaaGreatZ9
import Derived.Lib.Builder
import Derived.Lib.UnsafeStr
import Derived.Lib.Strings
import Derived.Lib.Slices
import Derived.Lib.Walk
import Derived.WalkKit
import Derived.Laws.Externs
import Derived.BigCall
import Derived.BigGuard
set_option linter.unusedSimpArgs false
set_option linter.unusedVariables false
set_option linter.unusedSectionVars false
namespace Go.Proofs
open Go Go.RowKit
theorem Tryz.b_size : (Tryz.prog.info? 167).map (fun i => i.size) = some 2 := by kernel_rfl
theorem Tryz.b_lies : liesAt Tryz.prog Tryz.prog.depth 167 (2 / Tryz.prog.cellsOf 167) 0 167 1 = true := by kernel_rfl
theorem Tryz.b_u75 : Tryz.prog.underlying 217 = some .unsafePointer := by kernel_rfl
theorem Tryz.b_u32 : Tryz.prog.underlying 165 = some (.pointer 167) := by kernel_rfl
theorem Tryz.b_c5 : Tryz.prog.cellsOf 5 = 1 := by kernel_rfl
theorem Tryz.b_u62 : Tryz.prog.underlying 203 = some (.pointer 5) := by kernel_rfl
set_option maxHeartbeats 1000000 in
set_option maxRecDepth 100000 in
theorem Tryz.cc_used (b : Nat) (w : World) (h0 : w.cell? ⟨b, 0, none⟩ = some (.pointer (some ⟨b, 0, none⟩))) :
    Calls Tryz.prog 182 #[.pointer (some ⟨b, 0, none⟩)] w fun e w' => e = .returned (.tuple #[]) ∧ w' = w := by
  obtain ⟨j, hj, hjs⟩ := Option.map_eq_some_iff.1 Tryz.b_size
  go_enter Tryz.func182, Tryz.ntmps182
  go_wp2
  rw [Lib.run_neq_ptr_same w _ Tryz.b_u32 hj]
  go_wp2
  go_end0
  exact ⟨rfl, rfl⟩
set_option maxHeartbeats 1000000 in
set_option maxRecDepth 100000 in
theorem Tryz.cc_fresh (b : Nat) (w : World) (h0 : w.cell? ⟨b, 0, none⟩ = some (.pointer none)) (hsh : w.shape? b = some (167, 2)) (hfz : w.frozen? ⟨b, 0, none⟩ = false) :
    Calls Tryz.prog 182 #[.pointer (some ⟨b, 0, none⟩)] w fun e w' => e = .returned (.tuple #[]) ∧ w' = w.setCell ⟨b, 0, none⟩ (.pointer (some ⟨b, 0, none⟩)) := by
  obtain ⟨j, hj, hjs⟩ := Option.map_eq_some_iff.1 Tryz.b_size
  go_enter Tryz.func182, Tryz.ntmps182
  go_wp2
  rw [Lib.run_to_unsafe w ⟨b, 0, none⟩ Tryz.b_u32 Tryz.b_u75 hj (by rw [hjs]; decide) hsh (Nat.zero_lt_succ 1)]
  simp only [Result.andThen]
  rw [Oper.upon_value]
  go_wp2
  rw [run_callFunc_extern Tryz.func201 (by kernel_rfl) (by kernel_rfl) (by kernel_rfl) (e := Extern.AbiNoEscape.same) (by kernel_rfl)]
  rw [Lib.run_noEscape]
  simp only [Result.andThen]
  rw [Oper.upon_value]
  go_wp2
  rw [Lib.run_from_unsafe w ⟨b, 0, none⟩ Tryz.b_u75 Tryz.b_u32 hj hsh Tryz.b_lies]
  simp only [Result.andThen]
  rw [Oper.upon_value]
  go_wp2
  go_end0
  exact ⟨rfl, rfl⟩
set_option maxHeartbeats 1000000 in
set_option maxRecDepth 100000 in
theorem Tryz.str_some (b g cap : Nat) (p : Value) (cur : Array Value) (l : List UInt8) (w : World) (h0 : l ≠ []) (hbk : w.heap[b]? = some (.cells #[p, .slice (some ⟨g, 0, none⟩) l.length cap] 167 (0, 0)))
    (hg : w.heap[g]? = some (.cells cur 5 (0, 0))) (hnc : l.length ≤ cap) (hcs : cur.size = cap) (hm : l.length ≤ 140737488355328) (hcell : ∀ j x, l[j]? = some x → w.cell? ⟨g, j, none⟩ = some (.int .u8 x.toNat)) :
    Calls Tryz.prog 140 #[.pointer (some ⟨b, 0, none⟩)] w fun e w' => e = .returned (.string ⟨l.toArray⟩) ∧ w' = w.drew.freeze ⟨g, 0, none⟩ l.length := by
  have hl0 : l.length ≠ 0 := by simpa using h0
  have c1 : w.drew.cell? ⟨b, 1, none⟩ = some (.slice (some ⟨g, 0, none⟩) l.length cap) := by
    have : w.drew.heap[b]? = some (.cells #[p, .slice (some ⟨g, 0, none⟩) l.length cap] 167 (0, 0)) := hbk
    rw [Lib.cell_of_heap this]; rfl
  have hSD : (Builtin.unsafeSliceData_ #[56] 203 #[.slice (some ⟨g, 0, none⟩) l.length cap]).run Tryz.prog w.drew = .ok (.pointer (some ⟨g, 0, none⟩)) w.drew :=
    Lib.run_unsafeSliceData_row _ _ _ _ _ _ (by omega)
  have hUS : (Builtin.unsafeString_ #[203, 3] 9 #[.pointer (some ⟨g, 0, none⟩), .int .i64 l.length]).run Tryz.prog w.drew = .ok (.string ⟨l.toArray⟩) (w.drew.freeze ⟨g, 0, none⟩ l.length) := by
    refine Lib.run_unsafeString_row w.drew 203 3 9 5 Tryz.b_u62 Tryz.b_c5 g cur.size (by have hg' : w.drew.heap[g]? = some (.cells cur 5 (0, 0)) := hg; simp [World.shape?, hg']) l h0 (by omega) (by omega) ?_
    intro j x hx
    have := hcell j x hx
    by_cases hj : j = 0
    · subst hj; exact this
    · simpa [Addr.add, hj] using this
  go_enter Tryz.func140, Tryz.ntmps140
  go_wp2
  go_region
  all_goals (go_wp2; go_ret; exact ⟨rfl, rfl⟩)
set_option maxHeartbeats 1000000 in
set_option maxRecDepth 100000 in
theorem Tryz.str_nil (b : Nat) (p : Value) (w : World) (hbk : w.heap[b]? = some (.cells #[p, .slice none 0 0] 167 (0, 0))) :
    Calls Tryz.prog 140 #[.pointer (some ⟨b, 0, none⟩)] w fun e w' => e = .returned (.string ⟨#[]⟩) ∧ w' = w.drew := by
  have c1 : w.drew.cell? ⟨b, 1, none⟩ = some (.slice none 0 0) := by
    have : w.drew.heap[b]? = some (.cells #[p, .slice none 0 0] 167 (0, 0)) := hbk
    rw [Lib.cell_of_heap this]; rfl
  have hSD : (Builtin.unsafeSliceData_ #[56] 203 #[.slice none 0 0]).run Tryz.prog w.drew = .ok (.pointer none) w.drew := rfl
  have hUS : (Builtin.unsafeString_ #[203, 3] 9 #[.pointer none, .int .i64 0]).run Tryz.prog w.drew = .ok (.string ⟨#[]⟩) w.drew := Lib.run_unsafeString_none w.drew _ _ _ none
  go_enter Tryz.func140, Tryz.ntmps140
  go_wp2
  go_region
  all_goals (go_wp2; go_ret; exact ⟨rfl, rfl⟩)
end Go.Proofs
namespace Go.Proofs.YtpidncgibgiidaaGreat
open Go Go.Ab
variable [Gl]
section
variable {M : Nat → Prop} {w : World} {h : Heap}
theorem arr1 {vs : Array Value} (h : vs.size = 1) : vs = #[vs.getD 0 undef] := by
  apply Array.ext
  · simpa using h
  · intro i h1 h2
    obtain rfl : i = 0 := by simp at h2; omega
    simp [h1]
theorem arr2 {vs : Array Value} (h : vs.size = 2) : vs = #[vs.getD 0 undef, vs.getD 1 undef] := by
  apply Array.ext
  · simpa using h
  · intro i h1 h2
    simp at h2
    rcases (by omega : i = 0 ∨ i = 1) with rfl | rfl <;> simp [h1]
theorem blk_of (own : Owns M h w) {b : Nat} {u : Value} {x y : SV} (hm : (b, Blk.svs [x, y]) ∈ h) (hu : Rep (envOf (hid M h) w) u (.opT b 167 2)) :
    u = .pointer (some ⟨b, 0, none⟩) ∧ ∃ p v, w.heap[b]? = some (.cells #[p, v] 167 (0, 0)) ∧ Rep (envOf (hid M h) w) p x ∧ Rep (envOf (hid M h) w) v y := by
  obtain ⟨c, e, hb, hl, hr⟩ := own.ok b _ hm rfl
  cases hu with
  | opT _ _ _ hs =>
    obtain ⟨c', e', fr, hb', hs', ht⟩ := hs
    rw [hb] at hb'
    cases hb'
    rcases ht with ht | ht
    · cases ht
    · cases ht
      have e0 := arr2 hs'
      refine ⟨rfl, c.getD 0 undef, c.getD 1 undef, by rw [← e0]; exact hb, ?_, ?_⟩
      · exact hr 0 (by simp [Blk.len])
      · exact hr 1 (by simp [Blk.len])
theorem copy_used (b : Nat) (v : SV) (h0 : Heap) : Ab.Call Tryz.prog 182 [.opT b 167 2] ((b, .svs [.op b 0, v]) :: h0) (fun r h' => r = .tup [] ∧ h' = (b, .svs [.op b 0, v]) :: h0) := by
  refine ⟨fun M w vs own hr => .inl ⟨⟨_, Tryz.func182, by kernel_rfl, by kernel_rfl⟩, ?_⟩⟩
  obtain ⟨e1, p, q, hb, hp, hq⟩ := blk_of own List.mem_cons_self (hr.2 0 (by simp))
  rw [arr1 hr.1, e1]
  have hp2 : p = .pointer (some ⟨b, 0, none⟩) := by cases hp; rfl
  subst hp2
  refine (Tryz.cc_used b w (by simp [World.cell?, hb])).mono fun e w' ⟨he, hw⟩ => ?_
  subst hw
  exact ⟨_, _, _, he, ⟨rfl, rfl⟩, .tup #[] [] rfl (fun j hj => absurd hj (by simp)), own, Frm.refl _ _, fun c hc _ => hc⟩
theorem copy_new (b : Nat) (v : SV) (h0 : Heap) : Ab.Call Tryz.prog 182 [.opT b 167 2] ((b, .svs [.sc (.pointer none), v]) :: h0) (fun r h' => r = .tup [] ∧ h' = (b, .svs [.op b 0, v]) :: h0) := by
  refine ⟨fun M w vs own hr => .inl ⟨⟨_, Tryz.func182, by kernel_rfl, by kernel_rfl⟩, ?_⟩⟩
  obtain ⟨e1, p, q, hb, hp, hq⟩ := blk_of own List.mem_cons_self (hr.2 0 (by simp))
  rw [arr1 hr.1, e1]
  have hp2 : p = .pointer none := by cases hp; rfl
  subst hp2
  refine (Tryz.cc_fresh b w (by simp [World.cell?, hb]) (by simp [World.shape?, hb]) (by simp [World.frozen?, hb])).mono fun e w' ⟨he, hw⟩ => ?_
  have own' := own.set (b := b) (off := 0) (k := .svs [.sc (.pointer none), v]) (v := .pointer (some ⟨b, 0, none⟩)) (s := .op b 0) List.mem_cons_self rfl (.op _ _)
  have hu : Heap.upd ((b, Blk.svs [.sc (.pointer none), v]) :: h0) b (Blk.set (.svs [.sc (.pointer none), v]) 0 (.op b 0)) = (b, .svs [.op b 0, v]) :: h0 := by
    rw [upd_cons, if_pos rfl]
    rfl
  rw [hu, ← hw] at own'
  have f : Frm (fun c => c = b) w w' := by rw [hw]; exact frm_set
  exact ⟨_, _, _, he, ⟨rfl, rfl⟩, .tup #[] [] rfl (fun j hj => absurd hj (by simp)), own', ⟨f.size, fun c hc hd => f.keep c hc (fun x => hd (by rw [x]; exact ⟨_, List.mem_cons_self⟩)), f.sizes, f.os, f.tape, f.output, f.drn⟩, fun c hc _ => by
    rcases has_cons.1 hc with rfl | hc
    · exact ⟨_, List.mem_cons_self⟩
    · exact has_cons.2 (.inr hc)⟩
theorem frm_freeze (w : World) (g n : Nat) : Frm (fun c => c = g) w (w.drew.freeze ⟨g, 0, none⟩ n) := by
  have hd : w.drew.heap = w.heap := rfl
  by_cases hn : n = 0
  · have e : w.drew.freeze ⟨g, 0, none⟩ n = w.drew := by simp [World.freeze, hn]
    rw [e]
    exact ⟨Nat.le_refl _, fun _ _ _ => rfl, fun _ _ x => x, rfl, rfl, rfl, by first | exact Nat.le_refl _ | exact Nat.le_succ _⟩
  · have hk : ∀ c, c ≠ g → (w.drew.freeze ⟨g, 0, none⟩ n).heap[c]? = w.heap[c]? := fun c hc => by
      simp [World.freeze, hn, hd, Array.getElem?_modify, Ne.symm hc]
    refine ⟨by simp [World.freeze, hn, hd], fun c _ hc => hk c hc, fun c m ⟨cs, e, fr, hc, hs⟩ => ?_, by simp [World.freeze, hn]; rfl, by simp [World.freeze, hn], by simp [World.freeze, hn]; rfl, by simp only [World.freeze, hn, if_false, ite_false]; exact Nat.le_succ _⟩
    by_cases hcg : c = g
    · subst hcg
      refine ⟨cs, e, ?_⟩
      simp [World.freeze, hn, hd, Array.getElem?_modify, hc, hs]
    · exact ⟨cs, e, fr, by rw [hk c hcg]; exact hc, hs⟩
theorem string_c (b g : Nat) (p : SV) (blk : Blk) (l : List UInt8) (hl0 : l ≠ []) (hlen : l.length ≤ 1000000) (hc : blk.cells = byts l) (h0 : Heap) :
    Ab.Call Tryz.prog 140 [.opT b 167 2] ((b, .svs [p, .ot g l.length 5]) :: (g, blk) :: h0) (fun r h' => r = Str ⟨l.toArray⟩ ∧ h' = h0) := by
  refine ⟨fun M w vs own hr => .inl ⟨⟨_, Tryz.func140, by kernel_rfl, by kernel_rfl⟩, ?_⟩⟩
  obtain ⟨e1, p', q, hb, hp, hq⟩ := blk_of own List.mem_cons_self (hr.2 0 (by simp))
  rw [arr1 hr.1, e1]
  have hgm : (g, blk) ∈ ((b, Blk.svs [p, .ot g l.length 5]) :: (g, blk) :: h0) := List.mem_cons_of_mem _ List.mem_cons_self
  have hbM : blk.isM = false := by
    cases blk with
    | mp m => exact absurd (List.map_eq_nil_iff.1 hc.symm) hl0
    | _ => rfl
  obtain ⟨cur, e, hg, hgl, hgr⟩ := own.ok g blk hgm hbM
  have hbl : blk.len = l.length := by rw [← Blk.length_cells, hc]; simp [byts]
  cases hq with
  | ot _ _ cap _ hcap hm =>
    obtain ⟨c', e', fr, hb', hs', ht⟩ := hm
    rw [hg] at hb'
    cases hb'
    rcases ht with ht | ht
    · cases ht
    · cases ht
      simp only at hs'
      refine (Tryz.str_some b g cap p' cur l w hl0 hb hg hcap hs' (by omega) (fun j x hx => ?_)).mono fun e w' ⟨he, hw⟩ => ?_
      · have hj : j < l.length := (List.getElem?_eq_some_iff.1 hx).1
        have h1 := hgr j (by omega)
        rw [← Blk.get_cells _ _ (by omega), hc] at h1
        have h2 : (byts l).getD j .any = .sc (.int .u8 x.toNat) := by simp [byts, List.getD_eq_getElem?_getD, hx]
        rw [h2] at h1
        have hjc : j < cur.size := by omega
        simp [hjc] at h1
        generalize cur[j] = u at h1
        have h3 : w.cell? ⟨g, j, none⟩ = some (cur.getD j undef) := by simp [World.cell?, hg, hjc]
        rw [h3]
        have h4 := hgr j (by omega)
        rw [← Blk.get_cells _ _ (by omega), hc, h2] at h4
        generalize cur.getD j undef = u at h4
        cases h4
        rfl
      · have f : Frm (fun c => c = g) w w' := by rw [hw]; exact frm_freeze w g _
        have hsub : ∀ c, Heap.has h0 c → Heap.has ((b, Blk.svs [p, .ot g l.length 5]) :: (g, blk) :: h0) c := fun c hc => has_cons.2 (.inr (has_cons.2 (.inr hc)))
        have hnd := own.nodup
        simp only [List.map_cons, List.nodup_cons, List.mem_cons, not_or] at hnd
        have hle : (envOf (hid M ((b, Blk.svs [p, .ot g l.length 5]) :: (g, blk) :: h0)) w).le (envOf (hid M h0) w') :=
          env_le f (fun c hc _ => .inr (by rw [hc]; exact ⟨_, hgm⟩)) (fun c _ x => x.imp id (hsub c))
        refine ⟨_, _, _, he, ⟨rfl, rfl⟩, .sc _, ?_, ⟨f.size, fun c hc hd => f.keep c hc (fun x => hd (by rw [x]; exact ⟨_, hgm⟩)), f.sizes, f.os, f.tape, f.output, f.drn⟩, fun c hc _ => hsub c hc⟩
        refine ⟨hnd.2.2, fun c hc hm => own.notM c (hsub c hc) hm, fun c hm => Nat.lt_of_lt_of_le (own.lt c hm) f.size, fun c k hk hkM => ?_, fun c m hk => ?_, own.gl.mono hle⟩
        rotate_left
        · obtain ⟨es, ck, h1, h2⟩ := own.mp c m (List.mem_cons_of_mem _ (List.mem_cons_of_mem _ hk))
          exact ⟨es, ck, by rw [f.keep c (own.has_lt (hsub c ⟨_, hk⟩)) (fun x => hnd.2.1 (by rw [← x]; exact List.mem_map.2 ⟨_, hk, rfl⟩))]; exact h1, h2⟩
        obtain ⟨c2, e2, h1, h2, h3⟩ := own.ok c k (List.mem_cons_of_mem _ (List.mem_cons_of_mem _ hk)) hkM
        refine ⟨c2, e2, ?_, h2, fun i hi => (h3 i hi).mono hle⟩
        rw [f.keep c (own.has_lt (hsub c ⟨k, hk⟩)) (fun x => hnd.2.1 (by rw [← x]; exact List.mem_map.2 ⟨_, hk, rfl⟩))]
        exact h1
theorem string_n (b : Nat) (p : SV) (h0 : Heap) : Ab.Call Tryz.prog 140 [.opT b 167 2] ((b, .svs [p, .nt]) :: h0) (fun r h' => r = Str ⟨#[]⟩ ∧ h' = h0) := by
  refine ⟨fun M w vs own hr => .inl ⟨⟨_, Tryz.func140, by kernel_rfl, by kernel_rfl⟩, ?_⟩⟩
  obtain ⟨e1, p', q, hb, hp, hq⟩ := blk_of own List.mem_cons_self (hr.2 0 (by simp))
  rw [arr1 hr.1, e1]
  have hq2 : q = .slice none 0 0 := by cases hq; rfl
  subst hq2
  refine (Tryz.str_nil b p' w hb).mono fun e w' ⟨he, hw⟩ => ?_
  have f : Frm (fun _ => False) w w' := by rw [hw]; exact ⟨Nat.le_refl _, fun _ _ _ => rfl, fun _ _ x => x, rfl, rfl, rfl, by first | exact Nat.le_refl _ | exact Nat.le_succ _⟩
  have hnd := own.nodup
  rw [List.map_cons, List.nodup_cons] at hnd
  have own' := (own.frm f).sub (h' := h0) hnd.2 (fun x hx => List.mem_cons_of_mem _ hx)
  exact ⟨_, _, _, he, ⟨rfl, rfl⟩, .sc _, own', ⟨f.size, fun c hc hd => f.keep c hc (fun x => x), f.sizes, f.os, f.tape, f.output, f.drn⟩, fun c hc _ => has_cons.2 (.inr hc)⟩
end
end Go.Proofs.YtpidncgibgiidaaGreat
