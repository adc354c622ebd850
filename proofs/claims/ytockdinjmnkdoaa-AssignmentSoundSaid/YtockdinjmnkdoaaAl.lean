/- Append, run. -/
import Derived.Test.YtockdinjmnkdoaaAk
namespace Go.Ab
open Go.RowKit

theorem find_of_mem {h : Heap} {b : Nat} {k : Blk} (hn : (h.map (·.1)).Nodup) (hm : (b, k) ∈ h) : h.find b = some k := by
  induction h with
  | nil => cases hm
  | cons x r ih =>
    obtain ⟨c, k0⟩ := x
    rw [List.map_cons, List.nodup_cons] at hn
    simp only [Heap.find]
    rcases List.mem_cons.1 hm with hm | hm
    · cases hm; rw [if_pos rfl]
    · have : c ≠ b := fun e => hn.1 (has_map.1 ⟨k, e ▸ hm⟩)
      rw [if_neg this]
      exact ih hn.2 hm

theorem Blk.len_svs (cs : List SV) : (Blk.svs cs).len = cs.length := rfl

theorem setN_cells : ∀ (cs : List SV) (k : Blk) (off : Nat), (setN k off cs).cells = setAll k.cells off cs
  | [], _, _ => rfl
  | c :: r, k, off => by rw [setN, setN_cells r, Blk.cells_set, setAll]

theorem setAll_fill : ∀ (cs l r : List SV), r.length = cs.length → setAll (l ++ r) l.length cs = l ++ cs
  | [], l, r, h => by
    have : r = [] := by simpa using h
    subst this; rfl
  | c :: cs, l, [], h => by simp at h
  | c :: cs, l, x :: r, h => by
    rw [setAll]
    have e : (l ++ x :: r).set l.length c = (l ++ [c]) ++ r := by simp
    rw [e, show l.length + 1 = (l ++ [c]).length by simp, setAll_fill cs (l ++ [c]) r (by simpa using h)]
    simp

theorem setN_fill (l cs : List SV) : (setN (Blk.svs (l ++ List.replicate cs.length .any)) l.length cs).cells = l ++ cs := by
  rw [setN_cells]
  exact setAll_fill cs l _ (by simp)

theorem growBy_le (n : Nat) : ∀ r c, c ≤ n + (n + 768) / 4 → Builtin.growBy n r c ≤ n + (n + 768) / 4
  | 0, c, h => h
  | r + 1, c, h => by
    unfold Builtin.growBy
    split
    · exact h
    · exact growBy_le n r _ (by omega)

theorem nextcap_le {need old : Nat} (h : old < need) : Builtin.nextslicecap need old ≤ 2 * need := by
  unfold Builtin.nextslicecap
  split
  · omega
  · split
    · omega
    · have := growBy_le need 4 old (by omega)
      omega

section
variable {P : Program} {M : Nat → Prop} {h : Heap} {w : World}

/-- One draw later. -/
def drw (w : World) : World := { w with drawn := w.drawn + 1 }

theorem frm_drw (D : Nat → Prop) (w : World) : Frm D w (drw w) := ⟨Nat.le_refl _, fun _ _ _ => rfl, fun _ _ h => h, rfl, rfl, rfl⟩
theorem env_drw (X : Nat → Prop) (w : World) : (envOf X w).le (envOf X (drw w)) := ⟨fun _ _ h => h, fun _ _ h => h⟩
theorem Owns.drw (own : Owns M h w) : Owns M h (drw w) :=
  ⟨own.nodup, own.notM, own.lt, fun b k hk => let ⟨c, e, h1, h2, h3⟩ := own.ok b k hk; ⟨c, e, h1, h2, fun i hi => (h3 i hi).mono (env_drw _ _)⟩⟩

theorem heap_drw (w : World) : (drw w).heap = w.heap := rfl

theorem notInt_run {t : TypeId} (hn : notInt P t = true) : ∃ d, P.underlying t = some d ∧ (match d with | .int _ => true | _ => false) = false := by
  unfold notInt at hn
  split at hn
  · cases hn
  · rename_i d hd _
    refine ⟨d, by assumption, ?_⟩
    cases d <;> simp_all
  · cases hn

theorem run_choose_cap (need old e : Nat) : (choose (.appendCap need old e)).run P w = .ok (need + (w.tape w.drawn (.appendCap need old e)) % (2 ^ 63 - need)) (drw w) := by
  simp [Question.forced, Question.cut, drw]

theorem getD_append3 {a b c : Array Value} {i : Nat} : (a ++ b ++ c).getD i undef = if i < a.size then a.getD i undef else if i < a.size + b.size then b.getD (i - a.size) undef else c.getD (i - a.size - b.size) undef := by
  simp only [Array.getD_eq_getD_getElem?, Array.getElem?_append, Array.size_append]
  split
  · rename_i h
    split
    · rfl
    · rfl
  · rename_i h
    rw [if_neg (by omega)]
    congr 2
    omega

/-- A new block for what was there and what is appended. -/
theorem grow_owns (own : Owns M h w) {oc nc rest : Array Value} {e : TypeId} {os cs : List SV} {k' : Blk} (hk : k'.cells = os ++ cs) (h1 : oc.size = os.length) (h2 : nc.size = cs.length)
    (r1 : ∀ i, i < os.length → Rep (envOf (hid M h) w) (oc.getD i undef) (os.getD i .any)) (r2 : ∀ i, i < cs.length → Rep (envOf (hid M h) w) (nc.getD i undef) (cs.getD i .any)) :
    Owns M (((drw w).heap.size, k') :: h) (alc (drw w) (oc ++ nc ++ rest) e) := by
  have hlen : k'.len = os.length + cs.length := by rw [← Blk.length_cells, hk, List.length_append]
  refine Owns.alc own.drw (by simp; omega) (fun i hi => ?_)
  rw [← Blk.get_cells _ _ hi, hk, getD_append3]
  by_cases hio : i < os.length
  · rw [if_pos (by omega), List.getD_eq_getElem?_getD, List.getElem?_append_left hio, ← List.getD_eq_getElem?_getD]
    exact r1 i hio
  · rw [if_neg (by omega), if_pos (by omega), List.getD_eq_getElem?_getD, List.getElem?_append_right (by omega), ← List.getD_eq_getElem?_getD, h1]
    exact r2 _ (by omega)

theorem append_in {st xt ty : TypeId} {u' : Value} {e n sLen sCap : Nat} {a : Addr} {i : TypeInfo} {c : Array Value} {w' : World} (hu : P.underlying st = some (.slice e)) (hin : P.info? e = some i) (hN : notInt P xt = true)
    (hlen : (Builtin.lenOf u').run P w = .ok n w) (hle : sLen + n ≤ sCap) (hc : (Builtin.firstCells i.size n u').run P w = .ok c w) (hst : (storeCells (a.add (sLen * i.size)) c.toList).run P w = .ok () w') :
    (Builtin.append_ #[st, xt] ty #[.slice (some a) sLen sCap, u']).run P w = .ok (.slice (some a) (sLen + n) sCap) w' := by
  obtain ⟨d, hd, hdi⟩ := notInt_run hN
  unfold Builtin.append_
  cases d <;> first | (simp at hdi; done) | skip
  all_goals
    simp only [Sem.run_bind, run_underlying hu, Result.andThen_ok, run_sizeOf_info hin, run_underlying hd, Sem.run_pure, hlen, Sem.run_ite, List.getElem?_toArray, List.getElem?_cons_zero, List.getElem?_cons_succ,
      Bool.false_eq_true, if_false, if_pos hle, Bool.not_false, if_true, hc, hst]

theorem append_grow {st xt ty : TypeId} {u' : Value} {e n sLen sCap : Nat} {base : Option Addr} {i : TypeInfo} {zv : Value} {oc nc : Array Value} (hu : P.underlying st = some (.slice e)) (hin : P.info? e = some i) (hN : notInt P xt = true)
    (hlen : (Builtin.lenOf u').run P w = .ok n w) (hle : ¬ sLen + n ≤ sCap) (hzv : i.zero = some zv)
    (hmax : ¬ (((sLen + n : Nat) : Int) > IntKind.i64.max ∧ (False ∨ i.bytes = 0))) (hcap : ¬ Builtin.nextslicecap (sLen + n) sCap * i.bytes > 2 ^ 48)
    (ho : (Builtin.firstCells i.size sLen (.slice base sLen sCap)).run P (drw w) = .ok oc (drw w)) (hn : (Builtin.firstCells i.size n u').run P (drw w) = .ok nc (drw w)) :
    ∃ newCap, sLen + n ≤ newCap ∧ (Builtin.append_ #[st, xt] ty #[.slice base sLen sCap, u']).run P w =
      .ok (.slice (some ⟨w.heap.size, 0, none⟩) (sLen + n) newCap) (alc (drw w) (oc ++ nc ++ Builtin.zeroCells zv.cells (newCap - (sLen + n))) e) := by
  obtain ⟨d, hd, hdi⟩ := notInt_run hN
  refine ⟨sLen + n + (w.tape w.drawn (.appendCap (sLen + n) sCap e)) % (2 ^ 63 - (sLen + n)), by omega, ?_⟩
  have hti : ∀ w, (typeInfo e).run P w = .ok i w := fun w => run_typeInfo hin w
  have hz := fun w => run_zeroValue (P := P) (w := w) hin hzv
  unfold Builtin.append_
  cases d <;> first | (simp at hdi; done) | skip
  all_goals
    simp only [Sem.run_bind, run_underlying hu, Result.andThen_ok, run_sizeOf_info hin, run_underlying hd, Sem.run_pure, hlen, Sem.run_ite, List.getElem?_toArray, List.getElem?_cons_zero, List.getElem?_cons_succ,
      Bool.false_eq_true, if_false, if_neg hle, Bool.not_false, if_true, hti, if_neg hmax, if_neg hcap, run_choose_cap, run_askRoom, ho, hn, hz, newRow, run_newObj]
    rfl

/-- The hypotheses of an append, whatever it is appended to. -/
structure AppHyp (P : Program) (M : Nat → Prop) (h : Heap) (w : World) (st xt : TypeId) (u' : Value) (x : SV) (e size bytes n : Nat) (z : List Value) (cs : List SV) : Prop where
  hx : Rep (envOf (hid M h) w) u' x
  hL : slk P st = some (e, size, bytes)
  hZ : zk P e = some z
  hN : notInt P xt = true
  hc : srcCells x h = some (n, cs)
  ho : srcOk size x h
  hz : z.length = size
  h0 : 0 < size

theorem append_nil {st xt ty : TypeId} {u' : Value} {x : SV} {e size bytes n : Nat} {z : List Value} {cs : List SV} (own : Owns M h w) (A : AppHyp P M h w st xt u' x e size bytes n z cs)
    (hb : n * bytes ≤ 140737488355328) (hn : n ≤ 140737488355328) (hpos : 0 < n) :
    ∃ r c, (Builtin.append_ #[st, xt] ty #[.slice none 0 0, u']).run P w = .ok r (alc (drw w) c e) ∧ Owns M ((w.heap.size, newB cs) :: h) (alc (drw w) c e) ∧
      Rep (envOf (hid M ((w.heap.size, newB cs) :: h)) (alc (drw w) c e)) r (.os w.heap.size 0 n size) := by
  obtain ⟨hx, hL, hZ, hN, hc, ho, hz, h0⟩ := A
  obtain ⟨i, hu, hin, rfl, rfl⟩ := slk_spec hL
  obtain ⟨i', zv, hi', hzv, rfl⟩ := zk_spec hZ
  rw [hin] at hi'; cases hi'
  have hlen := (src_sound (P := P) own hx hc ho).1
  obtain ⟨nc, hcr, hcs, hcn, hcrep⟩ := (src_sound (P := P) (w := drw w) own.drw (hx.mono (env_drw _ _)) hc ho).2
  have hsz : zv.cells.size = i.size := by simpa using hz
  obtain ⟨newCap, hge, hrun⟩ := append_grow (ty := ty) (base := none) (sLen := 0) (sCap := 0) (oc := #[]) (nc := nc) hu hin hN hlen (by omega) hzv (by rw [IntKind.max_i64]; omega)
    (by
      have h1 := nextcap_le (need := 0 + n) (old := 0) (by omega)
      have h2 := Nat.mul_le_mul_right i.bytes h1
      rw [Nat.mul_assoc, Nat.zero_add] at h2
      rw [Nat.zero_add]
      omega)
    (by simp [Builtin.firstCells]) hcr
  rw [Nat.zero_add] at hge hrun
  have own' := grow_owns (oc := #[]) (nc := nc) (rest := Builtin.zeroCells zv.cells (newCap - n)) (e := e) (os := []) (cs := cs) (k' := newB cs) own (by rw [newB_cells]; rfl) rfl hcs
    (fun i hi => absurd hi (by simp)) (fun i hi => (hcrep i hi).mono ⟨fun _ _ h => h, fun _ _ h => h⟩)
  refine ⟨_, _, hrun, own', .os _ 0 _ _ _ _ hge ⟨_, _, _, heap_alc_new, rfl⟩ ?_⟩
  simp only [Builtin.zeroCells, Array.size_append, Array.size_map, Array.size_range, hcs, hcn, hsz]
  simp
  rw [← Nat.add_mul]
  exact Nat.le_of_eq (by congr 1; omega)

theorem append_os {st xt ty : TypeId} {u u' : Value} {x : SV} {e size bytes n b len : Nat} {z : List Value} {cs : List SV} {k : Blk} (own : Owns M h w) (A : AppHyp P M h w st xt u' x e size bytes n z cs)
    (hs : Rep (envOf (hid M h) w) u (.os b 0 len size)) (hk : (b, k) ∈ h) (hlk : len * size = k.len) (hone : cs.all single = true)
    (hb : (len + n) * bytes ≤ 140737488355328) (hn : len + n ≤ 140737488355328) :
    ∃ r w' b', (Builtin.append_ #[st, xt] ty #[u, u']).run P w = .ok r w' ∧ fresh (h.del b) b' ∧ Owns M (h.ren b b' (appB k cs)) w' ∧ Frm (fun c => c = b) w w' ∧
      Rep (envOf (hid M (h.ren b b' (appB k cs))) w') r (.os b' 0 (len + n) size) ∧ (b' = b ∨ w.heap.size ≤ b') := by
  obtain ⟨hx, hL, hZ, hN, hc, ho, hz, h0⟩ := A
  obtain ⟨i, hu, hin, rfl, rfl⟩ := slk_spec hL
  obtain ⟨i', zv, hi', hzv, rfl⟩ := zk_spec hZ
  rw [hin] at hi'; cases hi'
  have hsz : zv.cells.size = i.size := by simpa using hz
  obtain ⟨hlen, nc, hcr, hcs, hcn, hcrep⟩ := src_sound (P := P) own hx hc ho
  obtain ⟨cb, eb, hheap, hkl, hkr⟩ := own.ok b k hk
  generalize hsv : SV.os b 0 len i.size = sv at hs
  cases hs <;> first | (cases hsv; done) | skip
  rename_i b0 off0 len0 cap sz0 m hcap hm hbm
  cases hsv
  have hmc : m = cb.size := size_unique hm ⟨cb, eb, _, hheap, rfl⟩
  by_cases hle : len + n ≤ cap
  · have hroom : (len + n) * i.size ≤ cap * i.size := Nat.mul_le_mul_right _ hle
    rw [Nat.add_mul] at hroom
    have hext : Owns M (h.upd b (.svs (k.cells ++ List.replicate (n * i.size) .any))) w := own.recell hk hheap (by simp only [Blk.len_svs, List.length_append, List.length_replicate, Blk.length_cells]; omega) (fun j hj => by
      simp only [Blk.len_svs, List.length_append, List.length_replicate, Blk.length_cells] at hj
      simp only [Blk.get]
      by_cases hjk : j < k.len
      · rw [List.getD_eq_getElem?_getD, List.getElem?_append_left (by rw [Blk.length_cells]; exact hjk), ← List.getD_eq_getElem?_getD, Blk.get_cells _ _ hjk]
        exact hkr j hjk
      · rw [List.getD_eq_getElem?_getD, List.getElem?_append_right (by rw [Blk.length_cells]; omega), ← List.getD_eq_getElem?_getD]
        rw [show (List.replicate (n * i.size) SV.any).getD (j - k.cells.length) .any = .any by simp [List.getD_eq_getElem?_getD, List.getElem?_replicate]; split <;> rfl]
        exact .any _)
    have hhid : hid M (h.upd b (.svs (k.cells ++ List.replicate (n * i.size) .any))) = hid M h := hid_upd
    obtain ⟨w', hrun, own', frm⟩ := storeCells_run (P := P) nc.toList cs (len * i.size) 0 w _ _ hext (mem_upd_self hk) (by simpa using hcs)
      (by simp only [Blk.len_svs, List.length_append, List.length_replicate, Blk.length_cells]; omega) (fun j hj => by rw [hhid, ← getD_toList]; exact hcrep j hj)
      (fun j hj => by rw [← getD_toList]; exact (single_spec (hcrep j hj) (all_mem hone hj)).1)
    rw [upd_upd] at own'
    have hcells : (setN (Blk.svs (k.cells ++ List.replicate (n * i.size) .any)) (len * i.size + 0) cs).cells = (appB k cs).cells := by
      rw [appB_cells, Nat.add_zero, hlk, ← Blk.length_cells k, ← hcn]
      exact setN_fill k.cells cs
    have own2 := own'.cells (k' := appB k cs) (mem_upd_self hk) hcells.symm
    rw [upd_upd] at own2
    refine ⟨.slice (some ⟨b, 0, none⟩) (len + n) cap, w', b, ?_, fresh_of (del_not own.nodup), by rw [ren_self]; exact own2, frm, ?_, .inl rfl⟩
    · refine append_in hu hin hN hlen hle hcr ?_
      rw [Addr.add_lit, Nat.zero_add]
      exact hrun
    · exact .os _ 0 _ _ _ m hle (frm.sizes _ _ hm) hbm
  · obtain ⟨nc, hcr, hcs, hcn, hcrep⟩ := (src_sound (P := P) (w := drw w) own.drw (hx.mono (env_drw _ _)) hc ho).2
    have hsl : Rep (envOf (hid M h) (drw w)) (.slice (some ⟨b, 0, none⟩) len cap) (.os b 0 len i.size) := .os _ 0 _ _ _ m hcap hm hbm
    have hfind : h.find b = some k := find_of_mem own.nodup hk
    obtain ⟨oc, hor, hos, hon, horep⟩ := (src_sound (P := P) (w := drw w) own.drw hsl (n := len) (size := i.size) (cs := getN k 0 (len * i.size)) (by simp [srcCells, hfind]) (by simp [srcOk, hfind]; omega)).2
    obtain ⟨newCap, hge, hrun⟩ := append_grow (ty := ty) (base := some ⟨b, 0, none⟩) (sLen := len) (sCap := cap) (oc := oc) (nc := nc) hu hin hN hlen hle hzv (by rw [IntKind.max_i64]; omega)
      (by
        have h1 := nextcap_le (need := len + n) (old := cap) (by omega)
        have h2 := Nat.mul_le_mul_right i.bytes h1
        rw [Nat.mul_assoc] at h2
        omega)
      hor hcr
    have hkc : getN k 0 (len * i.size) = k.cells := by
      rw [hlk]
      refine List.ext_getElem? (fun j => ?_)
      by_cases hj : j < k.len
      · have h1 := getD_getN k k.len 0 j hj
        have h2 := Blk.get_cells k j hj
        rw [getD_list _ _ _ (by rw [length_getN]; exact hj)] at h1
        rw [getD_list _ _ _ (by rw [Blk.length_cells]; exact hj)] at h2
        rw [List.getElem?_eq_getElem (by rw [length_getN]; exact hj), List.getElem?_eq_getElem (by rw [Blk.length_cells]; exact hj), h1, h2, Nat.zero_add]
      · rw [List.getElem?_eq_none (by rw [length_getN]; omega), List.getElem?_eq_none (by rw [Blk.length_cells]; omega)]
    rw [hkc] at hos horep
    have own' := grow_owns (oc := oc) (nc := nc) (rest := Builtin.zeroCells zv.cells (newCap - (len + n))) (e := e) (os := k.cells) (cs := cs) (k' := appB k cs) own (appB_cells k cs) hos hcs
      (fun i hi => (horep i hi).mono ⟨fun _ _ h => h, fun _ _ h => h⟩) (fun i hi => (hcrep i hi).mono ⟨fun _ _ h => h, fun _ _ h => h⟩)
    have hnew : ¬ h.has w.heap.size := fun hh => Nat.lt_irrefl _ (own.has_lt hh)
    have own2 := own'.sub (h' := h.ren b w.heap.size (appB k cs)) (nodup_ren own.nodup (fun hm => hnew (has_map.2 hm))) (fun x hx => by
      rcases mem_ren hx with rfl | hx
      · exact List.mem_cons_self
      · exact List.mem_cons_of_mem _ (mem_del hx))
    refine ⟨_, _, w.heap.size, hrun, fresh_of (fun ⟨k', hk'⟩ => hnew ⟨k', mem_del hk'⟩), own2, ?_, ?_, .inr (Nat.le_refl _)⟩
    · exact (frm_drw (fun c => c = b) w).trans (frm_alc (w := drw w) _ _) (fun _ _ x => x.elim)
    · refine .os _ 0 _ _ _ _ hge ⟨_, _, _, heap_alc_new, rfl⟩ ?_
      simp only [Builtin.zeroCells, Array.size_append, Array.size_map, Array.size_range, hcs, hcn, hos, hsz, Blk.length_cells, ← hlk]
      simp
      rw [← Nat.add_mul, ← Nat.add_mul]
      exact Nat.le_of_eq (by congr 1; omega)

end
end Go.Ab
