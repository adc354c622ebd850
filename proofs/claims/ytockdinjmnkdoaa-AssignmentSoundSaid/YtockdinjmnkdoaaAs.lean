/- Arguments that are handed on as data. -/
import Derived.Test.YtockdinjmnkdoaaAr
set_option linter.unusedVariables false
namespace Go.Ab
open Go.RowKit

section
variable {P : Program} {N : Nat} {M : Nat → Prop} {h : Heap} {w : World}

theorem freeze_rep (own : Owns M h w) {v : Value} {b off len sz : Nat} {k : Blk} (hk : h.find b = some k) (hle : off + len * sz ≤ k.len) (f : Nat → List SV) (hf : ∀ j, j < len → f j = getN k (off + j * sz) sz)
    (hv : Rep (envOf (hid M h) w) v (.os b off len sz)) : Rep (envOf (hid M (h.del b)) w) v (.fl len sz f) := by
  have hm := Heap.find_mem hk
  cases hv with
  | os _ _ _ cap _ m hc hsz hb =>
    obtain ⟨c, e, hbk, hl, hrep⟩ := own.ok b k hm
    refine .fl b off len cap sz f (fun p q => c.getD (off + p * sz + q) undef) hc (fun p hp => by rw [hf p hp, length_getN]) (fun p hp q hq => ⟨?_, ?_⟩) (fun p hp q hq => ?_)
    · rintro (x | x)
      · exact own.notM b ⟨k, hm⟩ x
      · exact del_not own.nodup x
    · have := index_lt (s := sz) hp
      have hlt : off + p * sz + q < c.size := by omega
      simp [World.cell?, hbk, hlt]
    · have := index_lt (s := sz) hp
      rw [hf p hp, getD_getN _ _ _ _ hq]
      exact (hrep _ (by omega)).mono (env_le (Frm.refl (fun _ => False) w) (fun _ x _ => x.elim) (fun b _ x => x.imp id (fun ⟨k', hk'⟩ => ⟨k', mem_del hk'⟩)))

theorem env_del (M : Nat → Prop) (h : Heap) (b : Nat) (w : World) : (envOf (hid M h) w).le (envOf (hid M (h.del b)) w) :=
  env_le (Frm.refl (fun _ => False) w) (fun _ x _ => x.elim) (fun b _ x => x.imp id (fun ⟨k', hk'⟩ => ⟨k', mem_del hk'⟩))

theorem has_del {b c : Nat} (hc : (h.del b).has c) : h.has c := by obtain ⟨k, hk⟩ := hc; exact ⟨k, mem_del hk⟩

/-- Less is handed to a call than there is. -/
theorem Call.le {f : FuncId} {args args2 : List SV} {h2 : Heap} {Q : SV → Heap → Prop} (hsub : ∀ b, h2.has b → h.has b)
    (hle : ∀ (M : Nat → Prop) (w : World) (vs : Array Value), Owns M h w → Reps (envOf (hid M h) w) vs args → Owns M h2 w ∧ Reps (envOf (hid M h2) w) vs args2) (hc : Call P f args2 h2 Q) : Call P f args h Q := by
  refine ⟨hc.1, fun M w vs own hr => ?_⟩
  obtain ⟨own2, hr2⟩ := hle M w vs own hr
  refine (hc.2 M w vs own2 hr2).mono fun e w' ⟨v, r, h', he, hq, hv, o1, frm, hh⟩ => ⟨v, r, h', he, hq, hv, o1, ?_, fun b hb hlt => hsub b (hh b hb hlt)⟩
  exact ⟨frm.size, fun b hb hn => frm.keep b hb (fun x => hn (hsub b x)), frm.sizes, frm.os, frm.tape, frm.output⟩

theorem getD_set {l : List SV} {i j : Nat} {v : SV} (hi : i < l.length) : (l.set i v).getD j .any = if i = j then v else l.getD j .any := by
  by_cases h : i = j
  · subst h; simp [List.getD_eq_getElem?_getD, hi]
  · simp [List.getD_eq_getElem?_getD, List.getElem?_set_ne h, h]

/-- An owned slice is handed to a call that reads it. -/
theorem Call.freeze {f : FuncId} {args : List SV} {Q : SV → Heap → Prop} (i : Nat) {b off len sz : Nat} {k : Blk} (g : Nat → List SV) (hi : i < args.length) (ha : args.getD i .any = .os b off len sz) (hk : h.find b = some k) (hle : off + len * sz ≤ k.len)
    (hg : ∀ j, j < len → g j = getN k (off + j * sz) sz) (hc : Call P f (args.set i (.fl len sz g)) (h.del b) Q) : Call P f args h Q := by
  refine Call.le (fun c hc => has_del hc) (fun M w vs own hr => ⟨own.sub (del_nodup own.nodup) (fun x hx => mem_del hx), by simpa using hr.1, fun j hj => ?_⟩) hc
  rw [getD_set hi]
  have h0 := hr.2 j (by simpa using hj)
  by_cases hij : i = j
  · subst hij
    rw [if_pos rfl]
    rw [ha] at h0
    exact freeze_rep own hk hle g hg h0
  · rw [if_neg hij]
    exact h0.mono (env_del M h b w)

theorem getN_one (k : Blk) (o : Nat) : getN k o 1 = [k.get o] := rfl

theorem get_of_cells {blk : Blk} {l : List SV} (hc : blk.cells = l) {j : Nat} (hj : j < l.length) : blk.get j = l.getD j .any := by
  rw [← hc, Blk.get_cells _ _ (by rw [← Blk.length_cells, hc]; exact hj)]

theorem Call.freeze_ints {f : FuncId} {args : List SV} {Q : SV → Heap → Prop} (i : Nat) {b n : Nat} {blk : Blk} (k : IntKind) (l : List Int) (hi : i < args.length) (ha : args.getD i .any = .os b 0 n 1) (hn : n = l.length) (hk : h.find b = some blk)
    (hb : blk.cells = l.map fun n => .sc (.int k n)) (hc : Call P f (args.set i (ints k l)) (h.del b) Q) : Call P f args h Q := by
  subst hn
  refine Call.freeze (k := blk) (sz := 1) (off := 0) i (fun j => [.sc (.int k (l.getD j 0))]) hi ha hk (by rw [← Blk.length_cells, hb]; simp) (fun j hj => ?_) hc
  rw [Nat.zero_add, Nat.mul_one, getN_one, get_of_cells hb (by simpa using hj)]
  simp [List.getD_eq_getElem?_getD, hj]

/-- The end of a function that hands back numbers that it owns. -/
theorem St.le_ints {t : List (Nat × SV)} {i b n : Nat} {blk : Blk} (k : IntKind) (l : List Int) (ha : look t i = .os b 0 n 1) (hn : n = l.length) (hk : h.find b = some blk) (hb : blk.cells = l.map fun n => .sc (.int k n)) :
    (St.mk t h).le ⟨(i, ints k l) :: t, h.del b⟩ := by
  subst hn
  refine St.le_freeze ha hk (by rw [← Blk.length_cells, hb]; simp) _ (fun j hj => ?_)
  rw [Nat.zero_add, Nat.mul_one, getN_one, get_of_cells hb (by simpa using hj)]
  simp [List.getD_eq_getElem?_getD, hj]

theorem St.le_mat {t : List (Nat × SV)} {i b n : Nat} {blk : Blk} (k : IntKind) (l : List (List Int)) (ha : look t i = .os b 0 n 1) (hn : n = l.length) (hk : h.find b = some blk) (hb : blk.cells = l.map fun r => ints k r) :
    (St.mk t h).le ⟨(i, mat k l) :: t, h.del b⟩ := by
  subst hn
  refine St.le_freeze ha hk (by rw [← Blk.length_cells, hb]; simp) _ (fun j hj => ?_)
  rw [Nat.zero_add, Nat.mul_one, getN_one, get_of_cells hb (by simpa using hj)]
  simp [List.getD_eq_getElem?_getD, hj]

theorem St.le_nil_ints {t : List (Nat × SV)} {i : Nat} (k : IntKind) (ha : look t i = .sc (.slice none 0 0)) : (St.mk t h).le ⟨(i, ints k []) :: t, h⟩ := St.le_say fun E u hr => by rw [ha] at hr; exact Rep.fl_nil hr
theorem St.le_nil_mat {t : List (Nat × SV)} {i : Nat} (k : IntKind) (ha : look t i = .sc (.slice none 0 0)) : (St.mk t h).le ⟨(i, mat k []) :: t, h⟩ := St.le_say fun E u hr => by rw [ha] at hr; exact Rep.fl_nil hr

/-- What is handed over as nil is an empty list. -/
theorem Call.nil_ints {f : FuncId} {args : List SV} {Q : SV → Heap → Prop} (i : Nat) (k : IntKind) (hi : i < args.length) (ha : args.getD i .any = .sc (.slice none 0 0)) (hc : Call P f (args.set i (ints k [])) h Q) : Call P f args h Q := by
  refine Call.le (fun c hc => hc) (fun M w vs own hr => ⟨own, by simpa using hr.1, fun j hj => ?_⟩) hc
  rw [getD_set hi]
  have h0 := hr.2 j (by simpa using hj)
  by_cases hij : i = j
  · subst hij
    rw [if_pos rfl]
    rw [ha] at h0
    exact Rep.fl_nil h0
  · rw [if_neg hij]; exact h0
end
end Go.Ab
