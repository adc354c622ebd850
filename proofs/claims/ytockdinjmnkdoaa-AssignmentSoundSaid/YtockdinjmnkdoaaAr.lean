/- What is owned may be given up, or be handed on as data that is only read; the frame of a proof. -/
import Derived.Test.YtockdinjmnkdoaaAq
set_option linter.unusedVariables false
namespace Go.Ab
open Go.RowKit

section
variable {P : Program} {N : Nat} {S : St}

theorem del_nodup {h : Heap} {b : Nat} (hn : (h.map (·.1)).Nodup) : ((h.del b).map (·.1)).Nodup := by
  induction h with
  | nil => exact hn
  | cons x r ih =>
    obtain ⟨c, k⟩ := x
    rw [List.map_cons, List.nodup_cons] at hn
    simp only [Heap.del]
    split
    · exact hn.2
    · rw [List.map_cons, List.nodup_cons]
      refine ⟨fun hm => hn.1 ?_, ih hn.2⟩
      rw [List.mem_map] at hm ⊢
      obtain ⟨x, hx, he⟩ := hm
      exact ⟨x, mem_del hx, he⟩

/-- Fewer blocks are owned. -/
theorem St.le_sublist {t : List (Nat × SV)} {h h' : Heap} (hs : ∀ x ∈ h', x ∈ h) (hn : (h.map (·.1)).Nodup → (h'.map (·.1)).Nodup) : (St.mk t h).le ⟨t, h'⟩ := fun M w0 D N a w r => by
  have hh : ∀ b, h'.has b → h.has b := fun b ⟨k, hk⟩ => ⟨k, hs _ hk⟩
  exact ⟨r.defers, r.n, fun i => (r.t i).mono (env_le (Frm.refl (fun _ => False) w) (fun _ x _ => x.elim) (fun b _ x => x.imp id (hh b))), r.own.sub (hn r.own.nodup) hs, r.frm, fun b hb => r.new b (hh b hb)⟩

theorem St.le_drop {t : List (Nat × SV)} {h : Heap} : (St.mk t h).le ⟨t, []⟩ := St.le_sublist (fun _ x => by cases x) (fun _ => by simp)
theorem St.le_del {t : List (Nat × SV)} {h : Heap} {b : Nat} : (St.mk t h).le ⟨t, h.del b⟩ := St.le_sublist (fun _ x => mem_del x) del_nodup
theorem St.le_perm {t : List (Nat × SV)} {h h' : Heap} (hp : h'.Perm h) : (St.mk t h).le ⟨t, h'⟩ := St.le_sublist (fun _ x => hp.mem_iff.1 x) (fun hn => (hp.map _).nodup_iff.2 hn)

theorem look_put_other {t : List (Nat × SV)} {h : Heap} {i j : Nat} {v : SV} (hne : i ≠ j) : look ((i, v) :: t) j = look t j := by rw [look_if, if_neg hne]

/-- More is said of one temporary. -/
theorem St.le_say {t : List (Nat × SV)} {h : Heap} {i : Nat} {v : SV} (hv : ∀ (E : Env) (u : Value), Rep E u (look t i) → Rep E u v) : (St.mk t h).le ⟨(i, v) :: t, h⟩ := fun M w0 D N a w r =>
  ⟨r.defers, r.n, fun j => by
    show Rep _ _ (look ((i, v) :: t) j)
    rw [look_if]
    by_cases hj : i = j
    · subst hj; rw [if_pos rfl]; exact hv _ _ (r.t i)
    · rw [if_neg hj]; exact r.t j, r.own, r.frm, r.new⟩

theorem Rep.fl_congr {E : Env} {u : Value} {n sz : Nat} {f g : Nat → List SV} (h : ∀ i, i < n → f i = g i) (hr : Rep E u (.fl n sz f)) : Rep E u (.fl n sz g) := by
  cases hr with
  | fl0 a cap _ _ => exact .fl0 _ _ _ _
  | fl b off _ cap _ _ val hc hl hs hr => exact .fl b off n cap sz g val hc (fun i hi => by rw [← h i hi]; exact hl i hi) hs (fun i hi j hj => by rw [← h i hi]; exact hr i hi j hj)

/-- A nil slice is an empty one. -/
theorem Rep.fl_nil {E : Env} {u : Value} {sz : Nat} {f : Nat → List SV} (hr : Rep E u (.sc (.slice none 0 0))) : Rep E u (.fl 0 sz f) := by
  cases hr; exact .fl0 _ _ _ _

/-- An owned slice is handed on as one that is only read. -/
theorem St.le_freeze {t : List (Nat × SV)} {h : Heap} {i b off len sz : Nat} {k : Blk} (hi : look t i = .os b off len sz) (hk : h.find b = some k) (hle : off + len * sz ≤ k.len) (f : Nat → List SV)
    (hf : ∀ j, j < len → f j = getN k (off + j * sz) sz) : (St.mk t h).le ⟨(i, .fl len sz f) :: t, h.del b⟩ := fun M w0 D N a w r => by
  have hm := Heap.find_mem hk
  have hd := St.le_del (t := t) (h := h) (b := b) M w0 D N a w r
  refine ⟨r.defers, r.n, fun j => ?_, hd.own, r.frm, hd.new⟩
  show Rep _ _ (look ((i, _) :: t) j)
  rw [look_if]
  by_cases hj : i = j
  · subst hj
    rw [if_pos rfl]
    have h1 := r.t i
    rw [hi] at h1
    generalize a.tmps.getD i undef = v at h1
    cases h1 with
    | os _ _ _ cap _ m hc hsz hb =>
      obtain ⟨c, e, hbk, hl, hrep⟩ := r.own.ok b k hm
      refine .fl b off len cap sz f (fun p q => c.getD (off + p * sz + q) undef) hc (fun p hp => by rw [hf p hp, length_getN]) (fun p hp q hq => ⟨?_, ?_⟩) (fun p hp q hq => ?_)
      · rintro (x | x)
        · exact r.own.notM b ⟨k, hm⟩ x
        · exact del_not r.own.nodup x
      · have := index_lt (s := sz) hp
        have hlt : off + p * sz + q < c.size := by omega
        simp [World.cell?, hbk, hlt]
      · have := index_lt (s := sz) hp
        rw [hf p hp, getD_getN _ _ _ _ hq]
        exact (hrep _ (by omega)).mono (env_le (Frm.refl (fun _ => False) w) (fun _ x _ => x.elim) (fun b _ x => x.imp id (fun ⟨k', hk'⟩ => ⟨k', mem_del hk'⟩)))
  · rw [if_neg hj]; exact hd.t j

/-- An owned block behind a pointer is handed on as one that is only read. -/
theorem St.le_freezeP {t : List (Nat × SV)} {h : Heap} {i b off n : Nat} {k : Blk} (hi : look t i = .op b off) (hk : h.find b = some k) (hle : off + n ≤ k.len) :
    (St.mk t h).le ⟨(i, .fp (getN k off n)) :: t, h.del b⟩ := fun M w0 D N a w r => by
  have hm := Heap.find_mem hk
  have hd := St.le_del (t := t) (h := h) (b := b) M w0 D N a w r
  refine ⟨r.defers, r.n, fun j => ?_, hd.own, r.frm, hd.new⟩
  show Rep _ _ (look ((i, _) :: t) j)
  rw [look_if]
  by_cases hj : i = j
  · subst hj
    rw [if_pos rfl]
    have h1 := r.t i
    rw [hi] at h1
    generalize a.tmps.getD i undef = v at h1
    cases h1 with
    | op _ _ =>
      obtain ⟨c, e, hbk, hl, hrep⟩ := r.own.ok b k hm
      refine .fp b off _ (fun q => c.getD (off + q) undef) (fun q hq => ⟨?_, ?_⟩) (fun q hq => ?_)
      · rintro (x | x)
        · exact r.own.notM b ⟨k, hm⟩ x
        · exact del_not r.own.nodup x
      · rw [length_getN] at hq
        have hlt : off + q < c.size := by omega
        simp [World.cell?, hbk, hlt]
      · rw [length_getN] at hq
        rw [getD_getN _ _ _ _ hq]
        exact (hrep _ (by omega)).mono (env_le (Frm.refl (fun _ => False) w) (fun _ x _ => x.elim) (fun b _ x => x.imp id (fun ⟨k', hk'⟩ => ⟨k', mem_del hk'⟩)))
  · rw [if_neg hj]; exact hd.t j

/-- What is said of an owned block may be said otherwise. -/
theorem St.le_blk {t : List (Nat × SV)} {h : Heap} {b : Nat} {k k' : Blk} (hk : h.find b = some k) (he : k'.cells = k.cells) : (St.mk t h).le ⟨t, h.upd b k'⟩ := fun M w0 D N a w r =>
  ⟨r.defers, r.n, fun i => by
    show Rep (envOf (hid M (h.upd b k')) w) _ _
    rw [hid_upd]; exact r.t i, r.own.cells (Heap.find_mem hk) he, r.frm, fun c hc => r.new c (has_upd.1 hc)⟩

/-! ### the frame -/
theorem Call.enter' {f : FuncId} {fn : Func} {c : Code} {N : Nat} {rs : List ResultVar} {args : List SV} {h : Heap} {Q : SV → Heap → Prop} (hf : P.funcs[f]? = some fn) (hb : fn.body = some c) (hN : fn.ntmps = N) (hrs : fn.results.toList = rs)
    (hn : (fn.name == "runtime.NumGoroutine") = false) (hl : Nat.ble args.length N = true) (hsw : SW P N c (retQ P rs Q) ⟨argT 0 args, h⟩) : Call P f args h Q := by
  subst hN hrs
  exact Call.enter hf hb hn (Nat.le_of_ble_eq_true hl) hsw

theorem retQ_ret {rs : List ResultVar} {Q : SV → Heap → Prop} (h : resL P S rs (fun vs => Q (tupOf vs) S.h)) : retQ P rs Q .ret S := ⟨S, St.le.refl _, h⟩
theorem retQ_le {rs : List ResultVar} {Q : SV → Heap → Prop} {S' : St} (hl : S.le S') (h : resL P S' rs (fun vs => Q (tupOf vs) S'.h)) : retQ P rs Q .ret S := ⟨S', hl, h⟩
theorem retQ_n {rs : List ResultVar} {Q : SV → Heap → Prop} (h : retQ P rs Q .ret S) : retQ P rs Q .normal S := h
theorem resL_mono : ∀ (rs : List ResultVar) {K K' : List SV → Prop}, (∀ vs, K vs → K' vs) → resL P S rs K → resL P S rs K'
  | [], K, K', hk, h => hk _ h
  | r :: rs, K, K', hk, h => by
    unfold resL at *
    split at h
    · exact ⟨h.1, resL_mono rs (fun vs => hk _) h.2⟩
    · exact h

/-- A pure function's end: what it owns is given up. -/
theorem ret_pure {rs : List ResultVar} {t : List (Nat × SV)} {h : Heap} {r : SV} (hq : resL P ⟨t, []⟩ rs (fun vs => tupOf vs = r)) : retQ P rs (fun r' h' => r' = r ∧ h' = []) .ret ⟨t, h⟩ :=
  ⟨⟨t, []⟩, St.le_drop, resL_mono rs (fun _ x => ⟨x, rfl⟩) hq⟩

theorem resL_nil {K : List SV → Prop} : resL P S [] K = K [] := rfl
theorem resL_tmp {t : Tmp} {rs : List ResultVar} {K : List SV → Prop} : resL P S (.tmp t :: rs) K = resL P S rs (fun vs => K (look S.t t :: vs)) := by simp [resL, resV]
theorem resL_cell {x : Tmp} {t : TypeId} {rs : List ResultVar} {K : List SV → Prop} {pre : Prop} {v : SV} (hv : loadSV (tk P t) (look S.t x) S.h = .ok pre v) (hp : pre) (h : resL P S rs (fun vs => K (v :: vs))) : resL P S (.cell x t :: rs) K := by
  unfold resL
  simp only [resV, hv]
  exact ⟨hp, h⟩

/-- The end of a round. -/
def Rnd (I : Nat → St → Prop) (n : Nat) (S' : St) : Prop := ∃ m S'', m < n ∧ S'.le S'' ∧ I m S''

theorem Rnd.sub {I : Nat → St → Prop} {n : Nat} {t l : List (Nat × SV)} {h : Heap} (m : Nat) (hm : m < n) (hI : I m ⟨l, h⟩) (hs : Ab.sub ⟨t, h⟩ l) : Rnd I n ⟨t, h⟩ := ⟨m, _, hm, St.le_sub hs, hI⟩
theorem Rnd.le {I : Nat → St → Prop} {n : Nat} {S S' : St} (hl : S.le S') (h : Rnd I n S') : Rnd I n S := by
  obtain ⟨m, S'', h1, h2, h3⟩ := h
  exact ⟨m, S'', h1, hl.trans h2, h3⟩

/-- A loop whose head's state says less than what is known ahead of it. -/
theorem SW.loop' {c : Code} {Q : Exit → St → Prop} {t l : List (Nat × SV)} {h : Heap} (I : Nat → St → Prop) (n : Nat) (h0 : I n ⟨l, h⟩) (hle : Ab.sub ⟨t, h⟩ l)
    (round : ∀ n S, I n S → SW P N c (thn (Rnd I n) Q) S) : SW P N (.loop c) Q ⟨t, h⟩ := SW.le (St.le_sub hle) (SW.loop I n h0 round)

end
end Go.Ab
