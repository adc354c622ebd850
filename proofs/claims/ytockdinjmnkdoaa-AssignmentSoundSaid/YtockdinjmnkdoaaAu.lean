/- A region that draws its order and makes blocks: the order of the text serves every order. -/
import Derived.Test.YtockdinjmnkdoaaAt
set_option linter.unusedSimpArgs false
set_option linter.unusedVariables false
namespace Go.Ab
open Go.RowKit

/-- Operations that make a block. -/
def newOp : Op → Bool
  | .box _ _ => true
  | .alloc _ => true
  | .buildSlice _ _ _ => true
  | .makeSlice _ _ _ => true
  | _ => false

def callOp : Op → Bool
  | .call ⟨.value _, _, _⟩ => true
  | _ => false

/-- Operations whose yield is told by their operands. -/
def detOp (op : Op) : Bool := !callOp op && (stableOp op || newOp op)

section
variable {P : Program} {M : Nat → Prop} {w0 : World} {D : Nat → Prop} {N : Nat} {h : Heap} {w : World}

theorem valOp_congrN {op : Op} (hd : detOp op = true) {ρ ρ' : Operand → SV} (h : Heap) (he : ∀ x ∈ op.operands, ρ x = ρ' x) : valOp P op ρ h = valOp P op ρ' h := by
  unfold detOp at hd
  rw [Bool.and_eq_true, Bool.or_eq_true] at hd
  rcases hd.2 with hs | hn
  · exact valOp_congr hs h he
  · unfold newOp at hn
    split at hn
    all_goals try (cases hn; done)
    all_goals simp only [Op.operands] at he
    · simp_all [valOp]
    · rfl
    · rename_i t n ps
      simp only [valOp]
      have : (ps.toList.map fun (i, x) => (i, ρ x)) = (ps.toList.map fun (i, x) => (i, ρ' x)) := List.map_congr_left fun p hp => by
        obtain ⟨i, x⟩ := p
        have hm : x ∈ ((ps.toList.map (·.2)).toArray : Array Operand) := by
          rw [List.mem_toArray]
          exact List.mem_map.2 ⟨(i, x), hp, rfl⟩
        simp only [he x hm]
      rw [this]
    · simp_all [valOp]

theorem loadSV_nil {T : Option (Bool × Nat)} {x : SV} {pre : Prop} {v : SV} (h : Heap) (hv : loadSV T x [] = .ok pre v) : loadSV T x h = .ok pre v := by
  unfold loadSV at hv ⊢
  split at hv
  all_goals first
    | (split at hv <;> first | (cases hv; done) | (rename_i hf; cases hf; done))
    | (cases hv; done)
    | (cases hv; rfl)

theorem valOp_okE {op : Op} {ρ : Operand → SV} {pre : Prop} {v : SV} (h : Heap) (hv : valOp P op ρ [] = .ok pre v) : valOp P op ρ h = .ok pre v := by
  cases op with
  | load t x => exact loadSV_nil h hv
  | call c =>
    rw [← hv]
    unfold valOp
    split <;> first | rfl | simp_all
  | _ => exact hv

theorem valOp_newE {op : Op} {ρ : Operand → SV} {pre : Prop} {k : Blk} {mk : Nat → SV} (h : Heap) (hv : valOp P op ρ [] = .new pre k mk) : valOp P op ρ h = .new pre k mk := by
  cases op with
  | load t x =>
    exfalso
    simp only [valOp] at hv
    unfold loadSV at hv
    split at hv
    · cases hv
    · cases hv
    · split at hv <;> cases hv
    · split at hv <;> cases hv
    · cases hv
  | call c =>
    rw [← hv]
    unfold valOp
    split <;> first | rfl | simp_all
  | _ => exact hv

def resN (R : VRes) (d : Option Tmp) (K : (Nat → SV) → Heap → Prop) (T : Nat → SV) (h : Heap) : Prop :=
  match R with
  | .ok pre v => pre ∧ K (putF T d v) h
  | .new pre k mk => pre ∧ ∀ b, fresh h b → K (putF T d (mk b)) ((b, k) :: h)
  | .bad => False

def stepN (P : Program) (N : Nat) (o : Oper) (K : (Nat → SV) → Heap → Prop) (T : Nat → SV) (h : Heap) : Prop :=
  dstOk N o.dst ∧ resN (valOp P o.op (evF T) []) o.dst K T h

def Nd (h : Heap) : Prop := (h.map (·.1)).Nodup

/-- The order in which blocks are listed does not matter. -/
def PC (K : (Nat → SV) → Heap → Prop) : Prop := ∀ T h h', Nd h → h.Perm h' → K T h → K T h'

theorem ex_fresh (h : Heap) : ∃ b, fresh h b := by
  have : ∃ n, ∀ m, n ≤ m → ¬ h.has m := by
    induction h with
    | nil => exact ⟨0, fun m _ ⟨k, hk⟩ => by cases hk⟩
    | cons x r ih =>
      obtain ⟨n, hn⟩ := ih
      obtain ⟨c, k⟩ := x
      refine ⟨n + c + 1, fun m hm hh => ?_⟩
      rcases has_cons.1 hh with e | hh
      · omega
      · exact hn m (by omega) hh
  obtain ⟨n, hn⟩ := this
  exact ⟨n, fresh_of (hn n (Nat.le_refl _))⟩

theorem nd_cons {b : Nat} {k : Blk} (hn : Nd h) (hf : fresh h b) : Nd ((b, k) :: h) := by
  unfold Nd
  rw [List.map_cons, List.nodup_cons]
  exact ⟨fun hm => not_has_of_fresh hf (has_map.2 hm), hn⟩

theorem fresh_perm {h h' : Heap} (hp : h.Perm h') {b : Nat} (hf : fresh h' b) : fresh h b :=
  fresh_of (fun ⟨k, hk⟩ => not_has_of_fresh hf ⟨k, hp.mem_iff.1 hk⟩)

theorem stepN_pc {o : Oper} {K : (Nat → SV) → Heap → Prop} (hK : PC K) : PC (stepN P N o K) := by
  intro T h h' hn hp ⟨h1, h2⟩
  refine ⟨h1, ?_⟩
  unfold resN at *
  split at h2
  · exact ⟨h2.1, hK _ _ _ hn hp h2.2⟩
  · exact ⟨h2.1, fun b hb => hK _ _ _ (nd_cons hn (fresh_perm hp hb)) (hp.cons _) (h2.2 b (fresh_perm hp hb))⟩
  · exact h2

theorem stepN_mono {o : Oper} {K K' : (Nat → SV) → Heap → Prop} (hK : ∀ T h, Nd h → K T h → K' T h) {T : Nat → SV} (hn : Nd h) (hs : stepN P N o K T h) : stepN P N o K' T h := by
  obtain ⟨h1, h2⟩ := hs
  refine ⟨h1, ?_⟩
  unfold resN at *
  split at h2
  · exact ⟨h2.1, hK _ _ hn h2.2⟩
  · exact ⟨h2.1, fun b hb => hK _ _ (nd_cons hn hb) (h2.2 b hb)⟩
  · exact h2

theorem stepN_ex {o : Oper} {K : (Nat → SV) → Heap → Prop} {T : Nat → SV} (hs : stepN P N o K T h) : ∃ T' h', K T' h' := by
  obtain ⟨h1, h2⟩ := hs
  unfold resN at *
  split at h2
  · exact ⟨_, _, h2.2⟩
  · obtain ⟨b, hb⟩ := ex_fresh h
    exact ⟨_, _, h2.2 b hb⟩
  · exact h2.elim

theorem stepN_swap {ops : List Oper} {oi oj : Oper} (hap : oi.apart ops.toArray oj = true) (di : detOp oi.op = true) (dj : detOp oj.op = true) {K : (Nat → SV) → Heap → Prop} (hK : PC K)
    {T : Nat → SV} (hn : Nd h) (hs : stepN P N oi (stepN P N oj K) T h) : stepN P N oj (stepN P N oi K) T h := by
  obtain ⟨a1, a2, a3⟩ := Oper.apart_spec hap
  have ej : ∀ v, valOp P oj.op (evF (putF T oi.dst v)) [] = valOp P oj.op (evF T) [] := fun v => valOp_congrN dj [] (evF_putF (ops := ops) (fun t ht => a1 t ht))
  have ei : ∀ v, valOp P oi.op (evF (putF T oj.dst v)) [] = valOp P oi.op (evF T) [] := fun v => valOp_congrN di [] (evF_putF (ops := ops) (fun t ht => a3 t ht))
  obtain ⟨b1, b2⟩ := hs
  unfold stepN resN
  unfold stepN resN at b2
  simp only [ej] at b2
  simp only [ei]
  generalize valOp P oi.op (evF T) [] = Ri at *
  generalize valOp P oj.op (evF T) [] = Rj at *
  cases Ri with
  | bad => exact b2.elim
  | ok pi vi =>
    simp only at b2 ⊢
    obtain ⟨hpi, hdj, b2⟩ := b2
    refine ⟨hdj, ?_⟩
    cases Rj with
    | bad => exact b2.elim
    | ok pj vj =>
      simp only at b2 ⊢
      exact ⟨b2.1, b1, hpi, by rw [← putF_comm T vi vj a2]; exact b2.2⟩
    | new pj kj mj =>
      simp only at b2 ⊢
      exact ⟨b2.1, fun b hb => ⟨b1, hpi, by rw [← putF_comm T vi (mj b) a2]; exact b2.2 b hb⟩⟩
  | new pi ki mi =>
    simp only at b2 ⊢
    obtain ⟨hpi, b2⟩ := b2
    obtain ⟨b0, hb0⟩ := ex_fresh h
    refine ⟨(b2 b0 hb0).1, ?_⟩
    cases Rj with
    | bad => exact (b2 b0 hb0).2.elim
    | ok pj vj =>
      simp only at b2 ⊢
      exact ⟨(b2 b0 hb0).2.1, b1, hpi, fun b hb => by rw [← putF_comm T (mi b) vj a2]; exact (b2 b hb).2.2⟩
    | new pj kj mj =>
      simp only at b2 ⊢
      refine ⟨(b2 b0 hb0).2.1, fun b hb => ⟨b1, hpi, fun b' hb' => ?_⟩⟩
      have hb1 : fresh h b' := hb'.2
      have hb2 : fresh ((b', ki) :: h) b := ⟨⟨hb'.1.2, hb'.1.1⟩, hb⟩
      have := (b2 b' hb1).2.2 b hb2
      rw [putF_comm T (mi b') (mj b) a2] at this
      exact hK _ _ _ (nd_cons (nd_cons hn hb1) hb2) (List.Perm.swap _ _ _) this

def anyN (P : Program) (N : Nat) (ops : List Oper) (K : (Nat → SV) → Heap → Prop) : Nat → Array Bool → (Nat → SV) → Heap → Prop
  | 0, listed, T, h => Region.ready .any ops.toArray listed = [] ∧ K T h
  | f + 1, listed, T, h => (Region.ready .any ops.toArray listed = [] → K T h) ∧
    ∀ i ∈ Region.ready .any ops.toArray listed, match ops[i]? with
      | none => True
      | some o => stepN P N o (anyN P N ops K f (listed.setIfInBounds i true)) T h

theorem anyN_pc {ops : List Oper} {K : (Nat → SV) → Heap → Prop} (hK : PC K) : ∀ f listed, PC (anyN P N ops K f listed)
  | 0, listed => fun T h h' hn hp hh => ⟨hh.1, hK _ _ _ hn hp hh.2⟩
  | f + 1, listed => fun T h h' hn hp hh => by
    refine ⟨fun hr => hK _ _ _ hn hp (hh.1 hr), fun i hi => ?_⟩
    have := hh.2 i hi
    split
    · trivial
    · rename_i o ho
      rw [ho] at this
      exact stepN_pc (anyN_pc hK f _) _ _ _ hn hp this

theorem anyN_first {ops : List Oper} {K : (Nat → SV) → Heap → Prop} (hK : PC K) {i : Nat} {oi : Oper} (hi : ops[i]? = some oi) (hdet : ∀ o ∈ ops, detOp o.op = true) :
    ∀ (fuel : Nat) (listed : Array Bool) (T : Nat → SV) (h : Heap), Nd h →
      (∀ j oj, ops[j]? = some oj → j ≠ i → listed.getD j true = false → (∀ e ∈ oj.after, Region.binds .any e = true → e.on ≠ i) → oi.apart ops.toArray oj = true) →
      i ∈ Region.ready .any ops.toArray listed → stepN P N oi (anyN P N ops K fuel (listed.setIfInBounds i true)) T h → anyN P N ops K (fuel + 1) listed T h := by
  have hmi : oi ∈ ops := List.mem_of_getElem? hi
  intro fuel
  induction fuel with
  | zero =>
    intro listed T h hn _ hr H
    refine ⟨fun h => (by rw [h] at hr; cases hr), fun j hj => ?_⟩
    by_cases hji : j = i
    · subst hji
      rw [hi]
      exact H
    · have h1 := ready_mono hj hji
      obtain ⟨T', h', h2⟩ := stepN_ex H
      rw [h2.1] at h1
      cases h1
  | succ fuel ih =>
    intro listed T h hn hfree hr H
    refine ⟨fun h => (by rw [h] at hr; cases hr), fun j hj => ?_⟩
    by_cases hji : j = i
    · subst hji
      rw [hi]
      exact H
    · obtain ⟨hjun, oj, hoj, hall⟩ := mem_ready.1 hj
      rw [List.getElem?_toArray] at hoj
      have hnot : ∀ e ∈ oj.after, Region.binds .any e = true → e.on ≠ i := fun e he hb heq => by
        have h1 := hall e he hb
        have h0 := (mem_ready.1 hr).1
        rw [heq] at h1
        rcases Nat.lt_or_ge i listed.size with h' | h'
        · simp [h'] at h0 h1; rw [h0] at h1; cases h1
        · simp [Array.getElem?_eq_none h'] at h1
      have hap := hfree j oj hoj hji hjun hnot
      rw [hoj]
      show stepN P N oj _ T h
      have h1 : stepN P N oi (stepN P N oj (anyN P N ops K fuel ((listed.setIfInBounds j true).setIfInBounds i true))) T h := stepN_mono (fun T' h' _ hh => by
        have := hh.2 j (ready_mono hj hji)
        rw [hoj] at this
        rw [Array.setIfInBounds_comm _ _ hji]
        exact this) hn H
      have h2 := stepN_swap hap (hdet _ hmi) (hdet _ (List.mem_of_getElem? hoj)) (anyN_pc hK _ _) hn h1
      refine stepN_mono (fun T' h' hn' hh => ih (listed.setIfInBounds j true) T' h' hn' (fun k ok hk hki hun hno => ?_) (ready_mono hr (Ne.symm hji)) hh) hn h2
      refine hfree k ok hk hki ?_ hno
      by_cases hjk : j = k
      · subst hjk; exact hjun
      · rw [getD_set_ne true hjk] at hun; exact hun

def freesN (ops : List Oper) (listed : Array Bool) (k : Nat) (ok : Oper) : Bool :=
  (List.range ops.length).all fun j => Nat.beq j k || listed.getD j true || (match ops[j]? with
    | some oj => (oj.after.any fun e => Region.binds .any e && Nat.beq e.on k) || ok.apart ops.toArray oj
    | none => true)

def lexAtN (ops : List Oper) : Nat → Nat → Array Bool → Bool
  | 0, _, listed => (Region.ready .any ops.toArray listed).isEmpty
  | f + 1, k, listed => (match ops[k]? with
      | some ok => (Region.ready .any ops.toArray listed).contains k && freesN ops listed k ok
      | none => false) && lexAtN ops f (k + 1) (listed.setIfInBounds k true)

def lexOkN (ops : List Oper) : Bool := (ops.all fun o => detOp o.op && o.guard.isNone) && lexAtN ops ops.length 0 (Array.replicate ops.length false)

theorem freesN_spec {ops : List Oper} {listed : Array Bool} {k : Nat} {ok : Oper} (hf : freesN ops listed k ok = true) :
    ∀ j oj, ops[j]? = some oj → j ≠ k → listed.getD j true = false → (∀ e ∈ oj.after, Region.binds .any e = true → e.on ≠ k) → ok.apart ops.toArray oj = true := by
  intro j oj hj hjk hun hno
  unfold freesN at hf
  have hlt : j < ops.length := (List.getElem?_eq_some_iff.1 hj).1
  have h1 := List.all_eq_true.1 hf j (List.mem_range.2 hlt)
  have hb : Nat.beq j k = false := by rw [← Bool.not_eq_true, Nat.beq_eq]; exact hjk
  simp only [hb, hun, hj, Bool.false_or] at h1
  rw [Bool.or_eq_true] at h1
  rcases h1 with h1 | h1
  · rw [Array.any_eq_true'] at h1
    obtain ⟨e, he, hbe⟩ := h1
    rw [Bool.and_eq_true, Nat.beq_eq] at hbe
    exact absurd hbe.2 (hno e he hbe.1)
  · exact h1

/-- The steps in the order of the text. -/
def vcN (P : Program) (N : Nat) (l : List Oper) (K : St → Prop) (S : St) : Prop := match l with
  | [] => K S
  | o :: r => dstOk N o.dst ∧ resK (valOp P o.op S.ev []) o.dst False (vcN P N r K) S

theorem vcN_step {o : Oper} {K : St → Prop} {S : St} (hh : dstOk N o.dst ∧ resK (valOp P o.op S.ev []) o.dst False K S) :
    stepN P N o (fun T h => ∃ S', look S'.t = T ∧ S'.h = h ∧ K S') (look S.t) S.h := by
  obtain ⟨h1, h2⟩ := hh
  refine ⟨h1, ?_⟩
  rw [← ev_look]
  generalize valOp P o.op S.ev [] = R at *
  cases R with
  | ok pre v => exact ⟨h2.1, _, look_put _ _ _, h_put _ _ _, h2.2⟩
  | new pre k mk => exact ⟨h2.1, fun b hb => ⟨(⟨S.t, (b, k) :: S.h⟩ : St).put o.dst (mk b), look_put _ _ _, h_put _ _ _, h2.2 b hb⟩⟩
  | bad => exact h2.elim

def endN (K : St → Prop) (T : Nat → SV) (h : Heap) : Prop := ∃ S', look S'.t = T ∧ S'.h.Perm h ∧ K S'

theorem endN_pc (K : St → Prop) : PC (endN K) := fun T h h' _ hp ⟨S', e1, e2, hk⟩ => ⟨S', e1, e2.trans hp, hk⟩

theorem anyN_lex {ops : List Oper} (hdet : ∀ o ∈ ops, detOp o.op = true) {K : St → Prop} : ∀ (l : List Oper) (k : Nat) (listed : Array Bool) (S : St), Nd S.h → (∀ j, l[j]? = ops[k + j]?) →
    lexAtN ops l.length k listed = true → vcN P N l K S → anyN P N ops (endN K) l.length listed (look S.t) S.h
  | [], _, _, S, _, _, hB, h => ⟨by simpa [lexAtN] using hB, S, rfl, List.Perm.refl _, h⟩
  | o :: l, k, listed, S, hn, hl, hB, h => by
    have h0 : ops[k]? = some o := by simpa using (hl 0).symm
    simp only [List.length_cons, lexAtN, h0, Bool.and_eq_true] at hB
    obtain ⟨⟨hr1, hr2⟩, hB'⟩ := hB
    have hl' : ∀ j, l[j]? = ops[k + 1 + j]? := fun j => by have := hl (j + 1); simpa [Nat.add_assoc, Nat.add_comm 1 j] using this
    refine anyN_first (endN_pc K) h0 hdet l.length listed _ _ hn (freesN_spec hr2) (by simpa using hr1) ?_
    refine stepN_mono (fun T' h' hn' ⟨S', e1, e2, hv⟩ => ?_) hn (vcN_step h)
    subst e1 e2
    exact anyN_lex hdet l (k + 1) _ S' hn' hl' hB' hv

theorem anyN_sound {ops : List Oper} (hg : ∀ o ∈ ops, o.guard = none) {Q : Exit → Act → World → Prop} {K : (Nat → SV) → Heap → Prop} (hK : ∀ S a w, K (look S.t) S.h → Rel M w0 D N S a w → Q .normal a w) :
    ∀ (f : Nat) (listed : Array Bool) (S : St) (a : Act) (w : World), Rel M w0 D N S a w → anyN P N ops K f listed (look S.t) S.h → wpAny P .any ops.toArray Q f listed a w
  | 0, listed, S, a, w, hr, h => ⟨h.1, hK S a w h.2 hr⟩
  | f + 1, listed, S, a, w, hr, h => by
    refine ⟨fun h0 => hK S a w (h.1 h0) hr, fun i hi => ?_⟩
    have hop := h.2 i hi
    unfold wpOp
    simp only [List.getElem?_toArray]
    obtain ⟨_, o, ho, _⟩ := mem_ready.1 hi
    rw [List.getElem?_toArray] at ho
    rw [ho] at hop ⊢
    simp only at hop ⊢
    have hgo := hg o (List.mem_of_getElem? ho)
    rw [if_pos (by unfold Region.wanted; rw [hgo])]
    refine .inl (Oper.wp_mono (fun a' w' ⟨S'', h1, h2⟩ => anyN_sound hg hK f _ S'' a' w' h2 h1) (stepK_sound (K := fun S' => anyN P N ops K f (listed.setIfInBounds i true) (look S'.t) S'.h) hr ?_))
    obtain ⟨h1, h2⟩ := hop
    refine ⟨h1, ?_⟩
    rw [← ev_look] at h2
    unfold resN at h2
    split at h2
    · rename_i pre v hv
      rw [valOp_okE S.h hv]
      exact ⟨h2.1, by show anyN _ _ _ _ _ _ (look (S.put o.dst v).t) (S.put o.dst v).h; rw [look_put, h_put]; exact h2.2⟩
    · rename_i pre k mk hv
      rw [valOp_newE S.h hv]
      exact ⟨h2.1, fun b hb => by show anyN _ _ _ _ _ _ (look ((⟨S.t, (b, k) :: S.h⟩ : St).put o.dst (mk b)).t) ((⟨S.t, (b, k) :: S.h⟩ : St).put o.dst (mk b)).h; rw [look_put, h_put]; exact h2.2 b hb⟩
    · exact h2.elim

/-- **A region that draws its order and makes blocks, walked in the order of its text.** -/
theorem SW.regionN {id : Nat} {l : List Oper} {Q : Exit → St → Prop} {S : St} (hm : P.follows .mixedOrders = true) (hB : lexOkN l = true) (h : vcN P N l (Q .normal) S) : SW P N (.region id l.toArray true) Q S := fun M w0 D a w hr => by
  unfold lexOkN at hB
  rw [Bool.and_eq_true, List.all_eq_true] at hB
  refine wp_region_any hm ?_
  have hr' : Rel M w0 D N S a (drw w) := ⟨hr.defers, hr.n, fun i => (hr.t i).mono (env_drw _ _), hr.own.drw, hr.frm.trans (frm_drw (fun _ => False) w) (fun _ _ x => x.elim), hr.new⟩
  have h1 := anyN_lex (N := N) (fun o ho => by have h := hB.1 o ho; rw [Bool.and_eq_true] at h; exact h.1) l 0 (Array.replicate l.length false) S hr.own.nodup (by simp) hB.2 h
  have h2 := anyN_sound (Q := fun e a' w' => ∃ S', Q e S' ∧ Rel M w0 D N S' a' w') (fun o ho => by have h := hB.1 o ho; rw [Bool.and_eq_true] at h; simpa using h.2) (fun S a w hx hr => by
    obtain ⟨S', e1, e2, hS⟩ := hx
    exact ⟨S', hS, (St.le_perm (t := S.t) e2 _ _ _ _ _ _ hr).look_eq e1 rfl⟩) _ _ S a _ hr' h1
  simpa [drw] using h2

theorem vcN_nil {K : St → Prop} {S : St} : vcN P N [] K S = K S := rfl
theorem vcN_cons {d : Option Tmp} {op : Op} {ty : TypeId} {ps : String} {af : Array Edge} {g : Option (Nat × Bool)} {r : List Oper} {K : St → Prop} {S : St} :
    vcN P N (⟨d, op, ty, ps, af, g⟩ :: r) K S = (dstOk N d ∧ resK (valOp P op S.ev []) d False (vcN P N r K) S) := rfl

/-- Less is said of a block: what stands at its end is forgotten. -/
theorem St.le_cut {t : List (Nat × SV)} {h : Heap} {b : Nat} {k k' : Blk} (n : Nat) (hk : h.find b = some k) (he : k'.cells = k.cells.take n) : (St.mk t h).le ⟨t, h.upd b k'⟩ := fun M w0 D N a w r => by
  have hm := Heap.find_mem hk
  obtain ⟨c, e, hheap, hl, hrp⟩ := r.own.ok b k hm
  have hlen : k'.len ≤ k.len := by rw [← Blk.length_cells, ← Blk.length_cells, he, List.length_take]; omega
  have own' : Owns M (h.upd b k') w := r.own.recell hm hheap (by omega) (fun j hj => by
    have h1 := hrp j (by omega)
    rw [← Blk.get_cells k' j hj, he, List.getD_eq_getElem?_getD, List.getElem?_take]
    have : j < n := by
      have := hj
      rw [← Blk.length_cells, he, List.length_take] at this
      omega
    rw [if_pos this, ← List.getD_eq_getElem?_getD, Blk.get_cells k j (by omega)]
    exact h1)
  have hh : hid M (h.upd b k') = hid M h := hid_upd
  exact ⟨r.defers, r.n, fun i => by rw [hh]; exact r.t i, own', r.frm, fun c hc hlt => r.new c (has_upd.1 hc) hlt⟩

end
theorem neF {p : Prop} : (¬ p) = (p = False) := by simp
theorem cast0 : ((0 : Nat) : Int) = 0 := rfl
attribute [go_sem] cast0 vcN_nil vcN_cons valOp capSV
end Go.Ab
