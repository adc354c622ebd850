/- The abstract layer, part Z8: regions that draw their order, where some calls are taken as effects (they read or write memory that the region made). -/
import Derived.Test.YtpidncgibgiidaaGreatZ7
set_option linter.unusedVariables false
set_option linter.unusedSectionVars false
set_option linter.unusedSimpArgs false
namespace Go.Ab
open Go.RowKit
section
variable {P : Program} {M : Nat → Prop} {w0 : World} {D : Nat → Prop} {N : Nat}
def stab (X : List Nat) (i : Nat) (o : Oper) : Bool := stableOp o.op && !hasN X i
theorem stab_op {X : List Nat} {i : Nat} {o : Oper} (h : stab X i o = true) : stableOp o.op = true := (Bool.and_eq_true _ _ ▸ h : stableOp o.op = true ∧ _).1
def kindY (X : List Nat) (i : Nat) (o : Oper) : Bool := stab X i o || (newOp o.op && o.guard.isNone)
def opY [Gl] (P : Program) (N : Nat) (X : List Nat) (ops : List Oper) (i : Nat) (K : (Nat → SV) → Heap → Prop) (T : Nat → SV) (h : Heap) : Prop :=
  match ops[i]? with
  | none => K T h
  | some o => bif stab X i o then ∃ v, YA P N ops o T h v ∧ K (putF T o.dst v) h
    else bif newOp o.op && o.guard.isNone then dstOk N o.dst ∧ resN (valOp P o.op (evF T) h) o.dst K T h
    else ∃ S, look S.t = T ∧ S.h = h ∧ gstep ops N o.guard o.dst (stepK P N o (fun S => K (look S.t) S.h)) (fun S => K (look S.t) S.h) S
def anyY [Gl] (P : Program) (N : Nat) (X : List Nat) (ops : List Oper) (K : (Nat → SV) → Heap → Prop) : Nat → Array Bool → (Nat → SV) → Heap → Prop
  | 0, listed, T, h => Region.ready .any ops.toArray listed = [] ∧ K T h
  | f + 1, listed, T, h => (Region.ready .any ops.toArray listed = [] → K T h) ∧
    ∀ i ∈ Region.ready .any ops.toArray listed, opY P N X ops i (anyY P N X ops K f (listed.setIfInBounds i true)) T h
theorem anyY_sound [Gl] {X : List Nat} {ops : List Oper} {Q : Exit → Act → World → Prop} {K : (Nat → SV) → Heap → Prop} (hK : ∀ S a w, K (look S.t) S.h → Rel M w0 D N S a w → Q .normal a w) :
    ∀ (f : Nat) (listed : Array Bool) (S : St) (a : Act) (w : World), Rel M w0 D N S a w → anyY P N X ops K f listed (look S.t) S.h → wpAny P .any ops.toArray Q f listed a w
  | 0, listed, S, a, w, hr, h => ⟨h.1, hK S a w h.2 hr⟩
  | f + 1, listed, S, a, w, hr, h => by
    refine ⟨fun h0 => hK S a w (h.1 h0) hr, fun i hi => ?_⟩
    have hop := h.2 i hi
    unfold opY at hop
    unfold wpOp
    simp only [List.getElem?_toArray]
    split
    · rename_i ho
      simp only [ho] at hop
      exact anyY_sound hK f _ S a w hr hop
    · rename_i o ho
      simp only [ho] at hop
      by_cases hs : stab X i o = true
      · rw [hs] at hop
        simp only [cond_true] at hop
        obtain ⟨v, ⟨hd, hy⟩, hn⟩ := hop
        have next : ∀ a' w', Rel M w0 D N (S.put o.dst v) a' w' → wpAny P .any ops.toArray Q f (listed.setIfInBounds i true) a' w' := fun a' w' hr' =>
          anyY_sound hK f _ (S.put o.dst v) a' w' hr' (by rw [look_put, h_put]; exact hn)
        rcases hy with ⟨hw, hy⟩ | ⟨hw, rfl⟩
        · rw [if_pos (yielded_F hr hw)]
          exact .inl (yld_sound hr hd hy next)
        · rw [if_neg (by rw [yielded_F hr hw]; simp)]
          exact next _ _ (hr.put' hd (.sc _))
      · simp only [Bool.not_eq_true] at hs
        rw [hs] at hop
        simp only [cond_false] at hop
        cases hn : (newOp o.op && o.guard.isNone) with
        | true =>
          rw [hn] at hop
          simp only [cond_true] at hop
          rw [Bool.and_eq_true] at hn
          have hgo : o.guard = none := by simpa using hn.2
          obtain ⟨hd, hv⟩ := hop
          rw [if_pos (by unfold Region.wanted; rw [hgo])]
          refine .inl (Oper.wp_mono (fun a' w' ⟨S'', h1, h2⟩ => anyY_sound hK f _ S'' a' w' h2 h1) (stepK_sound (K := fun S' => anyY P N X ops K f (listed.setIfInBounds i true) (look S'.t) S'.h) hr ?_))
          refine ⟨hd, ?_⟩
          rw [ev_look]
          unfold resN at hv
          unfold resK
          split at hv
          · rename_i pre v hx
            rw [hx]
            exact ⟨hv.1, by show anyY _ _ _ _ _ _ _ (look (S.put o.dst v).t) (S.put o.dst v).h; rw [look_put, h_put]; exact hv.2⟩
          · rename_i pre k mk hx
            rw [hx]
            exact ⟨hv.1, fun b hb => by show anyY _ _ _ _ _ _ _ (look ((⟨S.t, (b, k) :: S.h⟩ : St).put o.dst (mk b)).t) ((⟨S.t, (b, k) :: S.h⟩ : St).put o.dst (mk b)).h; rw [look_put, h_put]; exact hv.2 b hb⟩
          · exact hv.elim
        | false =>
          rw [hn] at hop
          simp only [cond_false] at hop
          obtain ⟨S1, e1, e2, hg⟩ := hop
          have hr1 := hr.look_eq e1 e2
          obtain ⟨S', hr', h'⟩ := gstep_sound (ops := ops) hr1 hg
          rcases h' with ⟨hw, hA⟩ | ⟨hw, hd, hB⟩
          · rw [if_pos hw]
            exact .inl (Oper.wp_mono (fun a' w' ⟨S'', h1, h2⟩ => anyY_sound hK f _ S'' a' w' h2 h1) (stepK_sound hr' hA))
          · rw [if_neg (by rw [hw]; simp)]
            exact anyY_sound hK f _ _ _ _ (hr'.put' hd (.sc _)) hB
theorem opY_put [Gl] {X : List Nat} {ops : List Oper} {h : Heap} {j : Nat} {oi oj : Oper} {v : SV} (hj : ops[j]? = some oj) (hap : oi.apart ops.toArray oj = true) (hsi : stableOp oi.op = true) (hsj : kindY X j oj = true)
    {K : (Nat → SV) → Heap → Prop} {T : Nat → SV} (hy : YA P N ops oi T h v) (hh : opY P N X ops j K (putF T oi.dst v) h) :
    opY P N X ops j (fun T' h' => YA P N ops oi T' h' v ∧ K (putF T' oi.dst v) h') T h := by
  obtain ⟨h1, h2, h3⟩ := Oper.apart_spec hap
  unfold opY at hh ⊢
  simp only [hj] at hh ⊢
  cases hs : stab X j oj with
  | true =>
    rw [hs] at hh
    simp only [cond_true] at hh ⊢
    obtain ⟨u, hu, hn⟩ := hh
    exact ⟨u, (YA_putF (stab_op hs) (fun t ht => h1 t ht)).1 hu, (YA_putF hsi (fun t ht => h3 t ht)).2 hy, by rw [← putF_comm T v u h2]; exact hn⟩
  | false =>
    unfold kindY at hsj
    rw [hs, Bool.false_or] at hsj
    rw [hs, hsj] at hh
    simp only [cond_true, cond_false, hsj] at hh ⊢
    rw [Bool.and_eq_true] at hsj
    obtain ⟨hd, hv⟩ := hh
    have hdet : detOp oj.op = true := by
      unfold detOp
      rw [hsj.1, Bool.or_true, Bool.and_true]
      cases ho : oj.op <;> first | rfl | (rw [ho] at hsj; simp [newOp] at hsj)
    refine ⟨hd, ?_⟩
    have he : valOp P oj.op (evF T) h = valOp P oj.op (evF (putF T oi.dst v)) h := valOp_congrN hdet h (fun x hx => (evF_putF (ops := ops) (o := oj) (fun t ht => h1 t ht) x hx).symm)
    rw [← he] at hv
    generalize valOp P oj.op (evF T) h = R at hv ⊢
    unfold resN at hv ⊢
    cases R with
    | ok pre u =>
      exact ⟨hv.1, (YA_putF hsi (fun t ht => h3 t ht)).2 hy, by rw [← putF_comm T v _ h2]; exact hv.2⟩
    | new pre k mk =>
      exact ⟨hv.1, fun b hb => ⟨YA_fresh hsi hb ((YA_putF hsi (fun t ht => h3 t ht)).2 hy), by rw [← putF_comm T v _ h2]; exact hv.2 b hb⟩⟩
    | bad => exact hv.elim
theorem opY_mono [Gl] {X : List Nat} {ops : List Oper} {h : Heap} {i : Nat} {o : Oper} (ho : ops[i]? = some o) (hs : kindY X i o = true) {K K' : (Nat → SV) → Heap → Prop} {T : Nat → SV} (hk : ∀ T h, K T h → K' T h) (hh : opY P N X ops i K T h) : opY P N X ops i K' T h := by
  unfold opY at hh ⊢
  simp only [ho] at hh ⊢
  cases h1 : stab X i o with
  | true =>
    rw [h1] at hh
    simp only [cond_true] at hh ⊢
    obtain ⟨v, hy, hn⟩ := hh
    exact ⟨v, hy, hk _ _ hn⟩
  | false =>
    unfold kindY at hs
    rw [h1, Bool.false_or] at hs
    rw [h1, hs] at hh
    simp only [cond_true, cond_false, hs] at hh ⊢
    obtain ⟨hd, hv⟩ := hh
    refine ⟨hd, ?_⟩
    unfold resN at hv ⊢
    split at hv
    · exact ⟨hv.1, hk _ _ hv.2⟩
    · exact ⟨hv.1, fun b hb => hk _ _ (hv.2 b hb)⟩
    · exact hv
theorem anyY_first [Gl] {X : List Nat} {ops : List Oper} {K : (Nat → SV) → Heap → Prop} {i : Nat} {oi : Oper} {v : SV} (hi : ops[i]? = some oi) (hst : stab X i oi = true) (W : Nat → Bool)
    (hW : ∀ m om, ops[m]? = some om → W m = true → m = i ∨ ∃ e ∈ om.after, Region.binds .any e = true ∧ W e.on = true) (l0 : Array Bool)
    (free : ∀ j oj, ops[j]? = some oj → W j = false → l0.getD j true = false → oi.apart ops.toArray oj = true ∧ kindY X j oj = true) :
    ∀ (fuel : Nat) (listed : Array Bool) (T : Nat → SV) (h : Heap), (∀ m, W m = true → listed.getD m true = false) → (∀ j, listed.getD j true = false → l0.getD j true = false) →
      i ∈ Region.ready .any ops.toArray listed → YA P N ops oi T h v →
      anyY P N X ops K fuel (listed.setIfInBounds i true) (putF T oi.dst v) h → anyY P N X ops K (fuel + 1) listed T h := by
  have hsi := stab_op hst
  have use : ∀ {K' : (Nat → SV) → Heap → Prop} {T : Nat → SV} {h : Heap}, YA P N ops oi T h v → K' (putF T oi.dst v) h → opY P N X ops i K' T h := fun hy hk => by
    unfold opY; simp only [hi, hst, cond_true]; exact ⟨v, hy, hk⟩
  intro fuel
  induction fuel with
  | zero =>
    intro listed T h _ _ hr hy H
    refine ⟨fun h => (by rw [h] at hr; cases hr), fun j hj => ?_⟩
    by_cases hji : j = i
    · subst hji; exact use hy H
    · have := ready_mono hj hji
      rw [H.1] at this
      cases this
  | succ fuel ih =>
    intro listed T h hw hl hr hy H
    refine ⟨fun h => (by rw [h] at hr; cases hr), fun j hj => ?_⟩
    by_cases hji : j = i
    · subst hji; exact use hy H
    · have h1 := H.2 j (ready_mono hj hji)
      obtain ⟨hjun, oj, hoj, hall⟩ := mem_ready.1 hj
      rw [List.getElem?_toArray] at hoj
      have hWj : W j = false := by
        cases hWj : W j with
        | false => rfl
        | true =>
          rcases hW j oj hoj hWj with e | ⟨e, he, hb, hWe⟩
          · exact absurd e hji
          · have h2 := hall e he hb
            have h3 := hw _ hWe
            rcases Nat.lt_or_ge e.on listed.size with h' | h'
            · simp [h'] at h2 h3; rw [h3] at h2; cases h2
            · simp [Array.getElem?_eq_none h'] at h3
      obtain ⟨hap, hkj⟩ := free j oj hoj hWj (hl j hjun)
      have h2 := opY_put hoj hap hsi hkj hy h1
      refine opY_mono hoj hkj (fun T' h' ⟨h3, h4⟩ => ih (listed.setIfInBounds j true) T' h' (fun m hm => ?_) (fun k hk => ?_) (ready_mono hr (Ne.symm hji)) h3 ?_) h2
      · by_cases e : j = m
        · subst e; rw [hWj] at hm; cases hm
        · rw [getD_set_ne true e]; exact hw m hm
      · by_cases e : j = k
        · subst e; exact hl j hjun
        · rw [getD_set_ne true e] at hk; exact hl k hk
      · rw [Array.setIfInBounds_comm _ _ hji]
        exact h4
inductive OY where
  | done
  | nil
  | alt (i : Nat) (b : Bool) (t r : OY)
  | one (i : Nat) (W : List Nat) (t : OY)
def OY.heads : OY → List Nat
  | .alt i _ _ r => i :: r.heads
  | _ => []
def freeAllY (X : List Nat) (ops : List Oper) (oi : Oper) (W : List Nat) (l : Array Bool) : List Oper → Nat → Bool
  | [], _ => true
  | o :: r, j => (hasN W j || l.getD j true || (oi.apart ops.toArray o && kindY X j o)) && freeAllY X ops oi W l r (j + 1)
def oneOkY (X : List Nat) (ops : List Oper) (i : Nat) (W : List Nat) (l : Array Bool) : Bool :=
  match ops[i]? with
  | none => false
  | some oi => stab X i oi && (Region.ready .any ops.toArray l).any (Nat.beq i) &&
    W.all (fun m => !l.getD m true && (Nat.beq m i || (match ops[m]? with
      | none => false
      | some om => om.after.any fun e => Region.binds .any e && hasN W e.on))) && freeAllY X ops oi W l ops 0
def OY.root (X : List Nat) (ops : List Oper) (t : OY) (l : Array Bool) : Bool := match t with
  | .done => (Region.ready .any ops.toArray l).isEmpty
  | .nil => false
  | .one i W _ => oneOkY X ops i W l
  | t => Region.ready .any ops.toArray l == t.heads
def OY.chk (X : List Nat) (ops : List Oper) : OY → Nat → Array Bool → Bool
  | .alt i b t r, 0, l => false
  | .alt i b t r, f + 1, l => (b == hasN X i) && t.root X ops (l.setIfInBounds i true) && t.chk X ops f (l.setIfInBounds i true) && r.chk X ops (f + 1) l
  | .one i W t, 0, l => false
  | .one i W t, f + 1, l => t.root X ops (l.setIfInBounds i true) && t.chk X ops f (l.setIfInBounds i true)
  | _, _, _ => true
def stY [Gl] (P : Program) (N : Nat) (ops : List Oper) (b : Bool) (o : Option Oper) (K : St → Prop) (S : St) : Prop := match o with
  | some o => gstep ops N o.guard o.dst (bif b then stepK P N o K else stepD P N o K) K S
  | none => True
def vcY [Gl] (P : Program) (N : Nat) (ops : List Oper) (K : St → Prop) : OY → St → Prop
  | .done, S => K S
  | .nil, S => True
  | .alt i b t r, S => stY P N ops b ops[i]? (vcY P N ops K t) S ∧ vcY P N ops K r S
  | .one i _ t, S => stY P N ops false ops[i]? (vcY P N ops K t) S
theorem freeAllY_spec {X : List Nat} {ops : List Oper} {oi : Oper} {W : List Nat} {l : Array Bool} : ∀ (r : List Oper) (k : Nat), freeAllY X ops oi W l r k = true →
    ∀ j o, r[j]? = some o → hasN W (k + j) = false → l.getD (k + j) true = false → oi.apart ops.toArray o = true ∧ kindY X (k + j) o = true
  | [], _, _, j, o, ho, _, _ => by simp at ho
  | x :: r, k, h, j, o, ho, h1, h2 => by
    simp only [freeAllY, Bool.and_eq_true] at h
    cases j with
    | zero =>
      simp only [List.getElem?_cons_zero, Option.some.injEq] at ho
      subst ho
      have := h.1
      rw [Nat.add_zero] at h1 h2
      rw [h1, h2, Bool.false_or, Bool.false_or, Bool.and_eq_true] at this
      exact this
    | succ j =>
      have e : k + (j + 1) = k + 1 + j := by omega
      rw [e]
      exact freeAllY_spec r (k + 1) h.2 j o (by simpa using ho) (by rw [← h1]; congr 1; omega) (by rw [← h2]; congr 1; omega)
theorem opY_of [Gl] {X : List Nat} {ops : List Oper} {i : Nat} {o : Oper} (ho : ops[i]? = some o) {K : St → Prop} {K' : (Nat → SV) → Heap → Prop} (hk : ∀ S, K S → K' (look S.t) S.h) {S : St} {b : Bool} (hb : b = hasN X i) (h : stY P N ops b (some o) K S) : opY P N X ops i K' (look S.t) S.h := by
  simp only [stY] at h
  have hf : stab X i o = false → gstep ops N o.guard o.dst (stepK P N o K) K S := fun hs => by
    cases b with
    | true => exact h
    | false =>
      rw [stab, ← hb] at hs
      simp only [Bool.not_false, Bool.and_true] at hs
      refine gstep_mono (fun S' hS => ?_) (fun S' hS => hS) h
      simp only [cond_false] at hS
      unfold stepD at hS
      rw [hs] at hS
      exact hS
  unfold opY
  simp only [ho]
  cases hs : stab X i o with
  | true =>
    simp only [cond_true]
    have hx : hasN X i = false := by
      unfold stab at hs
      rw [Bool.and_eq_true] at hs
      simpa using hs.2
    rw [hb, hx, cond_false] at h
    obtain ⟨S1, v, e1, e2, hy, hK⟩ := sstep_of (stab_op hs) h
    have := hk _ hK
    rw [look_put, h_put, e1, e2] at this
    exact ⟨v, hy, this⟩
  | false =>
    simp only [cond_false]
    cases hn : (newOp o.op && o.guard.isNone) with
    | true =>
      simp only [cond_true]
      rw [Bool.and_eq_true] at hn
      have hgo : o.guard = none := by simpa using hn.2
      have h := hf hs
      rw [hgo] at h
      simp only [gstep] at h
      obtain ⟨hd, hv⟩ := h
      refine ⟨hd, ?_⟩
      rw [← ev_look]
      unfold resK at hv
      unfold resN
      split at hv
      · rename_i pre v hx
        rw [hx]
        have := hk _ hv.2
        rw [look_put, h_put] at this
        exact ⟨hv.1, this⟩
      · rename_i pre k mk hx
        rw [hx]
        refine ⟨hv.1, fun b hb => ?_⟩
        have := hk _ (hv.2 b hb)
        rw [look_put, h_put] at this
        exact this
      · exfalso
        have hno := hn.1
        unfold newOp at hno
        split at hno
        all_goals first | (cases hno; done) | skip
        all_goals (rename_i e; rw [e] at hv; simp [effK] at hv)
    | false =>
      simp only [cond_false]
      refine ⟨S, rfl, rfl, ?_⟩
      exact gstep_mono (fun S' hS => stepK_mono (fun S'' hS => hk _ hS) hS) (fun S' hS => hk _ hS) (hf hs)
theorem vcY_sound [Gl] {X : List Nat} {ops : List Oper} {K : St → Prop} {K' : (Nat → SV) → Heap → Prop} (hk : ∀ S, K S → K' (look S.t) S.h) : ∀ (t : OY),
    (∀ (f : Nat) (l : Array Bool) (S : St), t.root X ops l = true → t.chk X ops f l = true → vcY P N ops K t S → anyY P N X ops K' f l (look S.t) S.h) ∧
    (∀ (f : Nat) (l : Array Bool) (S : St), t.chk X ops (f + 1) l = true → vcY P N ops K t S → ∀ i ∈ t.heads, i ∈ Region.ready .any ops.toArray l → opY P N X ops i (anyY P N X ops K' f (l.setIfInBounds i true)) (look S.t) S.h)
  | .done => by
    refine ⟨fun f l S h1 h2 h3 => ?_, fun f l S _ _ i hi => by cases hi⟩
    have h0 : Region.ready .any ops.toArray l = [] := by simpa [OY.root] using h1
    cases f with
    | zero => exact ⟨h0, hk S h3⟩
    | succ f => exact ⟨fun _ => hk S h3, fun i hi => by rw [h0] at hi; cases hi⟩
  | .nil => ⟨fun f l S h1 h2 h3 => (by cases h1), fun f l S _ _ i hi => by cases hi⟩
  | .one i W t => by
    obtain ⟨ht, _⟩ := vcY_sound hk t
    refine ⟨fun f l S h1 h2 h3 => ?_, fun f l S _ _ i hi => by cases hi⟩
    cases f with
    | zero => cases h2
    | succ f =>
      simp only [OY.root] at h1
      unfold oneOkY at h1
      split at h1
      · cases h1
      · rename_i oi hi
        simp only [vcY, hi, stY] at h3
        simp only [OY.chk, Bool.and_eq_true] at h2
        simp only [Bool.and_eq_true] at h1
        obtain ⟨⟨⟨c1, c2⟩, c3⟩, c4⟩ := h1
        have hx : hasN X i = false := by
          have h5 := c1
          unfold stab at h5
          rw [Bool.and_eq_true] at h5
          simpa using h5.2
        simp only [cond_false] at h3
        obtain ⟨S1, v, e1, e2, hy, hK⟩ := sstep_of (stab_op c1) h3
        have hn := ht f _ _ h2.1 h2.2 hK
        rw [look_put, h_put, e1, e2] at hn
        rw [List.all_eq_true] at c3
        have c3' : ∀ m, hasN W m = true → l.getD m true = false ∧ (m = i ∨ ∃ om, ops[m]? = some om ∧ ∃ e ∈ om.after, Region.binds .any e = true ∧ hasN W e.on = true) := fun m hm => by
          have := c3 m (hasN_iff.1 hm)
          simp only [Bool.and_eq_true, Bool.not_eq_true', Bool.or_eq_true, Nat.beq_eq] at this
          refine ⟨this.1, this.2.imp id fun h => ?_⟩
          split at h
          · cases h
          · rename_i om hom
            rw [Array.any_eq_true'] at h
            obtain ⟨e, he, h⟩ := h
            rw [Bool.and_eq_true] at h
            exact ⟨om, hom, e, he, h.1, h.2⟩
        refine anyY_first hi c1 (hasN W) (fun m om hm hW => ?_) l (fun j oj hj h1 h2 => ?_) f l _ _ (fun m hm => (c3' m hm).1) (fun j hj => hj) ?_ hy hn
        · rcases (c3' m hW).2 with e | ⟨om', h1, h2⟩
          · exact .inl e
          · rw [hm] at h1
            cases h1
            exact .inr h2
        · have h9 := freeAllY_spec ops 0 c4 j oj hj (by rw [Nat.zero_add]; exact h1) (by rw [Nat.zero_add]; exact h2)
          rw [Nat.zero_add] at h9
          exact h9
        · rw [List.any_eq_true] at c2
          obtain ⟨x, hx, he⟩ := c2
          rw [Nat.beq_eq] at he
          exact he ▸ hx
  | .alt i b t r => by
    obtain ⟨ht, _⟩ := vcY_sound hk t
    obtain ⟨_, hrr⟩ := vcY_sound hk r
    have B : ∀ (f : Nat) (l : Array Bool) (S : St), (OY.alt i b t r).chk X ops (f + 1) l = true → vcY P N ops K (.alt i b t r) S → ∀ j ∈ (OY.alt i b t r).heads, j ∈ Region.ready .any ops.toArray l → opY P N X ops j (anyY P N X ops K' f (l.setIfInBounds j true)) (look S.t) S.h := by
      intro f l S hc hv j hj hrd
      simp only [OY.chk, Bool.and_eq_true] at hc
      obtain ⟨⟨⟨c0, c1⟩, c2⟩, c3⟩ := hc
      have c0 : b = hasN X i := by simpa using c0
      obtain ⟨v1, v2⟩ := hv
      rcases List.mem_cons.1 hj with rfl | hj
      · obtain ⟨_, o, ho, _⟩ := mem_ready.1 hrd
        rw [List.getElem?_toArray] at ho
        rw [ho] at v1
        exact opY_of ho (hb := c0) (hk := fun S' hS => ht f _ S' c1 c2 hS) (h := v1)
      · exact hrr f l S c3 v2 j hj hrd
    refine ⟨fun f l S h1 h2 h3 => ?_, B⟩
    have h0 : Region.ready .any ops.toArray l = (OY.alt i b t r).heads := by simpa [OY.root] using h1
    cases f with
    | zero => simp [OY.chk] at h2
    | succ f =>
      refine ⟨fun he => ?_, fun j hj => B f l S h2 h3 j (by rw [← h0]; exact hj) hj⟩
      rw [h0] at he
      cases he
end
theorem SW.regionY [Gl] {P : Program} {N : Nat} (X : List Nat) {id : Nat} {ops : List Oper} {Q : Exit → St → Prop} {S : St} (hm : P.follows .mixedOrders = true) (T : OY) (hB : (T.root X ops (Array.replicate ops.length false) && T.chk X ops ops.length (Array.replicate ops.length false)) = true)
    (h : vcY P N ops (Q .normal) T S) : SW P N (.region id ops.toArray true) Q S := SW.mk fun M w0 D a w hr => by
  rw [Bool.and_eq_true] at hB
  refine wp_region_any hm ?_
  have hr' : Rel M w0 D N S a (drw w) := ⟨hr.defers, hr.n, fun i => (hr.t i).mono (env_drw _ _), hr.own.drw, hr.frm.trans (frm_drw (fun _ => False) w) (fun _ _ x => x.elim), hr.new⟩
  have h1 := (vcY_sound (K' := fun T h => ∃ S', look S'.t = T ∧ S'.h = h ∧ Q .normal S') (fun S hS => ⟨S, rfl, rfl, hS⟩) T).1 ops.length _ S hB.1 hB.2 h
  have h2 := anyY_sound (Q := fun e a' w' => ∃ S', Q e S' ∧ Rel M w0 D N S' a' w') (K := fun T h => ∃ S', look S'.t = T ∧ S'.h = h ∧ Q .normal S') (fun S a w ⟨S', e1, e2, hx⟩ hr => ⟨S', hx, hr.look_eq e1 e2⟩) _ _ S a _ hr' h1
  simpa [drw] using h2
theorem vcY_done [Gl] {P : Program} {N : Nat} {ops : List Oper} {K : St → Prop} {S : St} : vcY P N ops K .done S = K S := propext ⟨fun h => h, fun h => h⟩
theorem vcY_nil [Gl] {P : Program} {N : Nat} {ops : List Oper} {K : St → Prop} {S : St} : vcY P N ops K .nil S = True := propext ⟨fun h => h, fun h => h⟩
theorem vcY_alt [Gl] {P : Program} {N : Nat} {ops : List Oper} {K : St → Prop} {i : Nat} {b : Bool} {t r : OY} {S : St} : vcY P N ops K (.alt i b t r) S = (stY P N ops b ops[i]? (vcY P N ops K t) S ∧ vcY P N ops K r S) := propext ⟨fun h => h, fun h => h⟩
theorem vcY_one [Gl] {P : Program} {N : Nat} {ops : List Oper} {K : St → Prop} {i : Nat} {W : List Nat} {t : OY} {S : St} : vcY P N ops K (.one i W t) S = stY P N ops false ops[i]? (vcY P N ops K t) S := propext ⟨fun h => h, fun h => h⟩
theorem stY_plain [Gl] {P : Program} {N : Nat} {ops : List Oper} {d : Option Tmp} {op : Op} {ty : TypeId} {ps : String} {af : Array Edge} {K : St → Prop} {S : St} : stY P N ops false (some ⟨d, op, ty, ps, af, none⟩) K S = stepD P N ⟨d, op, ty, ps, af, none⟩ K S := propext ⟨fun h => h, fun h => h⟩
theorem stY_plainX [Gl] {P : Program} {N : Nat} {ops : List Oper} {d : Option Tmp} {op : Op} {ty : TypeId} {ps : String} {af : Array Edge} {K : St → Prop} {S : St} : stY P N ops true (some ⟨d, op, ty, ps, af, none⟩) K S = stepK P N ⟨d, op, ty, ps, af, none⟩ K S := propext ⟨fun h => h, fun h => h⟩
theorem stY_guard [Gl] {P : Program} {N : Nat} {ops : List Oper} {d : Option Tmp} {op : Op} {ty : TypeId} {ps : String} {af : Array Edge} {j : Nat} {want : Bool} {K : St → Prop} {S : St} : stY P N ops false (some ⟨d, op, ty, ps, af, some (j, want)⟩) K S =
    guardK (gdst ops j) want S (stepD P N ⟨d, op, ty, ps, af, some (j, want)⟩ K) (fun S => dstOk N d ∧ K (S.put d (.sc undef))) := propext ⟨fun h => h, fun h => h⟩
theorem stY_guardX [Gl] {P : Program} {N : Nat} {ops : List Oper} {d : Option Tmp} {op : Op} {ty : TypeId} {ps : String} {af : Array Edge} {j : Nat} {want : Bool} {K : St → Prop} {S : St} : stY P N ops true (some ⟨d, op, ty, ps, af, some (j, want)⟩) K S =
    guardK (gdst ops j) want S (stepK P N ⟨d, op, ty, ps, af, some (j, want)⟩ K) (fun S => dstOk N d ∧ K (S.put d (.sc undef))) := propext ⟨fun h => h, fun h => h⟩
attribute [go_sem] vcY_done vcY_nil vcY_alt vcY_one stY_plain stY_guard stY_plainX stY_guardX
end Go.Ab
