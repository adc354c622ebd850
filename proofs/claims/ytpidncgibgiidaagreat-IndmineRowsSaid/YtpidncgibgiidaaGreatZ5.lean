/- The abstract layer, part Z5: regions that draw their order, walked in every order. -/
import Derived.Test.YtpidncgibgiidaaGreatZ3
set_option linter.unusedVariables false
set_option linter.unusedSectionVars false
set_option linter.unusedSimpArgs false
namespace Go.Ab
open Go.RowKit
inductive OT where
  | done
  | nil
  | alt (i : Nat) (t r : OT)
def OT.heads : OT → List Nat
  | .alt i _ r => i :: r.heads
  | _ => []
def OT.root (ops : List Oper) (t : OT) (l : Array Bool) : Bool := match t with
  | .done => (Region.ready .any ops.toArray l).isEmpty
  | .nil => false
  | t => Region.ready .any ops.toArray l == t.heads
def OT.chk (ops : List Oper) : OT → Nat → Array Bool → Bool
  | .alt i t r, 0, l => false
  | .alt i t r, f + 1, l => t.root ops (l.setIfInBounds i true) && t.chk ops f (l.setIfInBounds i true) && r.chk ops (f + 1) l
  | _, _, _ => true
section
variable {P : Program} {M : Nat → Prop} {w0 : World} {D : Nat → Prop} {N : Nat}
end
/-! ### stable operations are taken first, beside operations that make blocks -/
section
variable {P : Program} {M : Nat → Prop} {w0 : World} {D : Nat → Prop} {N : Nat}
theorem valOp_fresh {op : Op} {ρ : Operand → SV} {h : Heap} {pre : Prop} {v : SV} {b : Nat} {k : Blk} (hs : stableOp op = true) (hb : fresh h b) (hv : valOp P op ρ h = .ok pre v) : valOp P op ρ ((b, k) :: h) = .ok pre v := by
  have ld : ∀ T x, loadSV T x h = .ok pre v → loadSV T x ((b, k) :: h) = .ok pre v := by
    intro T x hl
    unfold loadSV at hl ⊢
    split at hl <;> first | exact hl | skip
    all_goals
      rename_i c off
      cases hf : h.find c with
      | none => rw [hf] at hl; cases hl
      | some k' =>
        rw [hf] at hl
        have hne : b ≠ c := fun e => not_has_of_fresh hb (e ▸ ⟨k', Heap.find_mem hf⟩)
        rw [find_cons, if_neg hne, hf]
        exact hl
  have fr : ∀ c k', h.find c = some k' → Heap.find ((b, k) :: h) c = some k' := fun c k' hf => by
    have hne : b ≠ c := fun e => not_has_of_fresh hb (e ▸ ⟨k', Heap.find_mem hf⟩)
    rw [find_cons, if_neg hne, hf]
  have sx : ∀ A st L x lo hi mx, sliceX A st L x lo hi mx h = .ok pre v → sliceX A st L x lo hi mx ((b, k) :: h) = .ok pre v := by
    intro A st L x lo hi mx hl
    unfold sliceX at hl ⊢
    split at hl
    · unfold arrSl at hl ⊢
      split at hl
      · cases hl
      · split at hl
        · split at hl
          · rename_i c off
            cases hf : h.find c with
            | none => rw [hf] at hl; cases hl
            | some k' =>
              rw [hf] at hl
              rw [fr c k' hf]
              exact hl
          · exact hl
          · cases hl
        · cases hl
    · exact hl
  have cx : ∀ bs kd sd x, convX bs kd sd x h = .ok pre v → convX bs kd sd x ((b, k) :: h) = .ok pre v := by
    intro bs kd sd x hl
    unfold convX at hl ⊢
    split at hl
    · rename_i c off n sz
      cases hq : (bs && sd && Nat.beq sz 1) with
      | false => rw [hq] at hl; cases hl
      | true =>
        rw [hq] at hl
        simp only [cond_true] at hl ⊢
        cases hf : h.find c with
        | none => rw [hf] at hl; cases hl
        | some k' =>
          rw [hf] at hl
          rw [fr c k' hf]
          exact hl
    · exact hl
    · exact hl
  cases op <;> first | exact hv | (exact ld _ _ hv) | (exact sx _ _ _ _ _ _ _ hv) | skip
  · rename_i s d x
    simp only [valOp] at hv ⊢
    cases hs : (P.underlying s).isSome with
    | false => rw [hs] at hv; cases hv
    | true =>
      rw [hs, cond_true] at hv
      rw [cond_true]
      exact cx _ _ _ _ hv
  case lookup => exact (Bool.false_ne_true hs).elim
  rename_i c
  unfold valOp at hv ⊢
  split at hv <;> first | exact hv | (simp_all; done) | (rename_i e; cases e; exact hv)
def kindZ (o : Oper) : Bool := stableOp o.op || (newOp o.op && o.guard.isNone)
def opZ [Gl] (P : Program) (N : Nat) (ops : List Oper) (i : Nat) (K : (Nat → SV) → Heap → Prop) (T : Nat → SV) (h : Heap) : Prop :=
  match ops[i]? with
  | none => K T h
  | some o => bif stableOp o.op then ∃ v, YA P N ops o T h v ∧ K (putF T o.dst v) h
    else bif newOp o.op && o.guard.isNone then dstOk N o.dst ∧ resN (valOp P o.op (evF T) h) o.dst K T h
    else ∃ S, look S.t = T ∧ S.h = h ∧ gstep ops N o.guard o.dst (stepK P N o (fun S => K (look S.t) S.h)) (fun S => K (look S.t) S.h) S
def anyZ [Gl] (P : Program) (N : Nat) (ops : List Oper) (K : (Nat → SV) → Heap → Prop) : Nat → Array Bool → (Nat → SV) → Heap → Prop
  | 0, listed, T, h => Region.ready .any ops.toArray listed = [] ∧ K T h
  | f + 1, listed, T, h => (Region.ready .any ops.toArray listed = [] → K T h) ∧
    ∀ i ∈ Region.ready .any ops.toArray listed, opZ P N ops i (anyZ P N ops K f (listed.setIfInBounds i true)) T h
theorem YA_fresh [Gl] {ops : List Oper} {o : Oper} {T : Nat → SV} {h : Heap} {v : SV} {b : Nat} {k : Blk} (hs : stableOp o.op = true) (hb : fresh h b) (hy : YA P N ops o T h v) : YA P N ops o T ((b, k) :: h) v := by
  obtain ⟨hd, hy⟩ := hy
  refine ⟨hd, hy.imp (fun ⟨hw, hy⟩ => ⟨hw, ?_⟩) id⟩
  rcases hy with ⟨pre, h1, h2⟩ | hc
  · exact .inl ⟨pre, valOp_fresh hs hb h1, h2⟩
  · exact .inr hc
theorem anyZ_sound [Gl] {ops : List Oper} {Q : Exit → Act → World → Prop} {K : (Nat → SV) → Heap → Prop} (hK : ∀ S a w, K (look S.t) S.h → Rel M w0 D N S a w → Q .normal a w) :
    ∀ (f : Nat) (listed : Array Bool) (S : St) (a : Act) (w : World), Rel M w0 D N S a w → anyZ P N ops K f listed (look S.t) S.h → wpAny P .any ops.toArray Q f listed a w
  | 0, listed, S, a, w, hr, h => ⟨h.1, hK S a w h.2 hr⟩
  | f + 1, listed, S, a, w, hr, h => by
    refine ⟨fun h0 => hK S a w (h.1 h0) hr, fun i hi => ?_⟩
    have hop := h.2 i hi
    unfold opZ at hop
    unfold wpOp
    simp only [List.getElem?_toArray]
    split
    · rename_i ho
      simp only [ho] at hop
      exact anyZ_sound hK f _ S a w hr hop
    · rename_i o ho
      simp only [ho] at hop
      by_cases hs : stableOp o.op = true
      · rw [hs] at hop
        simp only [cond_true] at hop
        obtain ⟨v, ⟨hd, hy⟩, hn⟩ := hop
        have next : ∀ a' w', Rel M w0 D N (S.put o.dst v) a' w' → wpAny P .any ops.toArray Q f (listed.setIfInBounds i true) a' w' := fun a' w' hr' =>
          anyZ_sound hK f _ (S.put o.dst v) a' w' hr' (by rw [look_put, h_put]; exact hn)
        rcases hy with ⟨hw, hy⟩ | ⟨hw, rfl⟩
        · rw [if_pos (yielded_F hr hw)]
          exact .inl (yld_sound hr hd hy next)
        · rw [if_neg (by rw [yielded_F hr hw]; simp)]
          exact next _ _ (hr.put' hd (.sc _))
      · simp only [Bool.not_eq_true] at hs
        rw [hs] at hop
        simp only [cond_false] at hop
        cases hn : (newOp o.op && o.guard.isNone) with
        | true =>
          rw [hn] at hop
          simp only [cond_true] at hop
          rw [Bool.and_eq_true] at hn
          have hgo : o.guard = none := by simpa using hn.2
          obtain ⟨hd, hv⟩ := hop
          rw [if_pos (by unfold Region.wanted; rw [hgo])]
          refine .inl (Oper.wp_mono (fun a' w' ⟨S'', h1, h2⟩ => anyZ_sound hK f _ S'' a' w' h2 h1) (stepK_sound (K := fun S' => anyZ P N ops K f (listed.setIfInBounds i true) (look S'.t) S'.h) hr ?_))
          refine ⟨hd, ?_⟩
          rw [ev_look]
          unfold resN at hv
          unfold resK
          split at hv
          · rename_i pre v hx
            rw [hx]
            exact ⟨hv.1, by show anyZ _ _ _ _ _ _ (look (S.put o.dst v).t) (S.put o.dst v).h; rw [look_put, h_put]; exact hv.2⟩
          · rename_i pre k mk hx
            rw [hx]
            exact ⟨hv.1, fun b hb => by show anyZ _ _ _ _ _ _ (look ((⟨S.t, (b, k) :: S.h⟩ : St).put o.dst (mk b)).t) ((⟨S.t, (b, k) :: S.h⟩ : St).put o.dst (mk b)).h; rw [look_put, h_put]; exact hv.2 b hb⟩
          · exact hv.elim
        | false =>
          rw [hn] at hop
          simp only [cond_false] at hop
          obtain ⟨S1, e1, e2, hg⟩ := hop
          have hr1 := hr.look_eq e1 e2
          obtain ⟨S', hr', h'⟩ := gstep_sound (ops := ops) hr1 hg
          rcases h' with ⟨hw, hA⟩ | ⟨hw, hd, hB⟩
          · rw [if_pos hw]
            exact .inl (Oper.wp_mono (fun a' w' ⟨S'', h1, h2⟩ => anyZ_sound hK f _ S'' a' w' h2 h1) (stepK_sound hr' hA))
          · rw [if_neg (by rw [hw]; simp)]
            exact anyZ_sound hK f _ _ _ _ (hr'.put' hd (.sc _)) hB
theorem opZ_put [Gl] {ops : List Oper} {h : Heap} {j : Nat} {oi oj : Oper} {v : SV} (hj : ops[j]? = some oj) (hap : oi.apart ops.toArray oj = true) (hsi : stableOp oi.op = true) (hsj : kindZ oj = true)
    {K : (Nat → SV) → Heap → Prop} {T : Nat → SV} (hy : YA P N ops oi T h v) (hh : opZ P N ops j K (putF T oi.dst v) h) :
    opZ P N ops j (fun T' h' => YA P N ops oi T' h' v ∧ K (putF T' oi.dst v) h') T h := by
  obtain ⟨h1, h2, h3⟩ := Oper.apart_spec hap
  unfold opZ at hh ⊢
  simp only [hj] at hh ⊢
  cases hs : stableOp oj.op with
  | true =>
    rw [hs] at hh
    simp only [cond_true] at hh ⊢
    obtain ⟨u, hu, hn⟩ := hh
    exact ⟨u, (YA_putF hs (fun t ht => h1 t ht)).1 hu, (YA_putF hsi (fun t ht => h3 t ht)).2 hy, by rw [← putF_comm T v u h2]; exact hn⟩
  | false =>
    unfold kindZ at hsj
    rw [hs, Bool.false_or] at hsj
    rw [hs, hsj] at hh
    simp only [cond_true, cond_false, hsj] at hh ⊢
    rw [Bool.and_eq_true] at hsj
    obtain ⟨hd, hv⟩ := hh
    have hdet : detOp oj.op = true := by
      unfold detOp
      rw [hsj.1, Bool.or_true, Bool.and_true]
      cases ho : oj.op <;> first | rfl | (rw [ho] at hsj; simp [newOp] at hsj)
    refine ⟨hd, ?_⟩
    have he : valOp P oj.op (evF T) h = valOp P oj.op (evF (putF T oi.dst v)) h := valOp_congrN hdet h (fun x hx => (evF_putF (ops := ops) (o := oj) (fun t ht => h1 t ht) x hx).symm)
    rw [← he] at hv
    generalize valOp P oj.op (evF T) h = R at hv ⊢
    unfold resN at hv ⊢
    cases R with
    | ok pre u =>
      exact ⟨hv.1, (YA_putF hsi (fun t ht => h3 t ht)).2 hy, by rw [← putF_comm T v _ h2]; exact hv.2⟩
    | new pre k mk =>
      exact ⟨hv.1, fun b hb => ⟨YA_fresh hsi hb ((YA_putF hsi (fun t ht => h3 t ht)).2 hy), by rw [← putF_comm T v _ h2]; exact hv.2 b hb⟩⟩
    | bad => exact hv.elim
theorem opZ_mono [Gl] {ops : List Oper} {h : Heap} {i : Nat} {o : Oper} (ho : ops[i]? = some o) (hs : kindZ o = true) {K K' : (Nat → SV) → Heap → Prop} {T : Nat → SV} (hk : ∀ T h, K T h → K' T h) (hh : opZ P N ops i K T h) : opZ P N ops i K' T h := by
  unfold opZ at hh ⊢
  simp only [ho] at hh ⊢
  cases h1 : stableOp o.op with
  | true =>
    rw [h1] at hh
    simp only [cond_true] at hh ⊢
    obtain ⟨v, hy, hn⟩ := hh
    exact ⟨v, hy, hk _ _ hn⟩
  | false =>
    unfold kindZ at hs
    rw [h1, Bool.false_or] at hs
    rw [h1, hs] at hh
    simp only [cond_true, cond_false, hs] at hh ⊢
    obtain ⟨hd, hv⟩ := hh
    refine ⟨hd, ?_⟩
    unfold resN at hv ⊢
    split at hv
    · exact ⟨hv.1, hk _ _ hv.2⟩
    · exact ⟨hv.1, fun b hb => hk _ _ (hv.2 b hb)⟩
    · exact hv
theorem anyZ_first [Gl] {ops : List Oper} {K : (Nat → SV) → Heap → Prop} {i : Nat} {oi : Oper} {v : SV} (hi : ops[i]? = some oi) (hsi : stableOp oi.op = true) (W : Nat → Bool)
    (hW : ∀ m om, ops[m]? = some om → W m = true → m = i ∨ ∃ e ∈ om.after, Region.binds .any e = true ∧ W e.on = true) (l0 : Array Bool)
    (free : ∀ j oj, ops[j]? = some oj → W j = false → l0.getD j true = false → oi.apart ops.toArray oj = true ∧ kindZ oj = true) :
    ∀ (fuel : Nat) (listed : Array Bool) (T : Nat → SV) (h : Heap), (∀ m, W m = true → listed.getD m true = false) → (∀ j, listed.getD j true = false → l0.getD j true = false) →
      i ∈ Region.ready .any ops.toArray listed → YA P N ops oi T h v →
      anyZ P N ops K fuel (listed.setIfInBounds i true) (putF T oi.dst v) h → anyZ P N ops K (fuel + 1) listed T h := by
  have use : ∀ {K' : (Nat → SV) → Heap → Prop} {T : Nat → SV} {h : Heap}, YA P N ops oi T h v → K' (putF T oi.dst v) h → opZ P N ops i K' T h := fun hy hk => by
    unfold opZ; simp only [hi, hsi, cond_true]; exact ⟨v, hy, hk⟩
  intro fuel
  induction fuel with
  | zero =>
    intro listed T h _ _ hr hy H
    refine ⟨fun h => (by rw [h] at hr; cases hr), fun j hj => ?_⟩
    by_cases hji : j = i
    · subst hji; exact use hy H
    · have := ready_mono hj hji
      rw [H.1] at this
      cases this
  | succ fuel ih =>
    intro listed T h hw hl hr hy H
    refine ⟨fun h => (by rw [h] at hr; cases hr), fun j hj => ?_⟩
    by_cases hji : j = i
    · subst hji; exact use hy H
    · have h1 := H.2 j (ready_mono hj hji)
      obtain ⟨hjun, oj, hoj, hall⟩ := mem_ready.1 hj
      rw [List.getElem?_toArray] at hoj
      have hWj : W j = false := by
        cases hWj : W j with
        | false => rfl
        | true =>
          rcases hW j oj hoj hWj with e | ⟨e, he, hb, hWe⟩
          · exact absurd e hji
          · have h2 := hall e he hb
            have h3 := hw _ hWe
            rcases Nat.lt_or_ge e.on listed.size with h' | h'
            · simp [h'] at h2 h3; rw [h3] at h2; cases h2
            · simp [Array.getElem?_eq_none h'] at h3
      obtain ⟨hap, hkj⟩ := free j oj hoj hWj (hl j hjun)
      have h2 := opZ_put hoj hap hsi hkj hy h1
      refine opZ_mono hoj hkj (fun T' h' ⟨h3, h4⟩ => ih (listed.setIfInBounds j true) T' h' (fun m hm => ?_) (fun k hk => ?_) (ready_mono hr (Ne.symm hji)) h3 ?_) h2
      · by_cases e : j = m
        · subst e; rw [hWj] at hm; cases hm
        · rw [getD_set_ne true e]; exact hw m hm
      · by_cases e : j = k
        · subst e; exact hl j hjun
        · rw [getD_set_ne true e] at hk; exact hl k hk
      · rw [Array.setIfInBounds_comm _ _ hji]
        exact h4
inductive OZ where
  | done
  | nil
  | alt (i : Nat) (t r : OZ)
  | one (i : Nat) (W : List Nat) (t : OZ)
def OZ.heads : OZ → List Nat
  | .alt i _ r => i :: r.heads
  | _ => []
def hasN (W : List Nat) (m : Nat) : Bool := W.any (Nat.beq m)
def freeAll (ops : List Oper) (oi : Oper) (W : List Nat) (l : Array Bool) : List Oper → Nat → Bool
  | [], _ => true
  | o :: r, j => (hasN W j || l.getD j true || (oi.apart ops.toArray o && kindZ o)) && freeAll ops oi W l r (j + 1)
def oneOk (ops : List Oper) (i : Nat) (W : List Nat) (l : Array Bool) : Bool :=
  match ops[i]? with
  | none => false
  | some oi => stableOp oi.op && (Region.ready .any ops.toArray l).any (Nat.beq i) &&
    W.all (fun m => !l.getD m true && (Nat.beq m i || (match ops[m]? with
      | none => false
      | some om => om.after.any fun e => Region.binds .any e && hasN W e.on))) && freeAll ops oi W l ops 0
def OZ.root (ops : List Oper) (t : OZ) (l : Array Bool) : Bool := match t with
  | .done => (Region.ready .any ops.toArray l).isEmpty
  | .nil => false
  | .one i W _ => oneOk ops i W l
  | t => Region.ready .any ops.toArray l == t.heads
def OZ.chk (ops : List Oper) : OZ → Nat → Array Bool → Bool
  | .alt i t r, 0, l => false
  | .alt i t r, f + 1, l => t.root ops (l.setIfInBounds i true) && t.chk ops f (l.setIfInBounds i true) && r.chk ops (f + 1) l
  | .one i W t, 0, l => false
  | .one i W t, f + 1, l => t.root ops (l.setIfInBounds i true) && t.chk ops f (l.setIfInBounds i true)
  | _, _, _ => true
def stZ [Gl] (P : Program) (N : Nat) (ops : List Oper) (o : Option Oper) (K : St → Prop) (S : St) : Prop := match o with
  | some o => gstep ops N o.guard o.dst (stepD P N o K) K S
  | none => True
def vcZ [Gl] (P : Program) (N : Nat) (ops : List Oper) (K : St → Prop) : OZ → St → Prop
  | .done, S => K S
  | .nil, S => True
  | .alt i t r, S => stZ P N ops ops[i]? (vcZ P N ops K t) S ∧ vcZ P N ops K r S
  | .one i _ t, S => stZ P N ops ops[i]? (vcZ P N ops K t) S
theorem hasN_iff {W : List Nat} {m : Nat} : hasN W m = true ↔ m ∈ W := by
  unfold hasN
  rw [List.any_eq_true]
  exact ⟨fun ⟨x, hx, he⟩ => by rw [Nat.beq_eq] at he; exact he ▸ hx, fun h => ⟨m, h, by rw [Nat.beq_eq]⟩⟩
theorem freeAll_spec {ops : List Oper} {oi : Oper} {W : List Nat} {l : Array Bool} : ∀ (r : List Oper) (k : Nat), freeAll ops oi W l r k = true →
    ∀ j o, r[j]? = some o → hasN W (k + j) = false → l.getD (k + j) true = false → oi.apart ops.toArray o = true ∧ kindZ o = true
  | [], _, _, j, o, ho, _, _ => by simp at ho
  | x :: r, k, h, j, o, ho, h1, h2 => by
    simp only [freeAll, Bool.and_eq_true] at h
    cases j with
    | zero =>
      simp only [List.getElem?_cons_zero, Option.some.injEq] at ho
      subst ho
      have := h.1
      rw [Nat.add_zero] at h1 h2
      rw [h1, h2, Bool.false_or, Bool.false_or, Bool.and_eq_true] at this
      exact this
    | succ j =>
      exact freeAll_spec r (k + 1) h.2 j o (by simpa using ho) (by rw [← h1]; congr 1; omega) (by rw [← h2]; congr 1; omega)
theorem opZ_of [Gl] {ops : List Oper} {i : Nat} {o : Oper} (ho : ops[i]? = some o) {K : St → Prop} {K' : (Nat → SV) → Heap → Prop} (hk : ∀ S, K S → K' (look S.t) S.h) {S : St} (h : stZ P N ops (some o) K S) : opZ P N ops i K' (look S.t) S.h := by
  simp only [stZ] at h
  unfold opZ
  simp only [ho]
  cases hs : stableOp o.op with
  | true =>
    simp only [cond_true]
    obtain ⟨S1, v, e1, e2, hy, hK⟩ := sstep_of hs h
    have := hk _ hK
    rw [look_put, h_put, e1, e2] at this
    exact ⟨v, hy, this⟩
  | false =>
    simp only [cond_false]
    cases hn : (newOp o.op && o.guard.isNone) with
    | true =>
      simp only [cond_true]
      rw [Bool.and_eq_true] at hn
      have hgo : o.guard = none := by simpa using hn.2
      rw [hgo] at h
      simp only [gstep, stepD, hs, cond_false] at h
      obtain ⟨hd, hv⟩ := h
      refine ⟨hd, ?_⟩
      rw [← ev_look]
      unfold resK at hv
      unfold resN
      split at hv
      · rename_i pre v hx
        rw [hx]
        have := hk _ hv.2
        rw [look_put, h_put] at this
        exact ⟨hv.1, this⟩
      · rename_i pre k mk hx
        rw [hx]
        refine ⟨hv.1, fun b hb => ?_⟩
        have := hk _ (hv.2 b hb)
        rw [look_put, h_put] at this
        exact this
      · exfalso
        have hno := hn.1
        unfold newOp at hno
        split at hno
        all_goals first | (cases hno; done) | skip
        all_goals (rename_i e; rw [e] at hv; simp [effK] at hv)
    | false =>
      simp only [cond_false]
      refine ⟨S, rfl, rfl, ?_⟩
      refine gstep_mono (fun S' hS => ?_) (fun S' hS => hk _ hS) h
      unfold stepD at hS
      rw [hs] at hS
      exact stepK_mono (fun S'' hS => hk _ hS) hS
theorem vcZ_sound [Gl] {ops : List Oper} {K : St → Prop} {K' : (Nat → SV) → Heap → Prop} (hk : ∀ S, K S → K' (look S.t) S.h) : ∀ (t : OZ),
    (∀ (f : Nat) (l : Array Bool) (S : St), t.root ops l = true → t.chk ops f l = true → vcZ P N ops K t S → anyZ P N ops K' f l (look S.t) S.h) ∧
    (∀ (f : Nat) (l : Array Bool) (S : St), t.chk ops (f + 1) l = true → vcZ P N ops K t S → ∀ i ∈ t.heads, i ∈ Region.ready .any ops.toArray l → opZ P N ops i (anyZ P N ops K' f (l.setIfInBounds i true)) (look S.t) S.h)
  | .done => by
    refine ⟨fun f l S h1 h2 h3 => ?_, fun f l S _ _ i hi => by cases hi⟩
    have h0 : Region.ready .any ops.toArray l = [] := by simpa [OZ.root] using h1
    cases f with
    | zero => exact ⟨h0, hk S h3⟩
    | succ f => exact ⟨fun _ => hk S h3, fun i hi => by rw [h0] at hi; cases hi⟩
  | .nil => ⟨fun f l S h1 h2 h3 => (by cases h1), fun f l S _ _ i hi => by cases hi⟩
  | .one i W t => by
    obtain ⟨ht, _⟩ := vcZ_sound hk t
    refine ⟨fun f l S h1 h2 h3 => ?_, fun f l S _ _ i hi => by cases hi⟩
    cases f with
    | zero => cases h2
    | succ f =>
      simp only [OZ.root] at h1
      unfold oneOk at h1
      split at h1
      · cases h1
      · rename_i oi hi
        simp only [vcZ, hi, stZ] at h3
        simp only [OZ.chk, Bool.and_eq_true] at h2
        simp only [Bool.and_eq_true] at h1
        obtain ⟨⟨⟨c1, c2⟩, c3⟩, c4⟩ := h1
        obtain ⟨S1, v, e1, e2, hy, hK⟩ := sstep_of c1 h3
        have hn := ht f _ _ h2.1 h2.2 hK
        rw [look_put, h_put, e1, e2] at hn
        rw [List.all_eq_true] at c3
        have c3' : ∀ m, hasN W m = true → l.getD m true = false ∧ (m = i ∨ ∃ om, ops[m]? = some om ∧ ∃ e ∈ om.after, Region.binds .any e = true ∧ hasN W e.on = true) := fun m hm => by
          have := c3 m (hasN_iff.1 hm)
          simp only [Bool.and_eq_true, Bool.not_eq_true', Bool.or_eq_true, Nat.beq_eq] at this
          refine ⟨this.1, this.2.imp id fun h => ?_⟩
          split at h
          · cases h
          · rename_i om hom
            rw [Array.any_eq_true'] at h
            obtain ⟨e, he, h⟩ := h
            rw [Bool.and_eq_true] at h
            exact ⟨om, hom, e, he, h.1, h.2⟩
        refine anyZ_first hi c1 (hasN W) (fun m om hm hW => ?_) l (fun j oj hj h1 h2 => ?_) f l _ _ (fun m hm => (c3' m hm).1) (fun j hj => hj) ?_ hy hn
        · rcases (c3' m hW).2 with e | ⟨om', h1, h2⟩
          · exact .inl e
          · rw [hm] at h1
            cases h1
            exact .inr h2
        · exact freeAll_spec ops 0 c4 j oj hj (by rw [Nat.zero_add]; exact h1) (by rw [Nat.zero_add]; exact h2)
        · rw [List.any_eq_true] at c2
          obtain ⟨x, hx, he⟩ := c2
          rw [Nat.beq_eq] at he
          exact he ▸ hx
  | .alt i t r => by
    obtain ⟨ht, _⟩ := vcZ_sound hk t
    obtain ⟨_, hrr⟩ := vcZ_sound hk r
    have B : ∀ (f : Nat) (l : Array Bool) (S : St), (OZ.alt i t r).chk ops (f + 1) l = true → vcZ P N ops K (.alt i t r) S → ∀ j ∈ (OZ.alt i t r).heads, j ∈ Region.ready .any ops.toArray l → opZ P N ops j (anyZ P N ops K' f (l.setIfInBounds j true)) (look S.t) S.h := by
      intro f l S hc hv j hj hrd
      simp only [OZ.chk, Bool.and_eq_true] at hc
      obtain ⟨⟨c1, c2⟩, c3⟩ := hc
      obtain ⟨v1, v2⟩ := hv
      rcases List.mem_cons.1 hj with rfl | hj
      · obtain ⟨_, o, ho, _⟩ := mem_ready.1 hrd
        rw [List.getElem?_toArray] at ho
        rw [ho] at v1
        exact opZ_of ho (fun S' hS => ht f _ S' c1 c2 hS) v1
      · exact hrr f l S c3 v2 j hj hrd
    refine ⟨fun f l S h1 h2 h3 => ?_, B⟩
    have h0 : Region.ready .any ops.toArray l = (OZ.alt i t r).heads := by simpa [OZ.root] using h1
    cases f with
    | zero => simp [OZ.chk] at h2
    | succ f =>
      refine ⟨fun he => ?_, fun j hj => B f l S h2 h3 j (by rw [← h0]; exact hj) hj⟩
      rw [h0] at he
      cases he
end
theorem SW.regionZ [Gl] {P : Program} {N : Nat} {id : Nat} {ops : List Oper} {Q : Exit → St → Prop} {S : St} (hm : P.follows .mixedOrders = true) (T : OZ) (hB : (T.root ops (Array.replicate ops.length false) && T.chk ops ops.length (Array.replicate ops.length false)) = true)
    (h : vcZ P N ops (Q .normal) T S) : SW P N (.region id ops.toArray true) Q S := SW.mk fun M w0 D a w hr => by
  rw [Bool.and_eq_true] at hB
  refine wp_region_any hm ?_
  have hr' : Rel M w0 D N S a (drw w) := ⟨hr.defers, hr.n, fun i => (hr.t i).mono (env_drw _ _), hr.own.drw, hr.frm.trans (frm_drw (fun _ => False) w) (fun _ _ x => x.elim), hr.new⟩
  have h1 := (vcZ_sound (K' := fun T h => ∃ S', look S'.t = T ∧ S'.h = h ∧ Q .normal S') (fun S hS => ⟨S, rfl, rfl, hS⟩) T).1 ops.length _ S hB.1 hB.2 h
  have h2 := anyZ_sound (Q := fun e a' w' => ∃ S', Q e S' ∧ Rel M w0 D N S' a' w') (K := fun T h => ∃ S', look S'.t = T ∧ S'.h = h ∧ Q .normal S') (fun S a w ⟨S', e1, e2, hx⟩ hr => ⟨S', hx, hr.look_eq e1 e2⟩) _ _ S a _ hr' h1
  simpa [drw] using h2
theorem vcZ_done [Gl] {P : Program} {N : Nat} {ops : List Oper} {K : St → Prop} {S : St} : vcZ P N ops K .done S = K S := propext ⟨fun h => h, fun h => h⟩
theorem vcZ_nil [Gl] {P : Program} {N : Nat} {ops : List Oper} {K : St → Prop} {S : St} : vcZ P N ops K .nil S = True := propext ⟨fun h => h, fun h => h⟩
theorem vcZ_alt [Gl] {P : Program} {N : Nat} {ops : List Oper} {K : St → Prop} {i : Nat} {t r : OZ} {S : St} : vcZ P N ops K (.alt i t r) S = (stZ P N ops ops[i]? (vcZ P N ops K t) S ∧ vcZ P N ops K r S) := propext ⟨fun h => h, fun h => h⟩
theorem vcZ_one [Gl] {P : Program} {N : Nat} {ops : List Oper} {K : St → Prop} {i : Nat} {W : List Nat} {t : OZ} {S : St} : vcZ P N ops K (.one i W t) S = stZ P N ops ops[i]? (vcZ P N ops K t) S := propext ⟨fun h => h, fun h => h⟩
theorem stZ_plain [Gl] {P : Program} {N : Nat} {ops : List Oper} {d : Option Tmp} {op : Op} {ty : TypeId} {ps : String} {af : Array Edge} {K : St → Prop} {S : St} : stZ P N ops (some ⟨d, op, ty, ps, af, none⟩) K S = stepD P N ⟨d, op, ty, ps, af, none⟩ K S := propext ⟨fun h => h, fun h => h⟩
theorem stZ_guard [Gl] {P : Program} {N : Nat} {ops : List Oper} {d : Option Tmp} {op : Op} {ty : TypeId} {ps : String} {af : Array Edge} {j : Nat} {want : Bool} {K : St → Prop} {S : St} : stZ P N ops (some ⟨d, op, ty, ps, af, some (j, want)⟩) K S =
    guardK (gdst ops j) want S (stepD P N ⟨d, op, ty, ps, af, some (j, want)⟩ K) (fun S => dstOk N d ∧ K (S.put d (.sc undef))) := propext ⟨fun h => h, fun h => h⟩
theorem stepD_alloc [Gl] {P : Program} {N : Nat} {d : Option Tmp} {ty : TypeId} {ps : String} {af : Array Edge} {g : Option (Nat × Bool)} {K : St → Prop} {S : St} {t : TypeId} : stepD P N ⟨d, .alloc t, ty, ps, af, g⟩ K S = (dstOk N d ∧ resK (allocSV t (bldk P t) (zk P t)) d False K S) := by
  rw [← stepK_alloc]
  exact propext ⟨fun h => h, fun h => h⟩
attribute [go_sem] stepD_alloc vcZ_done vcZ_nil vcZ_alt vcZ_one stZ_plain stZ_guard
end Go.Ab
