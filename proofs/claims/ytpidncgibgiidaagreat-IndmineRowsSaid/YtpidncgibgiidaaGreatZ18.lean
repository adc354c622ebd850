/- The abstract layer, part Z18: regions that draw their order, where operations that read only what is frozen stand beside stores. -/
import Derived.Test.YtpidncgibgiidaaGreatZ17
import Derived.Test.YtpidncgibgiidaaGreatZ8
set_option linter.unusedVariables false
set_option linter.unusedSectionVars false
set_option linter.unusedSimpArgs false
namespace Go.Ab
open Go.RowKit
section
variable {P : Program} {M : Nat → Prop} {w0 : World} {D : Nat → Prop} {N : Nat}
theorem valOp_nil {op : Op} {ρ : Operand → SV} {h : Heap} {pre : Prop} {v : SV} (hs : stableOp op = true) (hv : valOp P op ρ [] = .ok pre v) : valOp P op ρ h = .ok pre v := by
  have fn : ∀ c, Heap.find [] c = none := fun c => rfl
  have ld : ∀ T x, loadSV T x [] = .ok pre v → loadSV T x h = .ok pre v := by
    intro T x hl
    unfold loadSV at hl ⊢
    split at hl <;> first | exact hl | skip
    all_goals
      rw [fn] at hl
      cases hl
  have sx : ∀ A st L x lo hi mx, sliceX A st L x lo hi mx [] = .ok pre v → sliceX A st L x lo hi mx h = .ok pre v := by
    intro A st L x lo hi mx hl
    unfold sliceX at hl ⊢
    split at hl
    · unfold arrSl at hl ⊢
      split at hl
      · cases hl
      · split at hl
        · split at hl
          · rw [fn] at hl; cases hl
          · exact hl
          · cases hl
        · cases hl
    · exact hl
  have cx : ∀ bs kd sd x, convX bs kd sd x [] = .ok pre v → convX bs kd sd x h = .ok pre v := by
    intro bs kd sd x hl
    unfold convX at hl ⊢
    split at hl
    · rename_i c off n sz
      cases hq : (bs && sd && Nat.beq sz 1) with
      | false => rw [hq] at hl; cases hl
      | true =>
        rw [hq] at hl
        simp only [cond_true] at hl
        rw [fn] at hl
        cases hl
    · exact hl
    · exact hl
  cases op <;> first | exact hv | (exact ld _ _ hv) | (exact sx _ _ _ _ _ _ _ hv) | skip
  · rename_i s d x
    simp only [valOp] at hv ⊢
    cases hs : (P.underlying s).isSome with
    | false => rw [hs] at hv; cases hv
    | true =>
      rw [hs, cond_true] at hv
      rw [cond_true]
      exact cx _ _ _ _ hv
  case lookup => exact (Bool.false_ne_true hs).elim
  rename_i c
  unfold valOp at hv ⊢
  split at hv <;> first | exact hv | (simp_all; done) | (rename_i e; cases e; exact hv)
theorem YA_nil [Gl] {ops : List Oper} {o : Oper} {T : Nat → SV} {h : Heap} {v : SV} (hs : stableOp o.op = true) (hy : YA P N ops o T [] v) : YA P N ops o T h v := by
  obtain ⟨hd, hy⟩ := hy
  refine ⟨hd, hy.imp (fun ⟨hw, hy⟩ => ⟨hw, ?_⟩) id⟩
  rcases hy with ⟨pre, h1, h2⟩ | hc
  · exact .inl ⟨pre, valOp_nil hs h1, h2⟩
  · exact .inr hc
def effOp : Op → Bool
  | .store _ _ _ => true
  | .call ⟨.builtin .append, ⟨[_, _]⟩, ⟨[_, _]⟩⟩ => true
  | _ => false
def kindS (o : Oper) : Bool := kindZ o || (effOp o.op && o.guard.isNone)
theorem storeK_t {T : Option (Bool × Nat)} {x : SV} {cs : Option (List SV)} {d : Option Tmp} {K1 K2 : St → Prop} {t t0 : List (Nat × SV)} {h : Heap}
    (hk : ∀ h' u, K1 ((⟨t, h'⟩ : St).put d u) → K2 ((⟨t0, h'⟩ : St).put d u)) (hg : storeK T x cs d K1 ⟨t, h⟩) : storeK T x cs d K2 ⟨t0, h⟩ := by
  unfold storeK at hg ⊢
  split at hg <;> first | exact hg.elim | skip
  split at hg <;> first | exact hg.elim | skip
  rename_i hfd
  obtain ⟨g1, g2, g3⟩ := hg
  simp only at hfd ⊢
  simp only [hfd]
  exact ⟨g1, g2, hk _ _ g3⟩
theorem allF_t {h : Heap} {F G : Nat → Prop} (hk : ∀ b, F b → G b) (hg : allF h F) : allF h G := fun b hb => hk b (hg b hb)
theorem appK_t {L : Option (TypeId × Nat × Nat)} {Z : Option (List Value)} {ni : Bool} {x y : SV} {d : Option Tmp} {K1 K2 : St → Prop} {t t0 : List (Nat × SV)} {h : Heap}
    (hk : ∀ h' u, K1 ((⟨t, h'⟩ : St).put d u) → K2 ((⟨t0, h'⟩ : St).put d u)) (hg : appK L Z ni x y d K1 ⟨t, h⟩) : appK L Z ni x y d K2 ⟨t0, h⟩ := by
  unfold appK at hg ⊢
  simp only at hg ⊢
  generalize srcCells y h = R at hg ⊢
  match L, Z, R with
  | some (e, size, bytes), some z, some (n, cs) =>
    simp only at hg ⊢
    obtain ⟨g1, g2, g3, g4, g5, hg⟩ := hg
    refine ⟨g1, g2, g3, g4, g5, ?_⟩
    split at hg
    · unfold appNilK at hg ⊢
      obtain ⟨q1, q2, q3, q4⟩ := hg
      exact ⟨q1, q2, fun h0 => hk _ _ (q3 h0), fun h0 => allF_t (fun b => hk _ _) (q4 h0)⟩
    · unfold appOsK at hg ⊢
      split at hg <;> first | exact hg.elim | skip
      rename_i hfd
      simp only [hfd]
      obtain ⟨q1, q2, q3, q4, q5, q6⟩ := hg
      exact ⟨q1, q2, q3, q4, q5, allF_t (fun b => hk _ _) q6⟩
    · unfold appNtK at hg ⊢
      obtain ⟨q0, q1, q2, q3, q4⟩ := hg
      exact ⟨q0, q1, q2, fun h0 => hk _ _ (q3 h0), fun h0 => allF_t (fun b => hk _ _) (q4 h0)⟩
    · unfold appOtK at hg ⊢
      split at hg <;> first | exact hg.elim | skip
      rename_i hfd
      simp only [hfd]
      obtain ⟨q1, q2, q3, q4, q5, q6⟩ := hg
      exact ⟨q1, q2, q3, q4, q5, allF_t (fun b => hk _ _) q6⟩
    · exact hg.elim
theorem appZK_t {L : Option (TypeId × Nat × Nat)} {Z : Option (List Value)} {x y : SV} {d : Option Tmp} {K1 K2 : St → Prop} {t t0 : List (Nat × SV)} {h : Heap}
    (hk : ∀ h' u, K1 ((⟨t, h'⟩ : St).put d u) → K2 ((⟨t0, h'⟩ : St).put d u)) (hg : appZK L Z x y d K1 ⟨t, h⟩) : appZK L Z x y d K2 ⟨t0, h⟩ := by
  unfold appZK at hg ⊢
  split at hg <;> first | exact hg.elim | skip
  obtain ⟨q1, q2, q3, q4, q5, q6⟩ := hg
  exact ⟨q1, q2, q3, q4, q5, allF_t (fun b => hk _ _) q6⟩
theorem put_back {T : Nat → SV} {d : Option Tmp} {v : SV} {S : St} (e : look S.t = putF T d v) : ∃ t0, look t0 = T := by
  cases d with
  | none => exact ⟨S.t, e⟩
  | some d =>
    refine ⟨(d, T d) :: S.t, ?_⟩
    funext x
    by_cases hx : d = x
    · subst hx
      simp [look]
    · have := congrFun e x
      have hb : Nat.beq d x = false := by
        cases hq : Nat.beq d x with
        | false => rfl
        | true => exact absurd (Nat.eq_of_beq_eq_true hq) hx
      simp only [putF, hb, cond_false] at this
      simp only [look, hb, cond_false]
      exact this
theorem opZ_putS [Gl] {ops : List Oper} {h : Heap} {j : Nat} {oi oj : Oper} {v : SV} (hj : ops[j]? = some oj) (hap : oi.apart ops.toArray oj = true) (hsi : stableOp oi.op = true) (hsj : kindS oj = true)
    {K : (Nat → SV) → Heap → Prop} {T : Nat → SV} (hy : YA P N ops oi T [] v) (hh : opZ P N ops j K (putF T oi.dst v) h) :
    opZ P N ops j (fun T' h' => YA P N ops oi T' [] v ∧ K (putF T' oi.dst v) h') T h := by
  obtain ⟨h1, h2, h3⟩ := Oper.apart_spec hap
  unfold opZ at hh ⊢
  simp only [hj] at hh ⊢
  cases hs : stableOp oj.op with
  | true =>
    rw [hs] at hh
    simp only [cond_true] at hh ⊢
    obtain ⟨u, hu, hn⟩ := hh
    exact ⟨u, (YA_putF hs (fun t ht => h1 t ht)).1 hu, (YA_putF hsi (fun t ht => h3 t ht)).2 hy, by rw [← putF_comm T v u h2]; exact hn⟩
  | false =>
    rw [hs] at hh
    simp only [cond_false] at hh ⊢
    cases hnw : (newOp oj.op && oj.guard.isNone) with
    | true =>
      rw [hnw] at hh
      simp only [cond_true] at hh ⊢
      rw [Bool.and_eq_true] at hnw
      obtain ⟨hd, hv⟩ := hh
      have hdet : detOp oj.op = true := by
        unfold detOp
        rw [hnw.1, Bool.or_true, Bool.and_true]
        cases ho : oj.op <;> first | rfl | (rw [ho] at hnw; simp [newOp] at hnw)
      refine ⟨hd, ?_⟩
      have he : valOp P oj.op (evF T) h = valOp P oj.op (evF (putF T oi.dst v)) h := valOp_congrN hdet h (fun x hx => (evF_putF (ops := ops) (o := oj) (fun t ht => h1 t ht) x hx).symm)
      rw [← he] at hv
      generalize valOp P oj.op (evF T) h = R at hv ⊢
      unfold resN at hv ⊢
      cases R with
      | ok pre u =>
        exact ⟨hv.1, (YA_putF hsi (fun t ht => h3 t ht)).2 hy, by rw [← putF_comm T v _ h2]; exact hv.2⟩
      | new pre k mk =>
        exact ⟨hv.1, fun b hb => ⟨(YA_putF hsi (fun t ht => h3 t ht)).2 hy, by rw [← putF_comm T v _ h2]; exact hv.2 b hb⟩⟩
      | bad => exact hv.elim
    | false =>
      rw [hnw] at hh
      simp only [cond_false] at hh ⊢
      unfold kindS kindZ at hsj
      rw [hs, hnw, Bool.false_or, Bool.false_or, Bool.and_eq_true] at hsj
      obtain ⟨k1, k2⟩ := hsj
      have hgo : oj.guard = none := by simpa using k2
      obtain ⟨S, e1, e2, hg⟩ := hh
      obtain ⟨St1, Sh1⟩ := S
      simp only at e1 e2
      subst e2
      obtain ⟨t0, et⟩ := put_back (S := ⟨St1, Sh1⟩) e1
      refine ⟨⟨t0, Sh1⟩, et, rfl, ?_⟩
      rw [hgo] at hg ⊢
      simp only [gstep] at hg ⊢
      have hev : ∀ y ∈ oj.op.operands, St.ev ⟨t0, Sh1⟩ y = St.ev ⟨St1, Sh1⟩ y := fun y hy => by
        rw [ev_look, ev_look]
        show evF (look t0) y = evF (look St1) y
        rw [et, e1]
        exact (evF_putF (ops := ops) (o := oj) (fun t ht => h1 t ht) y hy).symm
      have hk : ∀ h' u, (fun S : St => K (look S.t) S.h) ((⟨St1, h'⟩ : St).put oj.dst u) → (fun S : St => YA P N ops oi (look S.t) [] v ∧ K (putF (look S.t) oi.dst v) S.h) ((⟨t0, h'⟩ : St).put oj.dst u) := fun h' u hq => by
        simp only at hq ⊢
        rw [look_put, h_put] at hq ⊢
        simp only at hq ⊢
        rw [e1] at hq
        rw [et]
        exact ⟨(YA_putF hsi (fun t ht => h3 t ht)).2 hy, by rw [← putF_comm T v _ h2]; exact hq⟩
      obtain ⟨od, oop, oty, ops', oaf, og⟩ := oj
      simp only at hgo k1 hev hk hg ⊢
      unfold effOp at k1
      split at k1
      · rename_i t a x
        rw [stepK_store] at hg ⊢
        rw [hev a (by simp [Op.operands]), hev x (by simp [Op.operands])]
        exact ⟨hg.1, storeK_t hk hg.2⟩
      · rename_i sa xa sta xta
        rw [stepK_append] at hg ⊢
        rw [hev sa (by simp [Op.operands, Go.Call.operands]), hev xa (by simp [Op.operands, Go.Call.operands])]
        refine ⟨hg.1, ?_⟩
        have hg2 := hg.2
        revert hg2
        cases notInt P xta with
        | true =>
          intro q
          simp only [cond_true] at q ⊢
          unfold appX at q ⊢
          generalize sameB _ _ = bb at q ⊢
          cases bb with
          | false => exact appK_t (K1 := fun S => K (look S.t) S.h) (K2 := fun S => YA P N ops oi (look S.t) [] v ∧ K (putF (look S.t) oi.dst v) S.h) hk q
          | true => exact appCK_mono (K := fun S => K (look S.t) S.h) (K' := fun S => YA P N ops oi (look S.t) [] v ∧ K (putF (look S.t) oi.dst v) S.h) hk q
        | false =>
          cases (ik P xta).isSome with
          | true =>
            intro q
            simp only [cond_false, cond_true] at q ⊢
            exact appZK_t (K1 := fun S => K (look S.t) S.h) (K2 := fun S => YA P N ops oi (look S.t) [] v ∧ K (putF (look S.t) oi.dst v) S.h) hk q
          | false => exact fun q => q
      · cases k1
theorem opZ_monoS [Gl] {ops : List Oper} {h : Heap} {i : Nat} {o : Oper} (ho : ops[i]? = some o) (hs : kindS o = true) {K K' : (Nat → SV) → Heap → Prop} {T : Nat → SV} (hk : ∀ T h, K T h → K' T h) (hh : opZ P N ops i K T h) : opZ P N ops i K' T h := by
  cases hz : kindZ o with
  | true => exact opZ_mono ho hz hk hh
  | false =>
    unfold opZ at hh ⊢
    simp only [ho] at hh ⊢
    unfold kindZ at hz
    rw [Bool.or_eq_false_iff] at hz
    rw [hz.1, hz.2] at hh
    rw [hz.1, hz.2]
    simp only [cond_false] at hh ⊢
    obtain ⟨S, e1, e2, hg⟩ := hh
    exact ⟨S, e1, e2, gstep_mono (fun S' hS => stepK_mono (fun S'' hS => hk _ _ hS) hS) (fun S' hS => hk _ _ hS) hg⟩
theorem anyZ_firstS [Gl] {ops : List Oper} {K : (Nat → SV) → Heap → Prop} {i : Nat} {oi : Oper} {v : SV} (hi : ops[i]? = some oi) (hsi : stableOp oi.op = true) (W : Nat → Bool)
    (hW : ∀ m om, ops[m]? = some om → W m = true → m = i ∨ ∃ e ∈ om.after, Region.binds .any e = true ∧ W e.on = true) (l0 : Array Bool)
    (free : ∀ j oj, ops[j]? = some oj → W j = false → l0.getD j true = false → oi.apart ops.toArray oj = true ∧ kindS oj = true) :
    ∀ (fuel : Nat) (listed : Array Bool) (T : Nat → SV) (h : Heap), (∀ m, W m = true → listed.getD m true = false) → (∀ j, listed.getD j true = false → l0.getD j true = false) →
      i ∈ Region.ready .any ops.toArray listed → YA P N ops oi T [] v →
      anyZ P N ops K fuel (listed.setIfInBounds i true) (putF T oi.dst v) h → anyZ P N ops K (fuel + 1) listed T h := by
  have use : ∀ {K' : (Nat → SV) → Heap → Prop} {T : Nat → SV} {h : Heap}, YA P N ops oi T [] v → K' (putF T oi.dst v) h → opZ P N ops i K' T h := fun hy hk => by
    unfold opZ; simp only [hi, hsi, cond_true]; exact ⟨v, YA_nil hsi hy, hk⟩
  intro fuel
  induction fuel with
  | zero =>
    intro listed T h _ _ hr hy H
    refine ⟨fun h => (by rw [h] at hr; cases hr), fun j hj => ?_⟩
    by_cases hji : j = i
    · subst hji; exact use hy H
    · have := ready_mono hj hji
      rw [H.1] at this
      cases this
  | succ fuel ih =>
    intro listed T h hw hl hr hy H
    refine ⟨fun h => (by rw [h] at hr; cases hr), fun j hj => ?_⟩
    by_cases hji : j = i
    · subst hji; exact use hy H
    · have h1 := H.2 j (ready_mono hj hji)
      obtain ⟨hjun, oj, hoj, hall⟩ := mem_ready.1 hj
      rw [List.getElem?_toArray] at hoj
      have hWj : W j = false := by
        cases hWj : W j with
        | false => rfl
        | true =>
          rcases hW j oj hoj hWj with e | ⟨e, he, hb, hWe⟩
          · exact absurd e hji
          · have h2 := hall e he hb
            have h3 := hw _ hWe
            rcases Nat.lt_or_ge e.on listed.size with h' | h'
            · simp [h'] at h2 h3; rw [h3] at h2; cases h2
            · simp [Array.getElem?_eq_none h'] at h3
      obtain ⟨hap, hkj⟩ := free j oj hoj hWj (hl j hjun)
      have h2 := opZ_putS hoj hap hsi hkj hy h1
      refine opZ_monoS hoj hkj (fun T' h' ⟨h3, h4⟩ => ih (listed.setIfInBounds j true) T' h' (fun m hm => ?_) (fun k hk => ?_) (ready_mono hr (Ne.symm hji)) h3 ?_) h2
      · by_cases e : j = m
        · subst e; rw [hWj] at hm; cases hm
        · rw [getD_set_ne true e]; exact hw m hm
      · by_cases e : j = k
        · subst e; exact hl j hjun
        · rw [getD_set_ne true e] at hk; exact hl k hk
      · rw [Array.setIfInBounds_comm _ _ hji]
        exact h4
def backX (K : St → Prop) (h : Heap) (S : St) : Prop := K ⟨S.t, h⟩
theorem backX_eq {K : St → Prop} {h h' : Heap} {t : List (Nat × SV)} : backX K h ⟨t, h'⟩ = K ⟨t, h⟩ := propext ⟨fun h => h, fun h => h⟩
inductive OX where
  | done
  | nil
  | alt (i : Nat) (t r : OX)
  | one (i : Nat) (W : List Nat) (t : OX)
  | fre (i : Nat) (W : List Nat) (t : OX)
def OX.heads : OX → List Nat
  | .alt i _ r => i :: r.heads
  | _ => []
def freeAllS (ops : List Oper) (oi : Oper) (W : List Nat) (l : Array Bool) : List Oper → Nat → Bool
  | [], _ => true
  | o :: r, j => (hasN W j || l.getD j true || (oi.apart ops.toArray o && kindS o)) && freeAllS ops oi W l r (j + 1)
def freOk (ops : List Oper) (i : Nat) (W : List Nat) (l : Array Bool) : Bool :=
  match ops[i]? with
  | none => false
  | some oi => stableOp oi.op && (Region.ready .any ops.toArray l).any (Nat.beq i) &&
    W.all (fun m => !l.getD m true && (Nat.beq m i || (match ops[m]? with
      | none => false
      | some om => om.after.any fun e => Region.binds .any e && hasN W e.on))) && freeAllS ops oi W l ops 0
def OX.root (ops : List Oper) (t : OX) (l : Array Bool) : Bool := match t with
  | .done => (Region.ready .any ops.toArray l).isEmpty
  | .nil => false
  | .one i W _ => oneOk ops i W l
  | .fre i W _ => freOk ops i W l
  | t => Region.ready .any ops.toArray l == t.heads
def OX.chk (ops : List Oper) : OX → Nat → Array Bool → Bool
  | .alt i t r, 0, l => false
  | .alt i t r, f + 1, l => t.root ops (l.setIfInBounds i true) && t.chk ops f (l.setIfInBounds i true) && r.chk ops (f + 1) l
  | .one i W t, 0, l => false
  | .one i W t, f + 1, l => t.root ops (l.setIfInBounds i true) && t.chk ops f (l.setIfInBounds i true)
  | .fre i W t, 0, l => false
  | .fre i W t, f + 1, l => t.root ops (l.setIfInBounds i true) && t.chk ops f (l.setIfInBounds i true)
  | _, _, _ => true
def vcX [Gl] (P : Program) (N : Nat) (ops : List Oper) (K : St → Prop) : OX → St → Prop
  | .done, S => K S
  | .nil, S => True
  | .alt i t r, S => stZ P N ops ops[i]? (vcX P N ops K t) S ∧ vcX P N ops K r S
  | .one i _ t, S => stZ P N ops ops[i]? (vcX P N ops K t) S
  | .fre i _ t, S => stZ P N ops ops[i]? (fun S' => vcX P N ops K t ⟨S'.t, S.h⟩) ⟨S.t, []⟩
theorem freeAllS_spec {ops : List Oper} {oi : Oper} {W : List Nat} {l : Array Bool} : ∀ (r : List Oper) (k : Nat), freeAllS ops oi W l r k = true →
    ∀ j o, r[j]? = some o → hasN W (k + j) = false → l.getD (k + j) true = false → oi.apart ops.toArray o = true ∧ kindS o = true
  | [], _, _, j, o, ho, _, _ => by simp at ho
  | x :: r, k, h, j, o, ho, h1, h2 => by
    simp only [freeAllS, Bool.and_eq_true] at h
    cases j with
    | zero =>
      simp only [List.getElem?_cons_zero, Option.some.injEq] at ho
      subst ho
      have := h.1
      rw [Nat.add_zero] at h1 h2
      rw [h1, h2, Bool.false_or, Bool.false_or, Bool.and_eq_true] at this
      exact this
    | succ j =>
      exact freeAllS_spec r (k + 1) h.2 j o (by simpa using ho) (by rw [← h1]; congr 1; omega) (by rw [← h2]; congr 1; omega)
theorem wait_spec {ops : List Oper} {i : Nat} {W : List Nat} {l : Array Bool} (c3 : W.all (fun m => !l.getD m true && (Nat.beq m i || (match ops[m]? with
      | none => false
      | some om => om.after.any fun e => Region.binds .any e && hasN W e.on))) = true) : ∀ m, hasN W m = true → l.getD m true = false ∧ (m = i ∨ ∃ om, ops[m]? = some om ∧ ∃ e ∈ om.after, Region.binds .any e = true ∧ hasN W e.on = true) := fun m hm => by
  rw [List.all_eq_true] at c3
  have := c3 m (hasN_iff.1 hm)
  simp only [Bool.and_eq_true, Bool.not_eq_true', Bool.or_eq_true, Nat.beq_eq] at this
  refine ⟨this.1, this.2.imp id fun h => ?_⟩
  split at h
  · cases h
  · rename_i om hom
    rw [Array.any_eq_true'] at h
    obtain ⟨e, he, h⟩ := h
    rw [Bool.and_eq_true] at h
    exact ⟨om, hom, e, he, h.1, h.2⟩
theorem vcX_sound [Gl] {ops : List Oper} {K : St → Prop} {K' : (Nat → SV) → Heap → Prop} (hk : ∀ S, K S → K' (look S.t) S.h) : ∀ (t : OX),
    (∀ (f : Nat) (l : Array Bool) (S : St), t.root ops l = true → t.chk ops f l = true → vcX P N ops K t S → anyZ P N ops K' f l (look S.t) S.h) ∧
    (∀ (f : Nat) (l : Array Bool) (S : St), t.chk ops (f + 1) l = true → vcX P N ops K t S → ∀ i ∈ t.heads, i ∈ Region.ready .any ops.toArray l → opZ P N ops i (anyZ P N ops K' f (l.setIfInBounds i true)) (look S.t) S.h)
  | .done => by
    refine ⟨fun f l S h1 h2 h3 => ?_, fun f l S _ _ i hi => by cases hi⟩
    have h0 : Region.ready .any ops.toArray l = [] := by simpa [OX.root] using h1
    cases f with
    | zero => exact ⟨h0, hk S h3⟩
    | succ f => exact ⟨fun _ => hk S h3, fun i hi => by rw [h0] at hi; cases hi⟩
  | .nil => ⟨fun f l S h1 h2 h3 => (by cases h1), fun f l S _ _ i hi => by cases hi⟩
  | .one i W t => by
    obtain ⟨ht, _⟩ := vcX_sound hk t
    refine ⟨fun f l S h1 h2 h3 => ?_, fun f l S _ _ i hi => by cases hi⟩
    cases f with
    | zero => cases h2
    | succ f =>
      simp only [OX.root] at h1
      unfold oneOk at h1
      split at h1
      · cases h1
      · rename_i oi hi
        simp only [vcX, hi, stZ] at h3
        simp only [OX.chk, Bool.and_eq_true] at h2
        simp only [Bool.and_eq_true] at h1
        obtain ⟨⟨⟨c1, c2⟩, c3⟩, c4⟩ := h1
        obtain ⟨S1, v, e1, e2, hy, hK⟩ := sstep_of c1 h3
        have hn := ht f _ _ h2.1 h2.2 hK
        rw [look_put, h_put, e1, e2] at hn
        have c3' := wait_spec c3
        refine anyZ_first hi c1 (hasN W) (fun m om hm hW => ?_) l (fun j oj hj h1 h2 => ?_) f l _ _ (fun m hm => (c3' m hm).1) (fun j hj => hj) ?_ hy hn
        · rcases (c3' m hW).2 with e | ⟨om', h1, h2⟩
          · exact .inl e
          · rw [hm] at h1
            cases h1
            exact .inr h2
        · exact freeAll_spec ops 0 c4 j oj hj (by rw [Nat.zero_add]; exact h1) (by rw [Nat.zero_add]; exact h2)
        · rw [List.any_eq_true] at c2
          obtain ⟨x, hx, he⟩ := c2
          rw [Nat.beq_eq] at he
          exact he ▸ hx
  | .fre i W t => by
    obtain ⟨ht, _⟩ := vcX_sound hk t
    refine ⟨fun f l S h1 h2 h3 => ?_, fun f l S _ _ i hi => by cases hi⟩
    cases f with
    | zero => cases h2
    | succ f =>
      simp only [OX.root] at h1
      unfold freOk at h1
      split at h1
      · cases h1
      · rename_i oi hi
        simp only [vcX, hi, stZ] at h3
        simp only [OX.chk, Bool.and_eq_true] at h2
        simp only [Bool.and_eq_true] at h1
        obtain ⟨⟨⟨c1, c2⟩, c3⟩, c4⟩ := h1
        obtain ⟨S1, v, e1, e2, hy, hK⟩ := sstep_of (K := fun S' => vcX P N ops K t ⟨S'.t, S.h⟩) c1 h3
        have hn := ht f _ _ h2.1 h2.2 hK
        simp only at hn
        rw [look_put, e1] at hn
        have c3' := wait_spec c3
        refine anyZ_firstS hi c1 (hasN W) (fun m om hm hW => ?_) l (fun j oj hj h1 h2 => ?_) f l _ _ (fun m hm => (c3' m hm).1) (fun j hj => hj) ?_ hy hn
        · rcases (c3' m hW).2 with e | ⟨om', h1, h2⟩
          · exact .inl e
          · rw [hm] at h1
            cases h1
            exact .inr h2
        · exact freeAllS_spec ops 0 c4 j oj hj (by rw [Nat.zero_add]; exact h1) (by rw [Nat.zero_add]; exact h2)
        · rw [List.any_eq_true] at c2
          obtain ⟨x, hx, he⟩ := c2
          rw [Nat.beq_eq] at he
          exact he ▸ hx
  | .alt i t r => by
    obtain ⟨ht, _⟩ := vcX_sound hk t
    obtain ⟨_, hrr⟩ := vcX_sound hk r
    have B : ∀ (f : Nat) (l : Array Bool) (S : St), (OX.alt i t r).chk ops (f + 1) l = true → vcX P N ops K (.alt i t r) S → ∀ j ∈ (OX.alt i t r).heads, j ∈ Region.ready .any ops.toArray l → opZ P N ops j (anyZ P N ops K' f (l.setIfInBounds j true)) (look S.t) S.h := by
      intro f l S hc hv j hj hrd
      simp only [OX.chk, Bool.and_eq_true] at hc
      obtain ⟨⟨c1, c2⟩, c3⟩ := hc
      obtain ⟨v1, v2⟩ := hv
      rcases List.mem_cons.1 hj with rfl | hj
      · obtain ⟨_, o, ho, _⟩ := mem_ready.1 hrd
        rw [List.getElem?_toArray] at ho
        rw [ho] at v1
        exact opZ_of ho (fun S' hS => ht f _ S' c1 c2 hS) v1
      · exact hrr f l S c3 v2 j hj hrd
    refine ⟨fun f l S h1 h2 h3 => ?_, B⟩
    have h0 : Region.ready .any ops.toArray l = (OX.alt i t r).heads := by simpa [OX.root] using h1
    cases f with
    | zero => simp [OX.chk] at h2
    | succ f =>
      refine ⟨fun he => ?_, fun j hj => B f l S h2 h3 j (by rw [← h0]; exact hj) hj⟩
      rw [h0] at he
      cases he
end
theorem SW.regionX [Gl] {P : Program} {N : Nat} {id : Nat} {ops : List Oper} {Q : Exit → St → Prop} {S : St} (hm : P.follows .mixedOrders = true) (T : OX) (hB : (T.root ops (Array.replicate ops.length false) && T.chk ops ops.length (Array.replicate ops.length false)) = true)
    (h : vcX P N ops (Q .normal) T S) : SW P N (.region id ops.toArray true) Q S := SW.mk fun M w0 D a w hr => by
  rw [Bool.and_eq_true] at hB
  refine wp_region_any hm ?_
  have hr' : Rel M w0 D N S a (drw w) := ⟨hr.defers, hr.n, fun i => (hr.t i).mono (env_drw _ _), hr.own.drw, hr.frm.trans (frm_drw (fun _ => False) w) (fun _ _ x => x.elim), hr.new⟩
  have h1 := (vcX_sound (K' := fun T h => ∃ S', look S'.t = T ∧ S'.h = h ∧ Q .normal S') (fun S hS => ⟨S, rfl, rfl, hS⟩) T).1 ops.length _ S hB.1 hB.2 h
  have h2 := anyZ_sound (Q := fun e a' w' => ∃ S', Q e S' ∧ Rel M w0 D N S' a' w') (K := fun T h => ∃ S', look S'.t = T ∧ S'.h = h ∧ Q .normal S') (fun S a w ⟨S', e1, e2, hx⟩ hr => ⟨S', hx, hr.look_eq e1 e2⟩) _ _ S a _ hr' h1
  simpa [drw] using h2
theorem vcX_done [Gl] {P : Program} {N : Nat} {ops : List Oper} {K : St → Prop} {S : St} : vcX P N ops K .done S = K S := propext ⟨fun h => h, fun h => h⟩
theorem vcX_nil [Gl] {P : Program} {N : Nat} {ops : List Oper} {K : St → Prop} {S : St} : vcX P N ops K .nil S = True := propext ⟨fun h => h, fun h => h⟩
theorem vcX_alt [Gl] {P : Program} {N : Nat} {ops : List Oper} {K : St → Prop} {i : Nat} {t r : OX} {S : St} : vcX P N ops K (.alt i t r) S = (stZ P N ops ops[i]? (vcX P N ops K t) S ∧ vcX P N ops K r S) := propext ⟨fun h => h, fun h => h⟩
theorem vcX_one [Gl] {P : Program} {N : Nat} {ops : List Oper} {K : St → Prop} {i : Nat} {W : List Nat} {t : OX} {S : St} : vcX P N ops K (.one i W t) S = stZ P N ops ops[i]? (vcX P N ops K t) S := propext ⟨fun h => h, fun h => h⟩
theorem vcX_fre [Gl] {P : Program} {N : Nat} {ops : List Oper} {K : St → Prop} {i : Nat} {W : List Nat} {t : OX} {S : St} : vcX P N ops K (.fre i W t) S = stZ P N ops ops[i]? (backX (vcX P N ops K t) S.h) ⟨S.t, []⟩ := propext ⟨fun h => h, fun h => h⟩
attribute [go_sem] vcX_done vcX_nil vcX_alt vcX_one vcX_fre backX_eq
end Go.Ab
