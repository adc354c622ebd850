/- The abstract layer, part Z23: regions that draw their order, where some calls are effects, and operations that read only what is frozen stand beside them. -/
import Derived.Test.YtpidncgibgiidaaGreatZ18
set_option linter.unusedVariables false
set_option linter.unusedSectionVars false
set_option linter.unusedSimpArgs false
namespace Go.Ab
open Go.RowKit
section
variable {P : Program} {M : Nat → Prop} {w0 : World} {D : Nat → Prop} {N : Nat}
def clsOp (op : Op) : Bool := newOp op || effOp op || callOp op
theorem effK_new [Gl] {op : Op} {d : Option Tmp} {K : St → Prop} {S : St} (h : newOp op = true) : effK P op d K S = False := by
  cases op <;> first | rfl | cases h
theorem stepK_t [Gl] {o : Oper} (hc : clsOp o.op = true) {K1 K2 : St → Prop} {S S0 : St} (he : ∀ y ∈ o.op.operands, S0.ev y = S.ev y) (hh : S0.h = S.h) (hk : ∀ h' u, K1 ((⟨S.t, h'⟩ : St).put o.dst u) → K2 ((⟨S0.t, h'⟩ : St).put o.dst u))
    (hg : stepK P N o K1 S) : stepK P N o K2 S0 := by
  obtain ⟨t, h⟩ := S
  obtain ⟨t0, h0⟩ := S0
  simp only at hh hk
  subst hh
  unfold clsOp at hc
  cases hn : newOp o.op with
  | true =>
    obtain ⟨hd, hg⟩ := hg
    refine ⟨hd, ?_⟩
    have hdet : detOp o.op = true := by
      unfold detOp
      rw [hn, Bool.or_true, Bool.and_true]
      cases ho : o.op <;> first | rfl | (rw [ho] at hn; simp [newOp] at hn)
    have hv : valOp P o.op (St.ev ⟨t0, h0⟩) h0 = valOp P o.op (St.ev ⟨t, h0⟩) h0 := valOp_congrN hdet h0 he
    simp only at hg ⊢
    rw [hv]
    rw [effK_new hn] at hg ⊢
    generalize valOp P o.op (St.ev ⟨t, h0⟩) h0 = R at hg ⊢
    cases R with
    | ok pre v => exact ⟨hg.1, hk h0 v hg.2⟩
    | new pre k mk => exact ⟨hg.1, fun b hb => hk _ _ (hg.2 b hb)⟩
    | bad => exact hg
  | false =>
    rw [hn, Bool.false_or, Bool.or_eq_true] at hc
    obtain ⟨od, oop, oty, ops', oaf, og⟩ := o
    simp only at hc he hk hg ⊢
    rcases hc with hc | hc
    · unfold effOp at hc
      split at hc
      · rename_i tt a x
        rw [stepK_store] at hg ⊢
        rw [he a (by simp [Op.operands]), he x (by simp [Op.operands])]
        exact ⟨hg.1, storeK_t hk hg.2⟩
      · rename_i sa xa sta xta
        rw [stepK_append] at hg ⊢
        rw [he sa (by simp [Op.operands, Go.Call.operands]), he xa (by simp [Op.operands, Go.Call.operands])]
        refine ⟨hg.1, ?_⟩
        have hg2 := hg.2
        revert hg2
        cases notInt P xta with
        | true =>
          intro q
          simp only [cond_true] at q ⊢
          unfold appX at q ⊢
          generalize sameB _ _ = bb at q ⊢
          cases bb with
          | false => exact appK_t hk q
          | true =>
            obtain ⟨e, size, bytes, z, n, cs, b, len, k, q1, q2, q3, q4, q5, q6, q7, q8, q9, q10, q11, q12, q13⟩ := q
            exact ⟨e, size, bytes, z, n, cs, b, len, k, q1, q2, q3, q4, q5, q6, q7, q8, q9, q10, q11, q12, fun b' hb' => hk _ _ (q13 b' hb')⟩
        | false =>
          cases (ik P xta).isSome with
          | true =>
            intro q
            simp only [cond_false, cond_true] at q ⊢
            exact appZK_t hk q
          | false => exact fun q => q
      · cases hc
    · unfold callOp at hc
      split at hc
      · rename_i f xs ts
        rw [stepK_call] at hg ⊢
        have hxs : xs.toList.map (St.ev ⟨t0, h0⟩) = xs.toList.map (St.ev ⟨t, h0⟩) := List.map_congr_left fun y hy => he y (by simp [Op.operands, Go.Call.operands]; exact .inr (by simpa using hy))
        rw [he f (by simp [Op.operands, Go.Call.operands]), hxs]
        refine ⟨hg.1, ?_⟩
        have hg2 := hg.2
        unfold callK at hg2 ⊢
        split at hg2
        · exact Call.mono hg2 fun r h' hq => hk h' r hq
        · exact hg2.elim
      · cases hc
def kindW (X : List Nat) (j : Nat) (o : Oper) : Bool := stab X j o || ((newOp o.op || (effOp o.op || hasN X j && callOp o.op)))
theorem opY_putW [Gl] {X : List Nat} {ops : List Oper} {h : Heap} {j : Nat} {oi oj : Oper} {v : SV} (hj : ops[j]? = some oj) (hap : oi.apart ops.toArray oj = true) (hsi : stableOp oi.op = true) (hsj : kindW X j oj = true)
    {K : (Nat → SV) → Heap → Prop} {T : Nat → SV} (hy : YA P N ops oi T [] v) (hh : opY P N X ops j K (putF T oi.dst v) h) :
    opY P N X ops j (fun T' h' => YA P N ops oi T' [] v ∧ K (putF T' oi.dst v) h') T h := by
  obtain ⟨h1, h2, h3⟩ := Oper.apart_spec hap
  unfold opY at hh ⊢
  simp only [hj] at hh ⊢
  cases hs : stab X j oj with
  | true =>
    rw [hs] at hh
    simp only [cond_true] at hh ⊢
    obtain ⟨u, hu, hn⟩ := hh
    exact ⟨u, (YA_putF (stab_op hs) (fun t ht => h1 t ht)).1 hu, (YA_putF hsi (fun t ht => h3 t ht)).2 hy, by rw [← putF_comm T v u h2]; exact hn⟩
  | false =>
    rw [hs] at hh
    simp only [cond_false] at hh ⊢
    cases hnw : (newOp oj.op && oj.guard.isNone) with
    | true =>
      rw [hnw] at hh
      simp only [cond_true] at hh ⊢
      rw [Bool.and_eq_true] at hnw
      obtain ⟨hd, hv⟩ := hh
      have hdet : detOp oj.op = true := by
        unfold detOp
        rw [hnw.1, Bool.or_true, Bool.and_true]
        cases ho : oj.op <;> first | rfl | (rw [ho] at hnw; simp [newOp] at hnw)
      refine ⟨hd, ?_⟩
      have he : valOp P oj.op (evF T) h = valOp P oj.op (evF (putF T oi.dst v)) h := valOp_congrN hdet h (fun x hx => (evF_putF (ops := ops) (o := oj) (fun t ht => h1 t ht) x hx).symm)
      rw [← he] at hv
      generalize valOp P oj.op (evF T) h = R at hv ⊢
      unfold resN at hv ⊢
      cases R with
      | ok pre u =>
        exact ⟨hv.1, (YA_putF hsi (fun t ht => h3 t ht)).2 hy, by rw [← putF_comm T v _ h2]; exact hv.2⟩
      | new pre k mk =>
        exact ⟨hv.1, fun b hb => ⟨(YA_putF hsi (fun t ht => h3 t ht)).2 hy, by rw [← putF_comm T v _ h2]; exact hv.2 b hb⟩⟩
      | bad => exact hv.elim
    | false =>
      rw [hnw] at hh
      simp only [cond_false] at hh ⊢
      have hcl : clsOp oj.op = true := by
        unfold kindW at hsj
        rw [hs, Bool.false_or] at hsj
        unfold clsOp
        cases hn : newOp oj.op with
        | true => rfl
        | false =>
          rw [hn, Bool.false_or] at hsj
          rw [Bool.false_or]
          cases he : effOp oj.op with
          | true => rfl
          | false =>
            rw [he, Bool.false_or, Bool.and_eq_true] at hsj
            rw [Bool.false_or]
            exact hsj.2
      obtain ⟨S, e1, e2, hg⟩ := hh
      obtain ⟨St1, Sh1⟩ := S
      simp only at e1 e2
      subst e2
      obtain ⟨t0, et⟩ := put_back (S := ⟨St1, Sh1⟩) e1
      refine ⟨⟨t0, Sh1⟩, et, rfl, ?_⟩
      have key : ∀ (S1 S2 : St), look S1.t = putF T oi.dst v → look S2.t = T → S2.h = S1.h → (stepK P N oj (fun S => K (look S.t) S.h) S1 → stepK P N oj (fun S => YA P N ops oi (look S.t) [] v ∧ K (putF (look S.t) oi.dst v) S.h) S2) ∧
          ∀ (h' : Heap) (u : SV), K (look ((⟨S1.t, h'⟩ : St).put oj.dst u).t) h' → YA P N ops oi (look ((⟨S2.t, h'⟩ : St).put oj.dst u).t) [] v ∧ K (putF (look ((⟨S2.t, h'⟩ : St).put oj.dst u).t) oi.dst v) h' := fun S1 S2 q1 q2 q3 => by
        have hk : ∀ (h' : Heap) (u : SV), K (look ((⟨S1.t, h'⟩ : St).put oj.dst u).t) h' → YA P N ops oi (look ((⟨S2.t, h'⟩ : St).put oj.dst u).t) [] v ∧ K (putF (look ((⟨S2.t, h'⟩ : St).put oj.dst u).t) oi.dst v) h' := fun h' u hq => by
          rw [look_put] at hq ⊢
          simp only at hq ⊢
          rw [q1] at hq
          rw [q2]
          exact ⟨(YA_putF hsi (fun t ht => h3 t ht)).2 hy, by rw [← putF_comm T v _ h2]; exact hq⟩
        refine ⟨fun hst => stepK_t hcl (fun y hy => ?_) q3 (fun h' u hq => ?_) hst, hk⟩
        · rw [ev_look, ev_look, q1, q2]
          exact (evF_putF (ops := ops) (o := oj) (fun t ht => h1 t ht) y hy).symm
        · have := hk h' u (by rw [h_put] at hq; exact hq)
          rw [h_put]
          exact this
      unfold gstep at hg ⊢
      cases hgd : oj.guard with
      | none =>
        rw [hgd] at hg
        exact (key ⟨St1, Sh1⟩ ⟨t0, Sh1⟩ e1 et rfl).1 hg
      | some jw =>
        obtain ⟨jj, want⟩ := jw
        rw [hgd] at hg
        simp only at hg ⊢
        unfold guardK at hg ⊢
        cases hgt : gdst ops jj with
        | none => rw [hgt] at hg; exact hg
        | some gt =>
          rw [hgt] at hg
          simp only at hg ⊢
          have hne : oi.dst ≠ some gt := fun e => h1 gt e (by
            refine List.mem_append_right _ ?_
            rw [hgd]
            unfold gdst at hgt
            split at hgt
            · rename_i o' ho'
              simp only [List.getElem?_toArray, ho', Option.bind_some, hgt]
              simp
            · cases hgt)
          have hl : look t0 gt = look St1 gt := by rw [et, e1, putF_other hne]
          rw [hl]
          unfold guardB at hg ⊢
          have put_same : ∀ (t : List (Nat × SV)) (h' : Heap) (u : SV), look t gt = u → look ((⟨t, h'⟩ : St).put (some gt) u).t = look t := fun t h' u hu => by
            rw [look_put]
            funext x
            simp only [putF]
            cases hq : Nat.beq gt x with
            | false => rfl
            | true => simp only [cond_true]; rw [← Nat.eq_of_beq_eq_true hq]; exact hu.symm
          split at hg
          · rename_i bb hb
            have st1 : ∀ c, look St1 gt = .sc (.bool c) → (stepK P N oj (fun S => K (look S.t) S.h) ((⟨St1, Sh1⟩ : St).put (some gt) (.sc (.bool c))) → stepK P N oj (fun S => YA P N ops oi (look S.t) [] v ∧ K (putF (look S.t) oi.dst v) S.h) ((⟨t0, Sh1⟩ : St).put (some gt) (.sc (.bool c)))) ∧
                ((dstOk N oj.dst ∧ K (look (((⟨St1, Sh1⟩ : St).put (some gt) (.sc (.bool c))).put oj.dst (.sc undef)).t) (((⟨St1, Sh1⟩ : St).put (some gt) (.sc (.bool c))).put oj.dst (.sc undef)).h) → (dstOk N oj.dst ∧ YA P N ops oi (look (((⟨t0, Sh1⟩ : St).put (some gt) (.sc (.bool c))).put oj.dst (.sc undef)).t) [] v ∧ K (putF (look (((⟨t0, Sh1⟩ : St).put (some gt) (.sc (.bool c))).put oj.dst (.sc undef)).t) oi.dst v) (((⟨t0, Sh1⟩ : St).put (some gt) (.sc (.bool c))).put oj.dst (.sc undef)).h)) := fun c hc => by
              have hq1 : look ((⟨St1, Sh1⟩ : St).put (some gt) (.sc (.bool c))).t = putF T oi.dst v := by rw [put_same St1 Sh1 _ hc, e1]
              have hq2 : look ((⟨t0, Sh1⟩ : St).put (some gt) (.sc (.bool c))).t = T := by rw [put_same t0 Sh1 _ (by rw [hl]; exact hc), et]
              have kk := key _ _ hq1 hq2 rfl
              refine ⟨kk.1, fun ⟨d1, hK⟩ => ⟨d1, ?_⟩⟩
              have k3 := kk.2 Sh1 (.sc undef) (by rw [h_put] at hK; exact hK)
              rw [h_put]
              exact k3
            cases bb with
            | true =>
              have s2 := st1 true hb
              cases want with
              | true => simpa using s2.1 (by simpa using hg)
              | false => simpa using s2.2 (by simpa using hg)
            | false =>
              have s2 := st1 false hb
              cases want with
              | true => simpa using s2.2 (by simpa using hg)
              | false => simpa using s2.1 (by simpa using hg)
          · have kk := key ⟨St1, Sh1⟩ ⟨t0, Sh1⟩ e1 et rfl
            have k3 := kk.2 Sh1 (.sc undef) (by have := hg.2; rw [h_put] at this; exact this)
            refine ⟨hg.1, ?_⟩
            rw [h_put]
            exact k3
          · exact hg
theorem opY_monoW [Gl] {X : List Nat} {ops : List Oper} {h : Heap} {i : Nat} {o : Oper} (ho : ops[i]? = some o) (hs : kindW X i o = true) {K K' : (Nat → SV) → Heap → Prop} {T : Nat → SV} (hk : ∀ T h, K T h → K' T h) (hh : opY P N X ops i K T h) : opY P N X ops i K' T h := by
  unfold opY at hh ⊢
  simp only [ho] at hh ⊢
  cases h1 : stab X i o with
  | true =>
    rw [h1] at hh
    simp only [cond_true] at hh ⊢
    obtain ⟨v, hy, hn⟩ := hh
    exact ⟨v, hy, hk _ _ hn⟩
  | false =>
    rw [h1] at hh
    simp only [cond_false] at hh ⊢
    cases h2 : (newOp o.op && o.guard.isNone) with
    | true =>
      rw [h2] at hh
      simp only [cond_true] at hh ⊢
      obtain ⟨hd, hv⟩ := hh
      refine ⟨hd, ?_⟩
      unfold resN at hv ⊢
      split at hv
      · exact ⟨hv.1, hk _ _ hv.2⟩
      · exact ⟨hv.1, fun b hb => hk _ _ (hv.2 b hb)⟩
      · exact hv
    | false =>
      rw [h2] at hh
      simp only [cond_false] at hh ⊢
      obtain ⟨S, e1, e2, hg⟩ := hh
      exact ⟨S, e1, e2, gstep_mono (fun S' hS => stepK_mono (fun S'' hS => hk _ _ hS) hS) (fun S' hS => hk _ _ hS) hg⟩
theorem anyY_firstW [Gl] {X : List Nat} {ops : List Oper} {K : (Nat → SV) → Heap → Prop} {i : Nat} {oi : Oper} {v : SV} (hi : ops[i]? = some oi) (hst : stab X i oi = true) (W : Nat → Bool)
    (hW : ∀ m om, ops[m]? = some om → W m = true → m = i ∨ ∃ e ∈ om.after, Region.binds .any e = true ∧ W e.on = true) (l0 : Array Bool)
    (free : ∀ j oj, ops[j]? = some oj → W j = false → l0.getD j true = false → oi.apart ops.toArray oj = true ∧ kindW X j oj = true) :
    ∀ (fuel : Nat) (listed : Array Bool) (T : Nat → SV) (h : Heap), (∀ m, W m = true → listed.getD m true = false) → (∀ j, listed.getD j true = false → l0.getD j true = false) →
      i ∈ Region.ready .any ops.toArray listed → YA P N ops oi T [] v →
      anyY P N X ops K fuel (listed.setIfInBounds i true) (putF T oi.dst v) h → anyY P N X ops K (fuel + 1) listed T h := by
  have hsi := stab_op hst
  have use : ∀ {K' : (Nat → SV) → Heap → Prop} {T : Nat → SV} {h : Heap}, YA P N ops oi T [] v → K' (putF T oi.dst v) h → opY P N X ops i K' T h := fun hy hk => by
    unfold opY; simp only [hi, hst, cond_true]; exact ⟨v, YA_nil hsi hy, hk⟩
  intro fuel
  induction fuel with
  | zero =>
    intro listed T h _ _ hr hy H
    refine ⟨fun h => (by rw [h] at hr; cases hr), fun j hj => ?_⟩
    by_cases hji : j = i
    · subst hji; exact use hy H
    · have := ready_mono hj hji
      rw [H.1] at this
      cases this
  | succ fuel ih =>
    intro listed T h hw hl hr hy H
    refine ⟨fun h => (by rw [h] at hr; cases hr), fun j hj => ?_⟩
    by_cases hji : j = i
    · subst hji; exact use hy H
    · have h1 := H.2 j (ready_mono hj hji)
      obtain ⟨hjun, oj, hoj, hall⟩ := mem_ready.1 hj
      rw [List.getElem?_toArray] at hoj
      have hWj : W j = false := by
        cases hWj : W j with
        | false => rfl
        | true =>
          rcases hW j oj hoj hWj with e | ⟨e, he, hb, hWe⟩
          · exact absurd e hji
          · have h2 := hall e he hb
            have h3 := hw _ hWe
            rcases Nat.lt_or_ge e.on listed.size with h' | h'
            · simp [h'] at h2 h3; rw [h3] at h2; cases h2
            · simp [Array.getElem?_eq_none h'] at h3
      obtain ⟨hap, hkj⟩ := free j oj hoj hWj (hl j hjun)
      have h2 := opY_putW hoj hap hsi hkj hy h1
      refine opY_monoW hoj hkj (fun T' h' ⟨h3, h4⟩ => ih (listed.setIfInBounds j true) T' h' (fun m hm => ?_) (fun k hk => ?_) (ready_mono hr (Ne.symm hji)) h3 ?_) h2
      · by_cases e : j = m
        · subst e; rw [hWj] at hm; cases hm
        · rw [getD_set_ne true e]; exact hw m hm
      · by_cases e : j = k
        · subst e; exact hl j hjun
        · rw [getD_set_ne true e] at hk; exact hl k hk
      · rw [Array.setIfInBounds_comm _ _ hji]
        exact h4
inductive OW where
  | done
  | nil
  | alt (i : Nat) (b : Bool) (t r : OW)
  | fre (i : Nat) (W : List Nat) (t : OW)
def OW.heads : OW → List Nat
  | .alt i _ _ r => i :: r.heads
  | _ => []
def freeAllW (X : List Nat) (ops : List Oper) (oi : Oper) (W : List Nat) (l : Array Bool) : List Oper → Nat → Bool
  | [], _ => true
  | o :: r, j => (hasN W j || l.getD j true || (oi.apart ops.toArray o && kindW X j o)) && freeAllW X ops oi W l r (j + 1)
def freOkW (X : List Nat) (ops : List Oper) (i : Nat) (W : List Nat) (l : Array Bool) : Bool :=
  match ops[i]? with
  | none => false
  | some oi => stab X i oi && (Region.ready .any ops.toArray l).any (Nat.beq i) &&
    W.all (fun m => !l.getD m true && (Nat.beq m i || (match ops[m]? with
      | none => false
      | some om => om.after.any fun e => Region.binds .any e && hasN W e.on))) && freeAllW X ops oi W l ops 0
def OW.root (X : List Nat) (ops : List Oper) (t : OW) (l : Array Bool) : Bool := match t with
  | .done => (Region.ready .any ops.toArray l).isEmpty
  | .nil => false
  | .fre i W _ => freOkW X ops i W l
  | t => Region.ready .any ops.toArray l == t.heads
def OW.chk (X : List Nat) (ops : List Oper) : OW → Nat → Array Bool → Bool
  | .alt i b t r, 0, l => false
  | .alt i b t r, f + 1, l => (b == hasN X i) && t.root X ops (l.setIfInBounds i true) && t.chk X ops f (l.setIfInBounds i true) && r.chk X ops (f + 1) l
  | .fre i W t, 0, l => false
  | .fre i W t, f + 1, l => t.root X ops (l.setIfInBounds i true) && t.chk X ops f (l.setIfInBounds i true)
  | _, _, _ => true
def vcW [Gl] (P : Program) (N : Nat) (ops : List Oper) (K : St → Prop) : OW → St → Prop
  | .done, S => K S
  | .nil, S => True
  | .alt i b t r, S => stY P N ops b ops[i]? (vcW P N ops K t) S ∧ vcW P N ops K r S
  | .fre i _ t, S => stY P N ops false ops[i]? (fun S' => vcW P N ops K t ⟨S'.t, S.h⟩) ⟨S.t, []⟩
theorem freeAllW_spec {X : List Nat} {ops : List Oper} {oi : Oper} {W : List Nat} {l : Array Bool} : ∀ (r : List Oper) (k : Nat), freeAllW X ops oi W l r k = true →
    ∀ j o, r[j]? = some o → hasN W (k + j) = false → l.getD (k + j) true = false → oi.apart ops.toArray o = true ∧ kindW X (k + j) o = true
  | [], _, _, j, o, ho, _, _ => by simp at ho
  | x :: r, k, h, j, o, ho, h1, h2 => by
    simp only [freeAllW, Bool.and_eq_true] at h
    cases j with
    | zero =>
      simp only [List.getElem?_cons_zero, Option.some.injEq] at ho
      subst ho
      have := h.1
      rw [Nat.add_zero] at h1 h2
      rw [h1, h2, Bool.false_or, Bool.false_or, Bool.and_eq_true] at this
      exact this
    | succ j =>
      have e : k + (j + 1) = k + 1 + j := by omega
      rw [e]
      exact freeAllW_spec r (k + 1) h.2 j o (by simpa using ho) (by rw [← h1]; congr 1; omega) (by rw [← h2]; congr 1; omega)
theorem vcW_sound [Gl] {X : List Nat} {ops : List Oper} {K : St → Prop} {K' : (Nat → SV) → Heap → Prop} (hk : ∀ S, K S → K' (look S.t) S.h) : ∀ (t : OW),
    (∀ (f : Nat) (l : Array Bool) (S : St), t.root X ops l = true → t.chk X ops f l = true → vcW P N ops K t S → anyY P N X ops K' f l (look S.t) S.h) ∧
    (∀ (f : Nat) (l : Array Bool) (S : St), t.chk X ops (f + 1) l = true → vcW P N ops K t S → ∀ i ∈ t.heads, i ∈ Region.ready .any ops.toArray l → opY P N X ops i (anyY P N X ops K' f (l.setIfInBounds i true)) (look S.t) S.h)
  | .done => by
    refine ⟨fun f l S h1 h2 h3 => ?_, fun f l S _ _ i hi => by cases hi⟩
    have h0 : Region.ready .any ops.toArray l = [] := by simpa [OW.root] using h1
    cases f with
    | zero => exact ⟨h0, hk S h3⟩
    | succ f => exact ⟨fun _ => hk S h3, fun i hi => by rw [h0] at hi; cases hi⟩
  | .nil => ⟨fun f l S h1 h2 h3 => (by cases h1), fun f l S _ _ i hi => by cases hi⟩
  | .fre i W t => by
    obtain ⟨ht, _⟩ := vcW_sound hk t
    refine ⟨fun f l S h1 h2 h3 => ?_, fun f l S _ _ i hi => by cases hi⟩
    cases f with
    | zero => cases h2
    | succ f =>
      simp only [OW.root] at h1
      unfold freOkW at h1
      split at h1
      · cases h1
      · rename_i oi hi
        simp only [vcW, hi, stY] at h3
        simp only [OW.chk, Bool.and_eq_true] at h2
        simp only [Bool.and_eq_true] at h1
        obtain ⟨⟨⟨c1, c2⟩, c3⟩, c4⟩ := h1
        simp only [cond_false] at h3
        obtain ⟨S1, v, e1, e2, hy, hK⟩ := sstep_of (K := fun S' => vcW P N ops K t ⟨S'.t, S.h⟩) (stab_op c1) h3
        have hn := ht f _ _ h2.1 h2.2 hK
        simp only at hn
        rw [look_put, e1] at hn
        have c3' := wait_spec c3
        refine anyY_firstW hi c1 (hasN W) (fun m om hm hW => ?_) l (fun j oj hj h1 h2 => ?_) f l _ _ (fun m hm => (c3' m hm).1) (fun j hj => hj) ?_ hy hn
        · rcases (c3' m hW).2 with e | ⟨om', h1, h2⟩
          · exact .inl e
          · rw [hm] at h1
            cases h1
            exact .inr h2
        · have h9 := freeAllW_spec ops 0 c4 j oj hj (by rw [Nat.zero_add]; exact h1) (by rw [Nat.zero_add]; exact h2)
          rw [Nat.zero_add] at h9
          exact h9
        · rw [List.any_eq_true] at c2
          obtain ⟨x, hx, he⟩ := c2
          rw [Nat.beq_eq] at he
          exact he ▸ hx
  | .alt i b t r => by
    obtain ⟨ht, _⟩ := vcW_sound hk t
    obtain ⟨_, hrr⟩ := vcW_sound hk r
    have B : ∀ (f : Nat) (l : Array Bool) (S : St), (OW.alt i b t r).chk X ops (f + 1) l = true → vcW P N ops K (.alt i b t r) S → ∀ j ∈ (OW.alt i b t r).heads, j ∈ Region.ready .any ops.toArray l → opY P N X ops j (anyY P N X ops K' f (l.setIfInBounds j true)) (look S.t) S.h := by
      intro f l S hc hv j hj hrd
      simp only [OW.chk, Bool.and_eq_true] at hc
      obtain ⟨⟨⟨c0, c1⟩, c2⟩, c3⟩ := hc
      have c0 : b = hasN X i := by simpa using c0
      obtain ⟨v1, v2⟩ := hv
      rcases List.mem_cons.1 hj with rfl | hj
      · obtain ⟨_, o, ho, _⟩ := mem_ready.1 hrd
        rw [List.getElem?_toArray] at ho
        rw [ho] at v1
        exact opY_of ho (hb := c0) (hk := fun S' hS => ht f _ S' c1 c2 hS) (h := v1)
      · exact hrr f l S c3 v2 j hj hrd
    refine ⟨fun f l S h1 h2 h3 => ?_, B⟩
    have h0 : Region.ready .any ops.toArray l = (OW.alt i b t r).heads := by simpa [OW.root] using h1
    cases f with
    | zero => simp [OW.chk] at h2
    | succ f =>
      refine ⟨fun he => ?_, fun j hj => B f l S h2 h3 j (by rw [← h0]; exact hj) hj⟩
      rw [h0] at he
      cases he
end
theorem SW.regionW [Gl] {P : Program} {N : Nat} (X : List Nat) {id : Nat} {ops : List Oper} {Q : Exit → St → Prop} {S : St} (hm : P.follows .mixedOrders = true) (T : OW) (hB : (T.root X ops (Array.replicate ops.length false) && T.chk X ops ops.length (Array.replicate ops.length false)) = true)
    (h : vcW P N ops (Q .normal) T S) : SW P N (.region id ops.toArray true) Q S := SW.mk fun M w0 D a w hr => by
  rw [Bool.and_eq_true] at hB
  refine wp_region_any hm ?_
  have hr' : Rel M w0 D N S a (drw w) := ⟨hr.defers, hr.n, fun i => (hr.t i).mono (env_drw _ _), hr.own.drw, hr.frm.trans (frm_drw (fun _ => False) w) (fun _ _ x => x.elim), hr.new⟩
  have h1 := (vcW_sound (K' := fun T h => ∃ S', look S'.t = T ∧ S'.h = h ∧ Q .normal S') (fun S hS => ⟨S, rfl, rfl, hS⟩) T).1 ops.length _ S hB.1 hB.2 h
  have h2 := anyY_sound (Q := fun e a' w' => ∃ S', Q e S' ∧ Rel M w0 D N S' a' w') (K := fun T h => ∃ S', look S'.t = T ∧ S'.h = h ∧ Q .normal S') (fun S a w ⟨S', e1, e2, hx⟩ hr => ⟨S', hx, hr.look_eq e1 e2⟩) _ _ S a _ hr' h1
  simpa [drw] using h2
theorem vcW_done [Gl] {P : Program} {N : Nat} {ops : List Oper} {K : St → Prop} {S : St} : vcW P N ops K .done S = K S := propext ⟨fun h => h, fun h => h⟩
theorem vcW_nil [Gl] {P : Program} {N : Nat} {ops : List Oper} {K : St → Prop} {S : St} : vcW P N ops K .nil S = True := propext ⟨fun h => h, fun h => h⟩
theorem vcW_alt [Gl] {P : Program} {N : Nat} {ops : List Oper} {K : St → Prop} {i : Nat} {b : Bool} {t r : OW} {S : St} : vcW P N ops K (.alt i b t r) S = (stY P N ops b ops[i]? (vcW P N ops K t) S ∧ vcW P N ops K r S) := propext ⟨fun h => h, fun h => h⟩
theorem vcW_fre [Gl] {P : Program} {N : Nat} {ops : List Oper} {K : St → Prop} {i : Nat} {W : List Nat} {t : OW} {S : St} : vcW P N ops K (.fre i W t) S = stY P N ops false ops[i]? (backX (vcW P N ops K t) S.h) ⟨S.t, []⟩ := propext ⟨fun h => h, fun h => h⟩
attribute [go_sem] vcW_done vcW_nil vcW_alt vcW_fre
end Go.Ab
