/- Several texts in one: DO, DM, W3, P9, L0, SA. -/
import Derived.Test.YtblfodnajpamfaaGreatDoorQ5
import Derived.Test.YtblfodnajpamfaaGreatDoorQ3
import Derived.Test.YtblfodnajpamfaaGreatDoorQ4
import Derived.Test.YtblfodnajpamfaaGreatDoorZ20
set_option linter.unusedSimpArgs false
set_option linter.unusedVariables false
set_option linter.unusedSectionVars false
set_option maxHeartbeats 4000000
set_option maxRecDepth 20000
namespace Go.Ab.A15
open Go Go.Ab Go.Ab.A34
def gL (l : List (List Int)) (j : Nat) : List SV := [IL (l.getD j [])]
theorem fl_str (l : List ByteArray) : flCells (sF l) l.length = l.map Str := by
  have e : l = (List.range l.length).map fun i => l.getD i ⟨#[]⟩ := by
    refine List.ext_getElem (by simp) fun i h1 h2 => ?_
    simp [List.getD_eq_getElem?_getD, h1]
  unfold flCells
  conv => rhs; rw [e]
  rw [List.map_map]
  unfold sF
  induction (List.range l.length) with
  | nil => rfl
  | cons x r ih => rw [List.flatMap_cons, List.map_cons, ih]; rfl
theorem str_at {l : List ByteArray} {j : Nat} (h : j < l.length) : sF l j = ((l.map Str).drop j).take 1 := by
  have hl : j < (l.map Str).length := by rw [List.length_map]; exact h
  rw [List.drop_eq_getElem_cons hl, List.take_succ_cons, List.take_zero, List.getElem_map]
  unfold sF
  simp [List.getD_eq_getElem?_getD, h]
theorem wB_drop {ws : List Wt} {i : Nat} (h : i < ws.length) : wB (ws.drop i) = wb1 (ws.getD i w0) ++ wB (ws.drop (i + 1)) := by
  have g : ws.getD i w0 = ws[i] := by simp [List.getD_eq_getElem?_getD, h]
  rw [List.drop_eq_getElem_cons h, g]
  unfold wB
  rw [List.flatMap_cons]
theorem gC_len (l : List (List Int)) : (gC l).length = l.length := List.length_map _
theorem gC_at {l : List (List Int)} {j : Nat} (h : j < l.length) : gL l j = ((gC l).drop j).take 1 := by
  have hl : j < (gC l).length := by rw [gC_len]; exact h
  rw [List.drop_eq_getElem_cons hl, List.take_succ_cons, List.take_zero]
  have := gC_get h
  unfold gL
  rw [← this]
  simp [List.getD_eq_getElem?_getD, gC, h]
theorem St.le_slist [Gl] {t : List (Nat × SV)} {h h' : Heap} (hs : h'.Sublist h) : (St.mk t h).le ⟨t, h'⟩ := St.le_sublist (fun _ hx => hs.subset hx) (fun hn => (hs.map _).nodup hn)
end Go.Ab.A15
namespace Go.Proofs.YtblfodnajpamfaaGreatDoor
open Go Go.Ab Go.Ab.A34 Go.Ab.A15
variable [Gl] [Tabs]
theorem clone_s (l : List ByteArray) (hl : l.length ≤ 1000) : PCall Tryz.prog 76 [SL l] (SL l) := by
  have hfm := fl_str l
  refine Call.enter' (N := 8) (rs := [.tmp 2]) Tryz.func76 rfl rfl rfl (by decide) rfl ?_; simp only [argT]; have hD : (0 : Nat) = 0 := rfl
  refine SW.seq_k fun K0 hK0 => ?_
  refine SW.region ?_
  simp only [go_sem, hD]
  refine hK0 _ ?_
  clear hK0 K0
  refine SW.seq_k fun K hK => ?_
  refine SW.seq_k fun K2 hK2 => ?_
  refine SW.region_nil (i := 0) (j := 3) (k := 4) rfl rfl rfl rfl rfl rfl Tryz.underlying72 rfl (by decide) (by decide) (fun hn => ?_) ?_
  · refine hK2 _ ?_
    clear hK2 K2
    have hl0 : l = [] := List.eq_nil_of_length_eq_zero hn
    subst hl0
    repeat' first | (refine SW.seq_k fun K hK => ?_) | ((first | refine SW.region ?_ | refine SW.cond ?_ | refine SW.ret ?_); try simp only [go_sem, hD]) | (apply hK; clear hK K)
    refine retQ_le (St.le_nil_fl (i := 2) (sz := 1) (f := sF []) rfl) ?_
    simp only [resL_tmp, resL_nil, tupOf, go_sem, hD]
    all_goals first | exact ⟨rfl, rfl⟩ | rfl
  · refine hK2 _ ?_
    clear hK2 K2
    repeat' first | (refine SW.seq_k fun K hK => ?_) | ((first | refine SW.region ?_ | refine SW.cond ?_ | refine SW.skip ?_ | (refine allF_i fun b hb => ?_; replace hD := And.intro hb hD; clear hb; try simp only [fresh_cons, fresh_nil, and_true, ne_eq, neF] at hD) | simp only [appK, appOsK]); try simp only [go_sem, hD]) | (apply hK; clear hK K)
    rw [hfm]
    refine ⟨?_, by omega, by omega, allF_i fun b' hb' => ?_⟩
    · rw [List.all_eq_true]
      intro x hx
      obtain ⟨r, _, rfl⟩ := List.mem_map.1 hx
      rfl
    · apply hK
      clear hK K
      repeat' (refine SW.ret ?_; try simp only [go_sem, hD])
      refine retQ_le (St.le_freeze (i := 2) (b := b') (off := 0) (len := l.length) (sz := 1) (k := .svs (l.map Str)) rfl (by rw [find_cons, if_pos rfl]) (by rw [Blk.len_svs, List.length_map]; omega) (sF l) (fun j hj => by
        rw [getN_take _ _ _ (by rw [Blk.len_svs, List.length_map]; omega), Nat.zero_add, Nat.mul_one]
        exact str_at hj)) ?_
      rw [del_head]
      simp only [resL_tmp, resL_nil, tupOf, go_sem, hD]
      all_goals first | exact ⟨rfl, rfl⟩ | rfl
theorem database_c (wb rb : Nat) (db : List Tb) (z : Int) (ws : List Wt) (hN : ws.length = db.length) (h4 : db.length ≤ 1000) (hat : ∀ t ∈ db, t.attrs.length ≤ 1000)
    (hw : ∀ s, s < ws.length → (ws.getD s w0).2.length ≤ 1000 ∧ (ws.getD s w0).2.Nodup ∧ ∀ r ∈ (ws.getD s w0).2, r.length ≤ 1000) :
    Ab.Call Tryz.prog 50 [.op wb 0] (WH wb rb (TL db) z ws) (fun r h' => r = DB (refW db ws) ∧ h' = []) := by
  refine Call.nd fun hnd => ?_
  have hw1 : ¬ wb = rb := by
    unfold WH at hnd
    simp only [List.map_cons, List.nodup_cons, List.mem_cons, not_or] at hnd
    exact hnd.1.1
  have hw2 : ¬ rb = wb := fun h => hw1 h.symm
  clear hnd
  obtain ⟨F, hF⟩ : ∃ F, F = refP db ws := ⟨_, rfl⟩
  have hFs := refP_succ db ws
  have hFl := refP_len db ws
  have hF0 : F 0 = [] := by rw [hF]; rfl
  have hFe : refW db ws = F db.length := by rw [hF]; rfl
  rw [← hF] at hFs hFl
  rw [hFe]
  clear hF hFe
  unfold WH
  refine Call.enter' (N := 81) (rs := [.cell 2 30]) Tryz.func50 rfl rfl rfl (by decide) rfl ?_; simp only [argT]; have hD : (0 : Nat) = 0 := rfl
  clear hD
  have hD := And.intro (eq_false hw1) (eq_false hw2)
  repeat' first | (refine SW.seq_k fun K hK => ?_) | (refine SW.block ?_) | ((first | refine SW.region ?_ | (refine allF_i fun b hb => ?_; replace hD := And.intro hb hD; clear hb; try simp only [fresh_cons, fresh_nil, and_true, ne_eq, neF] at hD)); try simp only [go_sem, hD, true_implies]) | (apply hK; clear hK K)
  obtain ⟨sb, rfl⟩ : ∃ x, x = b := ⟨_, rfl⟩
  obtain ⟨ob, rfl⟩ : ∃ x, x = b := ⟨_, rfl⟩
  clear hD
  obtain ⟨I, hI⟩ : ∃ I : Nat → St → Prop, ∀ k S, I k S ↔ (∃ (i : Nat) (cs : List SV) (x : SV) (G : Heap), k = db.length - i ∧ i ≤ db.length ∧ cs.length = ws.length ∧ (∀ s, i ≤ s → s < ws.length → cs.getD s .any = wc (ws.getD s w0)) ∧ ((i = 0 ∧ x = SN ∧ G = []) ∨ (0 < i ∧ ∃ g, x = .os g 0 i 3 ∧ G = [(g, .svs (fC tC (F i)))])) ∧ S = ⟨[(0, .op wb 0), (2, .op ob 0), (3, .op sb 0), (15, TL db), (16, I64 db.length), (17, I64 i)], (sb, .svs [x]) :: (ob, .svs [SN]) :: (wb, .svs [TL db, .os rb 0 ws.length 1, I64 z]) :: (rb, .svs cs) :: (G ++ wB (ws.drop i))⟩) := ⟨fun k S => _, fun _ _ => Iff.rfl⟩
  refine SW.loop' I (db.length) ((hI _ _).2 ⟨0, ws.map wc, SN, [], rfl, Nat.zero_le _, List.length_map _, (fun s _ hs => by simp [List.getD_eq_getElem?_getD, hs]), .inl ⟨rfl, rfl, rfl⟩, rfl⟩) (by repeat' (first | exact rfl | exact trivial | constructor)) ?_
  intro k S hIn
  obtain ⟨i, cs, x, G, rfl, hi, hcl, hcs, hG, rfl⟩ := (hI _ _).1 hIn
  clear hIn
  have ie : ((i : Nat) : Int).toNat = i := Int.toNat_natCast _
  have i0 : (0 : Int) ≤ ((i : Nat) : Int) := by omega
  refine SW.nd fun hnd => ?_
  by_cases hlt : i < db.length
  · have hli : ((i : Nat) : Int) < (((db.length) : Nat) : Int) := by omega
    have w1 : IntKind.i64.wrap ((i : Int) + 1) = ((i + 1 : Nat) : Int) := by rw [i64_wrap (by omega) (by omega)]; omega
    have fi : tF db i = tC (db.getD i t0) := rfl
    have hgi := hcs i (Nat.le_refl _) (by omega)
    have hwi := hw i (by omega)
    have hti := hat _ (getD_mem' t0 hlt)
    have hFi := hFs i
    have hdr := wB_drop (show i < ws.length by omega)
    have ict : i < cs.length := by omega
    have iwt : ((i : Nat) : Int) < ((ws.length : Nat) : Int) := by omega
    rw [hdr] at hnd ⊢
    have hcs2 : ∀ v s, i + 1 ≤ s → s < ws.length → (cs.set i v).getD s .any = wc (ws.getD s w0) := fun v s h1 h2 => by
      rw [← hcs s (by omega) h2]
      simp [List.getD_eq_getElem?_getD, List.getElem?_set_ne (show i ≠ s by omega)]
    clear hcs hdr
    generalize db.getD i t0 = t at *
    generalize ws.getD i w0 = e at *
    obtain ⟨tn, ta, tr⟩ := t
    obtain ⟨b0, L0⟩ := e
    simp only at hti hwi hFi
    have c76 := clone_s ta hti
    generalize hTL : wB (ws.drop (i + 1)) = T at *
    simp only [List.map_cons, List.map_append, List.nodup_cons, List.mem_cons, List.mem_append, not_or, List.nodup_append] at hnd
    have e1 : ¬ sb = ob := hnd.1.1
    have e2 : ¬ sb = wb := hnd.1.2.1
    have e3 : ¬ sb = rb := hnd.1.2.2.1
    have e4 : ¬ ob = wb := hnd.2.1.1
    have e5 : ¬ ob = rb := hnd.2.1.2.1
    have hEE := And.intro (And.intro (And.intro (eq_false e1) (eq_false (Ne.symm e1))) (And.intro (eq_false e2) (eq_false (Ne.symm e2)))) (And.intro (And.intro (And.intro (eq_false e3) (eq_false (Ne.symm e3))) (And.intro (eq_false e4) (eq_false (Ne.symm e4)))) (And.intro (And.intro (eq_false e5) (eq_false (Ne.symm e5))) (And.intro (eq_false hw1) (eq_false hw2))))
    have hD := hEE
    have zi : 0 + i * 1 = i := by omega
    have zi3 : 0 + i * 3 = i * 3 := by omega
    repeat' first | (with_reducible refine And.intro (by omega) ?_) | (refine SW.seq_k fun K hK => ?_) | (refine SW.block ?_) | ((first | refine SW.region ?_ | refine SW.regionZ (id := 5) (Checked.mixed Tryz.checked) ((.one 0 [0, 1, 5, 7] (.one 1 [1, 5, 7] (.one 2 [2, 3, 4, 5, 7] (.one 3 [3, 4, 5, 7] (.one 4 [4, 5, 7] (.one 5 [5, 7] (.alt 6 (.alt 7 .done .nil) .nil))))))) : OZ) (by kernel_rfl) ?_ | refine SW.cond ?_ | refine SW.skip ?_ | refine ⟨_, c76, ?_⟩ | (refine allF_i fun b hb => ?_; replace hD := And.intro hb hD; clear hb; try simp only [fresh_cons, fresh_nil, and_true, ne_eq, neF] at hD)); try simp only [go_sem, hD, hli, ie, i0, fi, zi, ict, iwt, hcl, hgi, true_implies]) | (apply hK; clear hK K)
    obtain ⟨tb, rfl⟩ : ∃ x, x = b := ⟨_, rfl⟩
    obtain ⟨b5, rfl⟩ : ∃ x, x = b := ⟨_, rfl⟩
    have key : ∃ C Q', (∀ S, Ab.SW Tryz.prog 81 C Q' S → K S) ∧ Ab.SW Tryz.prog 81 C Q' ⟨[(0, .op wb 0), (2, .op ob 0), (3, .op sb 0), (4, I64 i), (6, .op tb 0), (15, TL db), (16, I64 db.length), (17, I64 i)], (tb, .svs [Str tn, SL ta, SN]) :: (sb, .svs [x]) :: (ob, .svs [SN]) :: (wb, .svs [TL db, .os rb 0 ws.length 1, I64 z]) :: (rb, .svs (cs.set i (.fl (srtL L0).length 1 (gL (srtL L0))))) :: (G ++ T)⟩ := by
      refine ⟨_, _, hK, SW.nd fun hnd3 => ?_⟩
      clear hK K hD
      have hTR := fresh_of_nodup hnd3
      have hD := And.intro hTR hEE
      simp only [fresh_cons, ne_eq, neF] at hD
      have hgs : (cs.set i (.fl (srtL L0).length 1 (gL (srtL L0)))).getD i .any = .fl (srtL L0).length 1 (gL (srtL L0)) := by simp [List.getD_eq_getElem?_getD, ict]
      have ics : i < (cs.set i (.fl (srtL L0).length 1 (gL (srtL L0)))).length := by rw [List.length_set]; exact ict
      have hcsl : (cs.set i (.fl (srtL L0).length 1 (gL (srtL L0)))).length = ws.length := by rw [List.length_set]; exact hcl
      have hcs3 := hcs2 (.fl (srtL L0).length 1 (gL (srtL L0)))
      have hLl := srt_len L0
      have hLr : ∀ r ∈ srtL L0, r.length ≤ 1000 := fun r hr => hwi.2.2 r ((srt_perm L0).mem_iff.1 hr)
      have hL1 := hwi.1
      have hFi2 : F (i + 1) = F i ++ [⟨tn, ta, rowsP (srtL L0) (srtL L0).length⟩] := hFi
      clear hcs2 hwi hFi c76
      generalize srtL L0 = L at *
      generalize cs.set i (.fl L.length 1 (gL L)) = cs' at *
      have hLn : L.length ≤ 1000 := by omega
      obtain ⟨R, hR⟩ : ∃ R : Heap, R = (sb, .svs [x]) :: (ob, .svs [SN]) :: (wb, .svs [TL db, .os rb 0 ws.length 1, I64 z]) :: (rb, .svs cs') :: (G ++ T) := ⟨_, rfl⟩
      repeat' first | (with_reducible refine And.intro (by omega) ?_) | (refine SW.seq_k fun K hK => ?_) | (refine SW.block ?_) | (refine SW.region ?_; try simp only [go_sem, hD, ie, i0, zi, ics, iwt, hcsl, hgs, true_implies]) | (apply hK; clear hK K)
      rw [← hR]
      rw [← hR] at hTR
      clear hD
      have hIO := hI
      have ow1 := w1
      have oie := ie
      have oi0 := i0
      clear hI
      obtain ⟨I, hI⟩ : ∃ I : Nat → St → Prop, ∀ k S, I k S ↔ (∃ (kk : Nat) (h : Heap), k = L.length - kk ∧ kk ≤ L.length ∧ ((kk = 0 ∧ h = (tb, .svs [Str tn, SL ta, SN]) :: R) ∨ (0 < kk ∧ ∃ g2, ¬ g2 = tb ∧ ¬ tb = g2 ∧ fresh R g2 ∧ h = (g2, .svs (fC rC (rowsP L kk))) :: (tb, .svs [Str tn, SL ta, .os g2 0 kk 2]) :: R)) ∧ S = ⟨[(0, .op wb 0), (2, .op ob 0), (3, .op sb 0), (15, TL db), (16, I64 db.length), (17, I64 i), (6, .op tb 0), (42, .fl L.length 1 (gL L)), (43, I64 L.length), (44, I64 kk)], h⟩) := ⟨fun k S => _, fun _ _ => Iff.rfl⟩
      refine SW.loop' I (L.length) ((hI _ _).2 ⟨0, _, rfl, Nat.zero_le _, .inl ⟨rfl, rfl⟩, rfl⟩) (by repeat' (first | exact rfl | exact trivial | constructor)) ?_
      intro k S hIn
      obtain ⟨kk, h, rfl, hi, hB, rfl⟩ := (hI _ _).1 hIn
      clear hIn
      have ie : ((kk : Nat) : Int).toNat = kk := Int.toNat_natCast _
      have i0 : (0 : Int) ≤ ((kk : Nat) : Int) := by omega
      by_cases hlk : kk < L.length
      · have hli : ((kk : Nat) : Int) < (((L.length) : Nat) : Int) := by omega
        have w1 : IntKind.i64.wrap ((kk : Int) + 1) = ((kk + 1 : Nat) : Int) := by rw [i64_wrap (by omega) (by omega)]; omega
        have fk : gL L kk = [IL (L.getD kk [])] := rfl
        have hrr := hLr _ (getD_mem' [] hlk)
        have hsn := rowsP_succ L kk
        have hrl := rowsP_len L kk
        have bk : (kk + 1) * 32 ≤ 140737488355328 := by omega
        have hrw : rowW kk (L.getD kk []) = (((kk + 1 : Nat) : Int), (L.getD kk []).map nvW) := by unfold rowW; congr 1
        generalize L.getD kk [] = r at *
        generalize hP : rowsP L kk = Pk at *
        rcases hB with ⟨hk0, rfl⟩ | ⟨hk0, g2, u1, u2, u3, rfl⟩
        · have hD := And.intro hTR trivial
          repeat' first | (refine SW.seq_k fun K hK => ?_) | (refine SW.block ?_) | ((first | refine SW.region ?_ | refine SW.cond ?_ | refine SW.skip ?_ | (refine allF_i fun b hb => ?_; replace hD := And.intro hb hD; clear hb; try simp only [fresh_cons, fresh_nil, and_true, ne_eq, neF] at hD)); try simp only [go_sem, hD, hli, ie, i0, w1, fk, true_implies]) | (apply hK; clear hK K)
          obtain ⟨vb, rfl⟩ : ∃ x, x = b := ⟨_, rfl⟩
          have hDo := hD
          obtain ⟨X, hX⟩ : ∃ X : Heap, X = (tb, .svs [Str tn, SL ta, SN]) :: R := ⟨_, rfl⟩
          rw [← hX]
          have v0f : fresh X vb := by rw [hX]; simp [fresh_cons, hD]
          clear hD
          obtain ⟨J, hJ⟩ : ∃ J : Nat → St → Prop, ∀ q S, J q S ↔ (∃ (m : Nat) (h : Heap), q = r.length - m ∧ m ≤ r.length ∧ ((m = 0 ∧ h = (vb, .svs [I64 (kk + 1 : Nat), SN]) :: X) ∨ (0 < m ∧ ∃ g3, ¬ g3 = vb ∧ ¬ vb = g3 ∧ fresh X g3 ∧ h = (g3, .svs (vCs (valP r m))) :: (vb, .svs [I64 (kk + 1 : Nat), .os g3 0 m 3]) :: X)) ∧ S = ⟨[(0, .op wb 0), (2, .op ob 0), (3, .op sb 0), (15, TL db), (16, I64 db.length), (17, I64 i), (6, .op tb 0), (42, .fl L.length 1 (gL L)), (43, I64 L.length), (44, I64 kk), (9, .op vb 0), (52, IL r), (53, I64 r.length), (54, I64 m)], h⟩) := ⟨fun q S => _, fun _ _ => Iff.rfl⟩
          refine SW.loop' J r.length ((hJ _ _).2 ⟨0, _, rfl, Nat.zero_le _, .inl ⟨rfl, rfl⟩, rfl⟩) (by repeat' (first | exact rfl | exact trivial | constructor)) ?_
          intro q S hIn
          obtain ⟨m, h, rfl, hm, hV, rfl⟩ := (hJ _ _).1 hIn
          clear hIn
          have me : ((m : Nat) : Int).toNat = m := Int.toNat_natCast _
          have m0 : (0 : Int) ≤ ((m : Nat) : Int) := by omega
          by_cases hmn : m < r.length
          · have hmi : ((m : Nat) : Int) < ((r.length : Nat) : Int) := by omega
            have wm : IntKind.i64.wrap ((m : Int) + 1) = ((m + 1 : Nat) : Int) := by rw [i64_wrap (by omega) (by omega)]; omega
            have hvp := valP_succ hmn
            have hvl := valP_len (show m ≤ r.length by omega)
            have fm : iF r m = [I64 (r.getD m 0)] := rfl
            have bm : (m + 1) * 32 ≤ 140737488355328 := by omega
            have hn1 : vC (nvW (r.getD m 0)) = [I64 1, I64 (r.getD m 0), Str ⟨#[]⟩] := rfl
            generalize r.getD m 0 = x9 at *
            rcases hV with ⟨hm0, rfl⟩ | ⟨hm0, g3, f1, f2, f3, rfl⟩
            · subst hm0
              have hD := And.intro v0f trivial
              have hv0 : vCs (valP r (0 + 1)) = [I64 1, I64 x9, Str ⟨#[]⟩] := by rw [hvp]; rfl
              repeat' first | (with_reducible refine And.intro (by omega) ?_) | (refine SW.seq_k fun K hK => ?_) | (refine SW.block ?_) | ((first | refine SW.region ?_ | refine SW.cond ?_ | refine SW.skip ?_ | (refine allF_i fun b hb => ?_; replace hD := And.intro hb hD; clear hb; try simp only [fresh_cons, fresh_nil, and_true, ne_eq, neF] at hD) | simp only [appK, appOsK]); try simp only [go_sem, hD, hmi, me, m0, wm, fm, bm, true_implies]) | (refine And.intro (by omega) ?_) | (refine ifI (fun hc => ?_) (fun hc => ?_) <;> first | (exfalso; omega) | skip) | (apply hK; clear hK K)
              obtain ⟨nb, rfl⟩ : ∃ x, x = b := ⟨_, rfl⟩
              refine Rnd.le (St.le_slist (List.Sublist.cons_cons _ (List.Sublist.cons _ (List.Sublist.refl _)))) ?_
              refine Rnd.sub (r.length - (0 + 1)) (by omega) ((hJ _ _).2 ⟨0 + 1, _, rfl, by omega, .inr ⟨by omega, nb, by simp [hD], by simp [hD], by simp [hD], by rw [hv0]⟩, rfl⟩) (by repeat' (first | exact rfl | exact trivial | constructor))
            · have hD := And.intro (And.intro (eq_false f1) (eq_false f2)) (And.intro f3 v0f)
              have hvc : (vCs (valP r m)).length = m * 3 := by rw [← vCs_len, hvl]
              have hvn : vCs (valP r (m + 1)) = vCs (valP r m) ++ [I64 1, I64 x9, Str ⟨#[]⟩] := by rw [hvp, ← vCs_snoc]; rfl
              repeat' first | (with_reducible refine And.intro (by omega) ?_) | (refine SW.seq_k fun K hK => ?_) | (refine SW.block ?_) | ((first | refine SW.region ?_ | refine SW.cond ?_ | refine SW.skip ?_ | (refine allF_i fun b hb => ?_; replace hD := And.intro hb hD; clear hb; try simp only [fresh_cons, fresh_nil, and_true, ne_eq, neF] at hD) | simp only [appK, appOsK]); try simp only [go_sem, hD, hmi, me, m0, wm, fm, bm, hvc, true_implies]) | (apply hK; clear hK K)
              obtain ⟨nb, rfl⟩ : ∃ x, x = b := ⟨_, rfl⟩
              refine Rnd.le (St.le_slist (List.Sublist.cons _ (List.Sublist.refl _))) ?_
              refine Rnd.sub (r.length - (m + 1)) (by omega) ((hJ _ _).2 ⟨m + 1, _, rfl, by omega, .inr ⟨by omega, nb, by simp [hD], by simp [hD], by simp [hD], by rw [hvn]⟩, rfl⟩) (by repeat' (first | exact rfl | exact trivial | constructor))
          have hmi : ¬ ((m : Nat) : Int) < ((r.length : Nat) : Int) := by omega
          obtain rfl : m = r.length := by omega
          have hVl := valP_len (Nat.le_refl r.length)
          have hVa := valP_all r
          generalize valP r r.length = V at *
          apply Ab.SW.le (S' := ⟨[(0, .op wb 0), (2, .op ob 0), (3, .op sb 0), (15, TL db), (16, I64 db.length), (17, I64 i), (6, .op tb 0), (42, .fl L.length 1 (gL L)), (43, I64 L.length), (44, I64 kk), (9, .op vb 0), (52, IL r), (53, I64 r.length), (54, I64 r.length)], (vb, .svs [I64 (kk + 1 : Nat), VL V]) :: X⟩)
          · rcases hV with ⟨hm0, rfl⟩ | ⟨hm0, g3, f1, f2, f3, rfl⟩
            · have hVn : V = [] := List.eq_nil_of_length_eq_zero (by omega)
              subst hVn
              have := St.le_nilC (t := [(0, .op wb 0), (2, .op ob 0), (3, .op sb 0), (15, TL db), (16, I64 db.length), (17, I64 i), (6, .op tb 0), (42, .fl L.length 1 (gL L)), (43, I64 L.length), (44, I64 kk), (9, .op vb 0), (52, IL r), (53, I64 r.length), (54, I64 r.length)]) (h := (vb, .svs [I64 (kk + 1 : Nat), SN]) :: X) (c := vb) (j := 1) (sz := 3) (f := vF []) (by rw [find_cons, if_pos rfl]) (by show 1 < 2; omega) rfl
              rw [upd_cons, if_pos rfl] at this
              exact this
            · have := St.le_accC (t := [(0, .op wb 0), (2, .op ob 0), (3, .op sb 0), (15, TL db), (16, I64 db.length), (17, I64 i), (6, .op tb 0), (42, .fl L.length 1 (gL L)), (43, I64 L.length), (44, I64 kk), (9, .op vb 0), (52, IL r), (53, I64 r.length), (54, I64 r.length)]) (sz := 3) (n := r.length) (c := vb) (j := 1) (Acc.osH (b := g3) (cs := vCs V) (h0 := (vb, .svs [I64 (kk + 1 : Nat), .os g3 0 r.length 3]) :: X) (by simp only [fresh_cons, ne_eq]; exact ⟨⟨f2, f1⟩, f3⟩) (by rw [← vCs_len, hVl])) (by rw [find_cons, if_pos rfl]) (by show 1 < 2; omega) rfl (vF V) (fun j hj => vCs_at V j (by omega))
              rw [upd_cons, if_pos rfl] at this
              unfold VL
              rw [hVl]
              exact this
          subst hVa
          subst hX
          subst hk0
          have hP0 : Pk = [] := List.eq_nil_of_length_eq_zero hrl
          subst hP0
          have hD := hDo
          have hr1 : fC rC (rowsP L (0 + 1)) = [I64 (0 + 1 : Nat), VL (r.map nvW)] := by rw [hsn, hrw]; rfl
          repeat' first | (with_reducible refine And.intro (by omega) ?_) | (refine SW.seq_k fun K hK => ?_) | ((first | refine SW.region ?_ | refine SW.cond ?_ | refine SW.exit ?_ | (refine allF_i fun b hb => ?_; replace hD := And.intro hb hD; clear hb; try simp only [fresh_cons, fresh_nil, and_true, ne_eq, neF] at hD) | simp only [appK, appOsK]); try simp only [go_sem, hD, hmi, ow1, w1, bk, true_implies]) | (refine And.intro (by omega) ?_) | (apply hK; clear hK K) | (clear hK K; apply hK; clear hK K)
          refine Rnd.le (St.le_slist (List.Sublist.cons_cons _ (List.Sublist.cons _ (List.Sublist.cons _ (List.Sublist.refl _))))) ?_
          refine Rnd.sub (L.length - (0 + 1)) (by omega) ((hI _ _).2 ⟨0 + 1, _, rfl, by omega, .inr ⟨by omega, b, by simp [hD], by simp [hD], by simp [hD], by rw [hr1]⟩, rfl⟩) (by repeat' (first | exact rfl | exact trivial | constructor))
        · have hD := And.intro (And.intro (eq_false u1) (eq_false u2)) (And.intro u3 hTR)
          repeat' first | (refine SW.seq_k fun K hK => ?_) | (refine SW.block ?_) | ((first | refine SW.region ?_ | refine SW.cond ?_ | refine SW.skip ?_ | (refine allF_i fun b hb => ?_; replace hD := And.intro hb hD; clear hb; try simp only [fresh_cons, fresh_nil, and_true, ne_eq, neF] at hD)); try simp only [go_sem, hD, hli, ie, i0, w1, fk, true_implies]) | (apply hK; clear hK K)
          obtain ⟨vb, rfl⟩ : ∃ x, x = b := ⟨_, rfl⟩
          have hDo := hD
          obtain ⟨X, hX⟩ : ∃ X : Heap, X = (g2, .svs (fC rC Pk)) :: (tb, .svs [Str tn, SL ta, .os g2 0 kk 2]) :: R := ⟨_, rfl⟩
          rw [← hX]
          have v0f : fresh X vb := by rw [hX]; simp [fresh_cons, hD]
          clear hD
          obtain ⟨J, hJ⟩ : ∃ J : Nat → St → Prop, ∀ q S, J q S ↔ (∃ (m : Nat) (h : Heap), q = r.length - m ∧ m ≤ r.length ∧ ((m = 0 ∧ h = (vb, .svs [I64 (kk + 1 : Nat), SN]) :: X) ∨ (0 < m ∧ ∃ g3, ¬ g3 = vb ∧ ¬ vb = g3 ∧ fresh X g3 ∧ h = (g3, .svs (vCs (valP r m))) :: (vb, .svs [I64 (kk + 1 : Nat), .os g3 0 m 3]) :: X)) ∧ S = ⟨[(0, .op wb 0), (2, .op ob 0), (3, .op sb 0), (15, TL db), (16, I64 db.length), (17, I64 i), (6, .op tb 0), (42, .fl L.length 1 (gL L)), (43, I64 L.length), (44, I64 kk), (9, .op vb 0), (52, IL r), (53, I64 r.length), (54, I64 m)], h⟩) := ⟨fun q S => _, fun _ _ => Iff.rfl⟩
          refine SW.loop' J r.length ((hJ _ _).2 ⟨0, _, rfl, Nat.zero_le _, .inl ⟨rfl, rfl⟩, rfl⟩) (by repeat' (first | exact rfl | exact trivial | constructor)) ?_
          intro q S hIn
          obtain ⟨m, h, rfl, hm, hV, rfl⟩ := (hJ _ _).1 hIn
          clear hIn
          have me : ((m : Nat) : Int).toNat = m := Int.toNat_natCast _
          have m0 : (0 : Int) ≤ ((m : Nat) : Int) := by omega
          by_cases hmn : m < r.length
          · have hmi : ((m : Nat) : Int) < ((r.length : Nat) : Int) := by omega
            have wm : IntKind.i64.wrap ((m : Int) + 1) = ((m + 1 : Nat) : Int) := by rw [i64_wrap (by omega) (by omega)]; omega
            have hvp := valP_succ hmn
            have hvl := valP_len (show m ≤ r.length by omega)
            have fm : iF r m = [I64 (r.getD m 0)] := rfl
            have bm : (m + 1) * 32 ≤ 140737488355328 := by omega
            have hn1 : vC (nvW (r.getD m 0)) = [I64 1, I64 (r.getD m 0), Str ⟨#[]⟩] := rfl
            generalize r.getD m 0 = x9 at *
            rcases hV with ⟨hm0, rfl⟩ | ⟨hm0, g3, f1, f2, f3, rfl⟩
            · subst hm0
              have hD := And.intro v0f trivial
              have hv0 : vCs (valP r (0 + 1)) = [I64 1, I64 x9, Str ⟨#[]⟩] := by rw [hvp]; rfl
              repeat' first | (with_reducible refine And.intro (by omega) ?_) | (refine SW.seq_k fun K hK => ?_) | (refine SW.block ?_) | ((first | refine SW.region ?_ | refine SW.cond ?_ | refine SW.skip ?_ | (refine allF_i fun b hb => ?_; replace hD := And.intro hb hD; clear hb; try simp only [fresh_cons, fresh_nil, and_true, ne_eq, neF] at hD) | simp only [appK, appOsK]); try simp only [go_sem, hD, hmi, me, m0, wm, fm, bm, true_implies]) | (refine And.intro (by omega) ?_) | (refine ifI (fun hc => ?_) (fun hc => ?_) <;> first | (exfalso; omega) | skip) | (apply hK; clear hK K)
              obtain ⟨nb, rfl⟩ : ∃ x, x = b := ⟨_, rfl⟩
              refine Rnd.le (St.le_slist (List.Sublist.cons_cons _ (List.Sublist.cons _ (List.Sublist.refl _)))) ?_
              refine Rnd.sub (r.length - (0 + 1)) (by omega) ((hJ _ _).2 ⟨0 + 1, _, rfl, by omega, .inr ⟨by omega, nb, by simp [hD], by simp [hD], by simp [hD], by rw [hv0]⟩, rfl⟩) (by repeat' (first | exact rfl | exact trivial | constructor))
            · have hD := And.intro (And.intro (eq_false f1) (eq_false f2)) (And.intro f3 v0f)
              have hvc : (vCs (valP r m)).length = m * 3 := by rw [← vCs_len, hvl]
              have hvn : vCs (valP r (m + 1)) = vCs (valP r m) ++ [I64 1, I64 x9, Str ⟨#[]⟩] := by rw [hvp, ← vCs_snoc]; rfl
              repeat' first | (with_reducible refine And.intro (by omega) ?_) | (refine SW.seq_k fun K hK => ?_) | (refine SW.block ?_) | ((first | refine SW.region ?_ | refine SW.cond ?_ | refine SW.skip ?_ | (refine allF_i fun b hb => ?_; replace hD := And.intro hb hD; clear hb; try simp only [fresh_cons, fresh_nil, and_true, ne_eq, neF] at hD) | simp only [appK, appOsK]); try simp only [go_sem, hD, hmi, me, m0, wm, fm, bm, hvc, true_implies]) | (apply hK; clear hK K)
              obtain ⟨nb, rfl⟩ : ∃ x, x = b := ⟨_, rfl⟩
              refine Rnd.le (St.le_slist (List.Sublist.cons _ (List.Sublist.refl _))) ?_
              refine Rnd.sub (r.length - (m + 1)) (by omega) ((hJ _ _).2 ⟨m + 1, _, rfl, by omega, .inr ⟨by omega, nb, by simp [hD], by simp [hD], by simp [hD], by rw [hvn]⟩, rfl⟩) (by repeat' (first | exact rfl | exact trivial | constructor))
          have hmi : ¬ ((m : Nat) : Int) < ((r.length : Nat) : Int) := by omega
          obtain rfl : m = r.length := by omega
          have hVl := valP_len (Nat.le_refl r.length)
          have hVa := valP_all r
          generalize valP r r.length = V at *
          apply Ab.SW.le (S' := ⟨[(0, .op wb 0), (2, .op ob 0), (3, .op sb 0), (15, TL db), (16, I64 db.length), (17, I64 i), (6, .op tb 0), (42, .fl L.length 1 (gL L)), (43, I64 L.length), (44, I64 kk), (9, .op vb 0), (52, IL r), (53, I64 r.length), (54, I64 r.length)], (vb, .svs [I64 (kk + 1 : Nat), VL V]) :: X⟩)
          · rcases hV with ⟨hm0, rfl⟩ | ⟨hm0, g3, f1, f2, f3, rfl⟩
            · have hVn : V = [] := List.eq_nil_of_length_eq_zero (by omega)
              subst hVn
              have := St.le_nilC (t := [(0, .op wb 0), (2, .op ob 0), (3, .op sb 0), (15, TL db), (16, I64 db.length), (17, I64 i), (6, .op tb 0), (42, .fl L.length 1 (gL L)), (43, I64 L.length), (44, I64 kk), (9, .op vb 0), (52, IL r), (53, I64 r.length), (54, I64 r.length)]) (h := (vb, .svs [I64 (kk + 1 : Nat), SN]) :: X) (c := vb) (j := 1) (sz := 3) (f := vF []) (by rw [find_cons, if_pos rfl]) (by show 1 < 2; omega) rfl
              rw [upd_cons, if_pos rfl] at this
              exact this
            · have := St.le_accC (t := [(0, .op wb 0), (2, .op ob 0), (3, .op sb 0), (15, TL db), (16, I64 db.length), (17, I64 i), (6, .op tb 0), (42, .fl L.length 1 (gL L)), (43, I64 L.length), (44, I64 kk), (9, .op vb 0), (52, IL r), (53, I64 r.length), (54, I64 r.length)]) (sz := 3) (n := r.length) (c := vb) (j := 1) (Acc.osH (b := g3) (cs := vCs V) (h0 := (vb, .svs [I64 (kk + 1 : Nat), .os g3 0 r.length 3]) :: X) (by simp only [fresh_cons, ne_eq]; exact ⟨⟨f2, f1⟩, f3⟩) (by rw [← vCs_len, hVl])) (by rw [find_cons, if_pos rfl]) (by show 1 < 2; omega) rfl (vF V) (fun j hj => vCs_at V j (by omega))
              rw [upd_cons, if_pos rfl] at this
              unfold VL
              rw [hVl]
              exact this
          subst hVa
          subst hX
          have hD := hDo
          have hfc : (fC rC Pk).length = kk * 2 := by rw [← fC_len (k := 2) (fun _ => rfl), hrl]
          have hr1 : fC rC (rowsP L (kk + 1)) = fC rC Pk ++ [I64 (kk + 1 : Nat), VL (r.map nvW)] := by rw [hsn, ← fC_snoc, hrw]; rfl
          repeat' first | (with_reducible refine And.intro (by omega) ?_) | (refine SW.seq_k fun K hK => ?_) | ((first | refine SW.region ?_ | refine SW.cond ?_ | refine SW.exit ?_ | (refine allF_i fun b hb => ?_; replace hD := And.intro hb hD; clear hb; try simp only [fresh_cons, fresh_nil, and_true, ne_eq, neF] at hD) | simp only [appK, appOsK]); try simp only [go_sem, hD, hmi, ow1, w1, bk, hfc, true_implies]) | (apply hK; clear hK K) | (clear hK K; apply hK; clear hK K)
          refine Rnd.le (St.le_slist (List.Sublist.cons _ (List.Sublist.cons _ (List.Sublist.refl _)))) ?_
          refine Rnd.sub (L.length - (kk + 1)) (by omega) ((hI _ _).2 ⟨kk + 1, _, rfl, by omega, .inr ⟨by omega, b, by simp [hD], by simp [hD], by simp [hD], by rw [hr1]⟩, rfl⟩) (by repeat' (first | exact rfl | exact trivial | constructor))
      · have hli : ¬ ((kk : Nat) : Int) < (((L.length) : Nat) : Int) := by omega
        obtain rfl : kk = L.length := by omega
        have hPl := rowsP_len L L.length
        generalize rowsP L L.length = P at *
        apply Ab.SW.le (S' := ⟨[(0, .op wb 0), (2, .op ob 0), (3, .op sb 0), (15, TL db), (16, I64 db.length), (17, I64 i), (6, .op tb 0), (42, .fl L.length 1 (gL L)), (43, I64 L.length), (44, I64 L.length)], (tb, .svs [Str tn, SL ta, RL P]) :: R⟩)
        · rcases hB with ⟨hk0, rfl⟩ | ⟨hk0, g2, u1, u2, u3, rfl⟩
          · have hPn : P = [] := List.eq_nil_of_length_eq_zero (by omega)
            subst hPn
            have := St.le_nilC (t := [(0, .op wb 0), (2, .op ob 0), (3, .op sb 0), (15, TL db), (16, I64 db.length), (17, I64 i), (6, .op tb 0), (42, .fl L.length 1 (gL L)), (43, I64 L.length), (44, I64 L.length)]) (h := (tb, .svs [Str tn, SL ta, SN]) :: R) (c := tb) (j := 2) (sz := 2) (f := rF []) (by rw [find_cons, if_pos rfl]) (by show 2 < 3; omega) rfl
            rw [upd_cons, if_pos rfl] at this
            exact this
          · have := St.le_accC (t := [(0, .op wb 0), (2, .op ob 0), (3, .op sb 0), (15, TL db), (16, I64 db.length), (17, I64 i), (6, .op tb 0), (42, .fl L.length 1 (gL L)), (43, I64 L.length), (44, I64 L.length)]) (sz := 2) (n := L.length) (c := tb) (j := 2) (Acc.osH (b := g2) (cs := fC rC P) (h0 := (tb, .svs [Str tn, SL ta, .os g2 0 L.length 2]) :: R) (by simp only [fresh_cons, ne_eq]; exact ⟨⟨u2, u1⟩, u3⟩) (by rw [← fC_len (k := 2) (fun _ => rfl), hPl])) (by rw [find_cons, if_pos rfl]) (by show 2 < 3; omega) rfl (rF P) (fun j hj => fC_at (enc := rC) (k := 2) (fun _ => rfl) r0 P j (by omega))
            rw [upd_cons, if_pos rfl] at this
            unfold RL
            rw [hPl]
            exact this
        · subst hR
          clear hB hI
          have hFn : fC tC (F (i + 1)) = fC tC (F i) ++ [Str tn, SL ta, RL P] := by rw [hFi2, ← fC_snoc]
          have hFi3 := hFl i
          have hfc : (fC tC (F i)).length = i * 3 := by rw [← fC_len (k := 3) (fun _ => rfl), hFi3]
          have bi : (i + 1) * 64 ≤ 140737488355328 := by omega
          rcases hG with ⟨hi0, rfl, rfl⟩ | ⟨hi0, g, rfl, rfl⟩
          · subst hi0
            have hD := And.intro hTR hEE
            simp only [fresh_cons, ne_eq, neF, List.nil_append] at hD
            repeat' first | (with_reducible refine And.intro (by omega) ?_) | (refine SW.seq_k fun K hK => ?_) | ((first | refine SW.region ?_ | refine SW.cond ?_ | refine SW.exit ?_ | (refine allF_i fun b hb => ?_; replace hD := And.intro hb hD; clear hb; try simp only [fresh_cons, fresh_nil, and_true, ne_eq, neF] at hD) | simp only [appK, appOsK]); try simp only [go_sem, hD, hli, ow1, bi, true_implies]) | (refine And.intro (by omega) ?_) | (refine ifI (fun hc => ?_) (fun hc => ?_) <;> first | (exfalso; omega) | skip) | (apply hK; clear hK K) | (clear hK K; apply hK; clear hK K)
            have hF1 : fC tC (F (0 + 1)) = [Str tn, SL ta, RL P] := by rw [hFn, hF0]; rfl
            refine Rnd.le ((St.le_slist (List.Sublist.cons_cons _ (List.Sublist.cons _ (List.Sublist.cons _ (List.Sublist.refl _))))).trans (St.le_perm (h' := [(sb, .svs [.os b 0 1 3]), (ob, .svs [SN]), (wb, .svs [TL db, .os rb 0 ws.length 1, I64 z]), (rb, .svs cs')] ++ (b, .svs [Str tn, SL ta, RL P]) :: T) (List.perm_middle (l₁ := [(sb, Blk.svs [.os b 0 1 3]), (ob, Blk.svs [SN]), (wb, Blk.svs [TL db, .os rb 0 ws.length 1, I64 z]), (rb, Blk.svs cs')])))) ?_
            refine Rnd.sub (db.length - (0 + 1)) (by omega) ((hIO _ _).2 ⟨0 + 1, cs', .os b 0 (0 + 1) 3, [(b, .svs [Str tn, SL ta, RL P])], rfl, by omega, hcsl, hcs3, .inr ⟨by omega, b, rfl, by rw [hF1]⟩, by rw [hTL]; rfl⟩) (by repeat' (first | exact rfl | exact trivial | constructor))
          · simp only [List.map_cons, List.cons_append, List.nil_append, List.nodup_cons, List.mem_cons, not_or] at hnd3
            have g1 : ¬ sb = g := hnd3.2.1.2.2.2.1
            have g2 : ¬ ob = g := hnd3.2.2.1.2.2.1
            have g3 : ¬ wb = g := hnd3.2.2.2.1.2.1
            have g4 : ¬ rb = g := hnd3.2.2.2.2.1.1
            have hD := And.intro (And.intro (And.intro (And.intro (eq_false g1) (eq_false (Ne.symm g1))) (And.intro (eq_false g2) (eq_false (Ne.symm g2)))) (And.intro (And.intro (eq_false g3) (eq_false (Ne.symm g3))) (And.intro (eq_false g4) (eq_false (Ne.symm g4))))) (And.intro hTR hEE)
            simp only [fresh_cons, ne_eq, neF, List.cons_append, List.nil_append] at hD
            simp only [List.cons_append, List.nil_append]
            repeat' first | (with_reducible refine And.intro (by omega) ?_) | (refine SW.seq_k fun K hK => ?_) | ((first | refine SW.region ?_ | refine SW.cond ?_ | refine SW.exit ?_ | (refine allF_i fun b hb => ?_; replace hD := And.intro hb hD; clear hb; try simp only [fresh_cons, fresh_nil, and_true, ne_eq, neF] at hD) | simp only [appK, appOsK]); try simp only [go_sem, hD, hli, ow1, bi, hfc, true_implies]) | (apply hK; clear hK K) | (clear hK K; apply hK; clear hK K)
            refine Rnd.le (St.le_slist (List.Sublist.cons _ (List.Sublist.cons _ (List.Sublist.refl _)))) ?_
            refine Rnd.sub (db.length - (i + 1)) (by omega) ((hIO _ _).2 ⟨i + 1, cs', .os b 0 (i + 1) 3, [(b, .svs (fC tC (F i) ++ [Str tn, SL ta, RL P]))], rfl, by omega, hcsl, hcs3, .inr ⟨by omega, b, rfl, by rw [hFn]⟩, by rw [hTL]; rfl⟩) (by repeat' (first | exact rfl | exact trivial | constructor))
    obtain ⟨C, Q', hK2, key⟩ := key
    clear hK
    by_cases h0 : L0 = []
    · subst h0
      have hwn : wc (b0, ([] : List (List Int))) = SN := if_pos rfl
      have hwb : wb1 (b0, ([] : List (List Int))) = [] := if_pos rfl
      rw [hwn] at hgi
      rw [hwn, hwb]
      rw [show (srtL []).length = 0 by rw [srt_len]; rfl] at key
      refine Call.of_pure sort_nil ?_
      refine hK2 _ (SW.nd fun hnd2 => Ab.SW.le ?_ key)
      refine St.le.trans (St.le_nilC (c := rb) (j := i) (sz := 1) (f := gL (srtL [])) (cs := cs) (find_of_mem hnd2 (by simp)) ict hgi) ?_
      simp only [go_sem, hD]
      refine St.le.trans (S' := ⟨[(0, .op wb 0), (2, .op ob 0), (3, .op sb 0), (4, I64 i), (6, .op tb 0), (15, TL db), (16, I64 db.length), (17, I64 i)], _⟩) (St.le_sub (by repeat' (first | exact rfl | exact trivial | constructor))) (St.le_slist (List.Sublist.cons_cons _ (List.Sublist.cons _ (List.Sublist.refl _))))
    · have hwn : wc (b0, L0) = .os b0 0 L0.length 1 := if_neg h0
      have hwb : wb1 (b0, L0) = [(b0, .svs (gC L0))] := if_neg h0
      rw [hwn] at hgi
      rw [hwn, hwb]
      have csr := sort_rows b0 L0 h0 hwi.2.1 (by omega) (fun r hr => by have := hwi.2.2 r hr; omega)
      have hp : ((b0, Blk.svs (gC L0)) :: ([(tb, .svs [Str tn, SL ta, SN]), (b5, .svs [Str tn, SL ta, RL tr]), (sb, .svs [x]), (ob, .svs [SN]), (wb, .svs [TL db, .os rb 0 ws.length 1, I64 z]), (rb, .svs cs)] ++ G ++ T)).Perm ([(tb, .svs [Str tn, SL ta, SN]), (b5, .svs [Str tn, SL ta, RL tr]), (sb, .svs [x]), (ob, .svs [SN]), (wb, .svs [TL db, .os rb 0 ws.length 1, I64 z]), (rb, .svs cs)] ++ G ++ (b0, Blk.svs (gC L0)) :: T) := List.perm_middle.symm
      refine Call.permN (Call.mono (Call.frameN (h2 := [(tb, .svs [Str tn, SL ta, SN]), (b5, .svs [Str tn, SL ta, RL tr]), (sb, .svs [x]), (ob, .svs [SN]), (wb, .svs [TL db, .os rb 0 ws.length 1, I64 z]), (rb, .svs cs)] ++ G ++ T) csr) fun r h' hx => ?_) hp
      obtain ⟨h1, rfl, ⟨rfl, rfl⟩, hnd2⟩ := hx
      have hLl := srt_len L0
      have hrb : ¬ rb = b0 := fun e => by
        have := (List.nodup_cons.1 hnd2).1
        exact this (by rw [← e]; simp)
      refine hK2 _ (Ab.SW.le ?_ key)
      refine St.le.trans (St.le_freezeC (c := rb) (j := i) (b := b0) (off := 0) (len := L0.length) (sz := 1) (k := .svs (gC (srtL L0))) (cs := cs) (find_of_mem hnd2 (by simp)) hrb ict hgi (find_of_mem hnd2 (by exact List.mem_append_left _ (List.mem_singleton.2 rfl))) (by rw [Blk.len_svs, gC_len, hLl]; omega) (gL (srtL L0)) (fun p hp => by
        rw [getN_take _ _ _ (by rw [Blk.len_svs, gC_len, hLl]; omega), Nat.zero_add, Nat.mul_one]
        exact gC_at (by rw [hLl]; exact hp))) ?_
      rw [← hLl]
      simp only [List.cons_append, List.nil_append, del_head]
      simp only [go_sem, hD]
      refine St.le.trans (S' := ⟨[(0, .op wb 0), (2, .op ob 0), (3, .op sb 0), (4, I64 i), (6, .op tb 0), (15, TL db), (16, I64 db.length), (17, I64 i)], _⟩) (St.le_sub (by repeat' (first | exact rfl | exact trivial | constructor))) (St.le_slist (List.Sublist.cons_cons _ (List.Sublist.cons _ (List.Sublist.refl _))))
  · have hli : ¬ ((i : Nat) : Int) < (((db.length) : Nat) : Int) := by omega
    obtain rfl : i = db.length := by omega
    have hFn := hFl db.length
    clear hFs hFl hF0 hcs
    generalize F db.length = P at *
    refine Ab.SW.le (S' := ⟨[(2, .op ob 0), (3, .op sb 0), (15, TL db), (16, I64 db.length), (17, I64 db.length)], [(sb, .svs [TL P]), (ob, .svs [SN])]⟩) (St.le.trans (S' := ⟨[(2, .op ob 0), (3, .op sb 0), (15, TL db), (16, I64 db.length), (17, I64 db.length)], _⟩) (St.le_sub (by repeat' (first | exact rfl | exact trivial | constructor))) ?_) ?_
    · rcases hG with ⟨hi0, rfl, rfl⟩ | ⟨hi0, g, rfl, rfl⟩
      · have hPn : P = [] := List.eq_nil_of_length_eq_zero (by omega)
        subst hPn
        refine St.le.trans (St.le_slist (h' := [(sb, .svs [SN]), (ob, .svs [SN])]) (List.Sublist.cons_cons _ (List.Sublist.cons_cons _ (List.nil_sublist _)))) ?_
        have := St.le_nilC (t := [(2, .op ob 0), (3, .op sb 0), (15, TL db), (16, I64 db.length), (17, I64 db.length)]) (h := [(sb, .svs [SN]), (ob, .svs [SN])]) (c := sb) (j := 0) (sz := 3) (f := tF []) (by rw [find_cons, if_pos rfl]) (by show 0 < 1; omega) rfl
        rw [upd_cons, if_pos rfl] at this
        exact this
      · simp only [List.map_cons, List.cons_append, List.nil_append, List.nodup_cons, List.mem_cons, not_or] at hnd
        have g1 : ¬ sb = g := hnd.1.2.2.2.1
        have g2 : ¬ ob = g := hnd.2.1.2.2.1
        refine St.le.trans (St.le_slist (h' := [(sb, .svs [.os g 0 db.length 3]), (ob, .svs [SN]), (g, .svs (fC tC P))]) (List.Sublist.cons_cons _ (List.Sublist.cons_cons _ (List.Sublist.cons _ (List.Sublist.cons _ (List.Sublist.cons_cons _ (List.nil_sublist _))))))) ?_
        have s1 := St.le_freezeC (t := [(2, .op ob 0), (3, .op sb 0), (15, TL db), (16, I64 db.length), (17, I64 db.length)]) (h := [(sb, .svs [.os g 0 db.length 3]), (ob, .svs [SN]), (g, .svs (fC tC P))]) (c := sb) (j := 0) (b := g) (off := 0) (len := db.length) (sz := 3) (by rw [find_cons, if_pos rfl]) g1 (by show 0 < 1; omega) rfl (by rw [find_cons, if_neg g1, find_cons, if_neg g2, find_cons, if_pos rfl]) (by show 0 + db.length * 3 ≤ (fC tC P).length; rw [← fC_len (enc := tC) (k := 3) (fun _ => rfl)]; omega) (tF P) (fun j hj => by
          rw [getN_take _ _ _ (by show 0 + j * 3 + 3 ≤ (fC tC P).length; have := fC_lt (enc := tC) (k := 3) (fun _ => rfl) (show j < P.length by omega) (show 2 < 3 by omega); omega), Nat.zero_add]
          exact fC_at (enc := tC) (k := 3) (fun _ => rfl) t0 P j (by omega))
        rw [del_cons, if_neg g1, del_cons, if_neg g2, del_cons, if_pos rfl, upd_cons, if_pos rfl] at s1
        rw [show TL P = .fl db.length 3 (tF P) by unfold TL; rw [hFn]]
        exact s1
    · simp only [List.map_cons, List.nodup_cons, List.mem_cons, not_or] at hnd
      have e1 : ¬ sb = ob := hnd.1.1
      have hD := And.intro (eq_false e1) (eq_false (Ne.symm e1))
      repeat' first | (refine SW.seq_k fun K hK => ?_) | ((first | refine SW.region ?_ | refine SW.cond ?_ | refine SW.exit ?_ | refine SW.ret ?_); try simp only [go_sem, hD, hli, true_implies]) | (apply hK; clear hK K) | (clear hK K; apply hK; clear hK K)
      refine retQ_le (S' := ⟨[(2, .fp [TL P])], []⟩) ?_ ?_
      · refine St.le.trans (St.le_freezeP (i := 2) (b := ob) (off := 0) (n := 1) (k := .svs [TL P]) rfl (by simp [find_cons, hD]) (by exact Nat.le_refl 1)) ?_
        simp only [getN, Blk.get, go_sem, hD]
        exact St.le.trans St.le_drop (St.le_sub (by repeat' (first | exact rfl | exact trivial | constructor)))
      · simp only [resL_tmp, resL_cellE, resC_ok, resL_nil, tupOf, getN, go_sem, hD]
        try exact ⟨rfl, rfl⟩
end Go.Proofs.YtblfodnajpamfaaGreatDoor
namespace Go.Proofs.YtblfodnajpamfaaGreatDoor
open Go Go.Ab Go.Ab.A34 Go.Ab.A15
variable [Gl] [Tabs]
theorem Cl.le16 {db : List Tb} {l : List Dp} {g : Dp} (V : Vdb db) {s : Nat} {r : List Int} (h : Cl (nmsOf db) (nsOf db) l g s r) : r.length ≤ 16 := by
  rw [h.len]
  exact V.ns s
theorem ns_at (db : List Tb) (i : Nat) : (nsOf db).getD i 0 = (db.getD i t0).attrs.length := by
  unfold nsOf
  simp only [List.getD_eq_getElem?_getD, List.getElem?_map]
  cases db[i]? <;> rfl
theorem grow_c (wb rb : Nat) (db : List Tb) (l : List Dp) (g : Dp) (V : Vall db l g) (h4 : db.length ≤ 4) (z : Int) (ws : List Wt) (hI : WI (Cl (nmsOf db) (nsOf db) l g) ws z) (hN : ws.length = db.length) (hz : z ≤ 401) (d : Dp) (hd : d ∈ l) :
    Ab.Call Tryz.prog 49 [.op wb 0, DV d] (WH wb rb (TL db) z ws) (fun r h' => ∃ ws' z' g', r = SB g' ∧ h'.Perm (WH wb rb (TL db) z' ws') ∧ WI (Cl (nmsOf db) (nsOf db) l g) ws' z' ∧ ws'.length = db.length ∧ Beg ws ws' ∧
      (g' = false → z' = z ∧ ws' = ws ∧ (z ≤ 400 → Clo (nmsOf db) (nsOf db) (fun t => (ws.getD t w0).2) d)) ∧ (g' = true → z < z') ∧ z' ≤ 401) := by
  have F := V.l d hd
  have l1 := idxN_lt F.f
  have l2 := idxN_lt F.t
  have nl : (nmsOf db).length = db.length := by unfold nmsOf; rw [List.length_map]
  rw [nl] at l1 l2
  have e1 := tabI_idx (i := 0) F.f
  have e2 := tabI_idx (i := 0) F.t
  rw [Nat.zero_add] at e1 e2
  have b16 := in16_len F.nr (F.in16r V.vd)
  have t16 := V.vd.ns (idxN d.t (nmsOf db))
  have hr := F.r
  have hl := F.l
  rw [ns_at] at t16 hr
  have c := grow_w wb rb db z ws d (idxN d.f (nmsOf db)) (idxN d.t (nmsOf db)) (Cl (nmsOf db) (nsOf db) l g) hI hN.symm (by omega) (by omega) (by omega) (by omega) e1 e2 F.lr (by omega) F.nr (by omega) hr (fun r hc a ha => by rw [hc.len]; exact hl a ha) (fun s r hc => by have := Cl.le16 V.vd hc; omega) (fun r hc => by rw [← ns_at]; exact Cl.step d r hd hc)
  refine Call.mono c fun r h' hx => ?_
  obtain ⟨ws', z', g', rfl, hp, hw, hln, hb, h0, h1, hm⟩ := hx
  refine ⟨ws', z', g', rfl, hp, hw, hln.trans hN, hb, fun h => ?_, h1, by omega⟩
  obtain ⟨a1, a2, a3⟩ := h0 h
  refine ⟨a1, a2, fun hz4 r hr => ?_⟩
  rw [ns_at]
  exact a3 hz4 r hr
theorem refute_no (db : List Tb) (l : List Dp) (g : Dp) (hf : Few db l g) (h : allS db l g = 0) (hp : findS g.t g.r 0 (states l g) < 0) : PCall Tryz.prog 18 [DB db, DpL l, DV g] (refOut db l g) := by
  have c := implies_p db l g hf h
  rw [decide_eq_false (show ¬ 0 ≤ findS g.t g.r 0 (states l g) by omega)] at c
  have hd4 := hf.d4
  have cg := find_p g.f db db.length (by omega) rfl (tF db) (fun i hi => rfl)
  clear hp
  have V := allS_ok h
  obtain ⟨U, hU⟩ : ∃ U, U = refOut db l g := ⟨_, rfl⟩
  rw [← hU]
  have hat : ∀ t ∈ db, t.attrs.length ≤ 1000 := fun t ht => by have := (valid_rows (V.vd.v t ht)).2.1; omega
  have hgc := fun wb rb z ws => grow_c wb rb db l g V hd4 z ws
  have hdc := fun wb rb z ws => database_c wb rb db z ws
  have hno := @refOut_no db l g
  have hyes := @refOut_yes db l g
  rw [← hU] at hno hyes
  clear hU
  have hgf := V.g.f
  have hti := tabI_idx (i := 0) hgf
  obtain ⟨f, hfd⟩ : ∃ f, f = idxN g.f (nmsOf db) := ⟨_, rfl⟩
  rw [← hfd, Nat.zero_add] at hti
  rw [hti] at cg
  have hfl : f < db.length := by rw [hfd]; have := idxN_lt hgf; rwa [nmsOf, List.length_map] at this
  have hns : (nsOf db).getD f 0 = (db.getD f t0).attrs.length := by
    unfold nsOf
    simp [List.getD_eq_getElem?_getD, hfl]
  have hn16 := V.vd.ns f
  have hC1 : Cl (nmsOf db) (nsOf db) l g f (firstR (db.getD f t0).attrs.length g) := by
    rw [← hns, hfd]
    exact Cl.first
  have hCL := fun s r (hc : Cl (nmsOf db) (nsOf db) l g s r) => Cl.le16 V.vd hc
  have hGW : ∀ ws z, WI (Cl (nmsOf db) (nsOf db) l g) ws z → ws.length = db.length → firstR (db.getD f t0).attrs.length g ∈ (ws.getD f w0).2 → (∀ d ∈ l, Clo (nmsOf db) (nsOf db) (fun t => (ws.getD t w0).2) d) → z ≤ 400 → GoodW db l g ws z := fun ws z a b c d e => ⟨a, b, by rw [← hfd, hns]; exact c, d, e⟩
  have hyes2 : ∀ ws z, WI (Cl (nmsOf db) (nsOf db) l g) ws z → ws.length = db.length → firstR (db.getD f t0).attrs.length g ∈ (ws.getD f w0).2 → (∀ d ∈ l, Clo (nmsOf db) (nsOf db) (fun t => (ws.getD t w0).2) d) → z ≤ 400 → U = .tup [DB (refW db ws), I64 0] := fun ws z a b c d e => hyes (hGW ws z a b c d e)
  clear hGW hyes
  obtain ⟨C, hC⟩ : ∃ C, C = Cl (nmsOf db) (nsOf db) l g := ⟨_, rfl⟩
  rw [← hC] at hno hC1
  simp only [← hC] at hgc hCL hyes2
  clear hC
  have hgl := V.g.l
  rw [← hfd] at hgl
  rw [hns] at hn16 hgl
  have fdb : ((f : Nat) : Int) < ((db.length : Nat) : Int) := by omega
  have f0q : (0 : Int) ≤ ((f : Nat) : Int) := by omega
  have fe : ((f : Nat) : Int).toNat = f := Int.toNat_natCast _
  have ff : tF db f = tC (db.getD f t0) := rfl
  generalize db.getD f t0 = tt at *
  obtain ⟨tn, ta, tr⟩ := tt
  have tal : ta.length ≤ 16 := hn16
  have tan : ((ta.length : Nat) : Int).toNat = ta.length := Int.toNat_natCast _
  have ta0 : (0 : Int) ≤ ((ta.length : Nat) : Int) := by omega
  have ta8 : ((ta.length : Nat) : Int) * 8 ≤ 140737488355328 := by omega
  obtain ⟨gf, gl, gt, gr⟩ := g
  have dbn : ((db.length : Nat) : Int).toNat = db.length := Int.toNat_natCast _
  have db0 : (0 : Int) ≤ ((db.length : Nat) : Int) := by omega
  have db24 : ((db.length : Nat) : Int) * 24 ≤ 140737488355328 := by omega
  refine Call.enter' (N := 96) (rs := [.cell 6 30, .tmp 7]) Tryz.func18 rfl rfl rfl (by decide) rfl ?_; simp only [argT]; have hD : (0 : Nat) = 0 := rfl
  repeat' first | (with_reducible refine And.intro (by omega) ?_) | (refine SW.seq_k fun K hK => ?_) | (refine SW.block ?_) | ((first | refine SW.region ?_ | refine SW.regionZ (id := 6) (Checked.mixed Tryz.checked) ((.one 0 [0, 1, 6, 7, 8] (.one 1 [1, 6, 7, 8] (.one 2 [2, 3, 4, 5, 6, 7, 8] (.one 3 [3, 4, 5, 6, 7, 8] (.one 4 [4, 5, 6, 7, 8] (.alt 5 (.one 6 [6, 7, 8] (.alt 7 (.one 8 [8] .done) .nil)) .nil)))))) : OZ) (by kernel_rfl) ?_ | refine SW.cond ?_ | refine SW.skip ?_ | refine Call.of_pure (c) ?_ | refine Call.of_pure (cg) ?_ | (refine allF_i fun b hb => ?_; replace hD := And.intro hb hD; clear hb; try simp only [fresh_cons, fresh_nil, and_true, ne_eq, neF] at hD)); try simp only [go_sem, hD, dbn, db0, db24, fdb, f0q, fe, ff, tan, ta0, ta8, true_implies]) | (apply hK; clear hK K)
  obtain ⟨nb, rfl⟩ : ∃ x, x = b := ⟨_, rfl⟩
  obtain ⟨wb, rfl⟩ : ∃ x, x = b := ⟨_, rfl⟩
  obtain ⟨rb, rfl⟩ : ∃ x, x = b := ⟨_, rfl⟩
  obtain ⟨ob, rfl⟩ : ∃ x, x = b := ⟨_, rfl⟩
  have k1 : ¬ nb = wb := by simp [hD]
  have k2 : ¬ wb = nb := by simp [hD]
  have k3 : ¬ nb = rb := by simp [hD]
  have k4 : ¬ rb = nb := by simp [hD]
  have k5 : ¬ nb = ob := by simp [hD]
  have k6 : ¬ ob = nb := by simp [hD]
  have k7 : ¬ wb = rb := by simp [hD]
  have k8 : ¬ rb = wb := by simp [hD]
  have k9 : ¬ wb = ob := by simp [hD]
  have ka : ¬ ob = wb := by simp [hD]
  have kb : ¬ rb = ob := by simp [hD]
  have kc : ¬ ob = rb := by simp [hD]
  have hpz := parV_zero ta.length gl (fun k => (k : Int) + 1)
  rw [← hpz, ← ws0_wc]
  refine Ab.SW.le (St.le_pick [(nb, .ints .i64 (parV ta.length gl (fun k => (k : Int) + 1) 0)), (wb, .svs [TL db, .os rb 0 db.length 1, I64 0]), (rb, .svs ((ws0 db.length).map wc)), (ob, .svs [SN])] ?_ ?_) ?_
  · repeat' (first | exact (fun x hx => (List.not_mem_nil hx).elim) | refine List.forall_mem_cons.2 ⟨?_, ?_⟩ | exact List.mem_cons_self | apply List.mem_cons_of_mem)
  · simp [fresh_cons, fresh_nil, hD]
  clear hD
  have hE := And.intro (And.intro (And.intro (eq_false k1) (eq_false k2)) (And.intro (And.intro (eq_false k3) (eq_false k4)) (And.intro (eq_false k5) (eq_false k6)))) (And.intro (And.intro (eq_false k7) (eq_false k8)) (And.intro (And.intro (eq_false k9) (eq_false ka)) (And.intro (eq_false kb) (eq_false kc))))
  have hg3 := hf.g3
  have hgn := V.g.nl
  have hgr : ∀ a ∈ gl, 0 ≤ a ∧ a < (ta.length : Int) := hgl
  simp only at hg3 hgn
  have hpi := parV_first (n := ta.length) (g := ⟨gf, gl, gt, gr⟩)
  have hps := fun m (h : m < gl.length) => parV_succ (n := ta.length) (v := fun k => (k : Int) + 1) hgn h (hgr _ (getD_mem' 0 h))
  have hpl := fun m => parV_len ta.length gl (fun k => (k : Int) + 1) m
  try simp only at hpi
  try simp only at hps
  have hv : ∀ m : Nat, (fun k : Nat => (k : Int) + 1) m = (m : Int) + 1 := fun m => rfl
  generalize (fun k : Nat => (k : Int) + 1) = v at *
  obtain ⟨I, hI⟩ : ∃ I : Nat → St → Prop, ∀ k S, I k S ↔ (∃ (m : Nat) , k = gl.length - m ∧ m ≤ gl.length ∧ S = ⟨[(1, DpL l), (6, .op ob 0), (7, I64 0), (10, .op wb 0), (11, I64 f), (12, .os nb 0 ta.length 1), (53, IL gl), (54, I64 gl.length), (55, I64 m)], [(nb, .ints .i64 (parV ta.length gl v m)), (wb, .svs [TL db, .os rb 0 db.length 1, I64 0]), (rb, .svs ((ws0 db.length).map wc)), (ob, .svs [SN])]⟩) := ⟨fun k S => _, fun _ _ => Iff.rfl⟩
  refine SW.loop' I (gl.length) ((hI _ _).2 ⟨0, rfl, Nat.zero_le _, rfl⟩) (by repeat' (first | exact rfl | exact trivial | constructor)) ?_
  intro k S hIn
  obtain ⟨m, rfl, hi, rfl⟩ := (hI _ _).1 hIn
  clear hIn
  have ie : ((m : Nat) : Int).toNat = m := Int.toNat_natCast _
  have i0 : (0 : Int) ≤ ((m : Nat) : Int) := by omega
  by_cases hlm : m < gl.length
  · have hli : ((m : Nat) : Int) < (((gl.length) : Nat) : Int) := by omega
    have w1 : IntKind.i64.wrap ((m : Int) + 1) = ((m + 1 : Nat) : Int) := by rw [i64_wrap (by omega) (by omega)]; omega
    have fm : iF gl m = [I64 (gl.getD m 0)] := rfl
    have hga := hgr _ (getD_mem' 0 hlm)
    have hvm := hv m
    have hpm := hps m hlm
    have hplm := hpl m
    have w2 : IntKind.i64.wrap ((m : Int) + 1) = v m := by rw [hvm, i64_wrap (by omega) (by omega)]
    generalize gl.getD m 0 = a at *
    obtain ⟨a0, a1⟩ := hga
    have za : 0 + a.toNat * 1 = a.toNat := by omega
    have at1 : a.toNat < ta.length := by omega
    have w3 : ((m + 1 : Nat) : Int) = v m := by rw [hvm]; omega
    have hpm2 : (parV ta.length gl v m).set a.toNat ((m + 1 : Nat) : Int) = parV ta.length gl v (m + 1) := by first | (rw [w3]; exact hpm) | (rw [show ((m + 1 : Nat) : Int) = (m : Int) + 1 by omega]; exact hpm)
    clear hpm
    have hD := hE
    repeat' first | (with_reducible refine And.intro (by omega) ?_) | (refine SW.seq_k fun K hK => ?_) | (refine SW.block ?_) | ((first | refine SW.region ?_ | refine SW.cond ?_ | refine SW.skip ?_); try simp only [go_sem, hD, hli, ie, i0, w1, fm, a0, a1, za, hplm, at1, true_implies]) | (apply hK; clear hK K)
    all_goals
      rw [hpm2]
      refine Rnd.sub (gl.length - (m + 1)) (by omega) ((hI _ _).2 ⟨m + 1, rfl, by omega, rfl⟩) (by repeat' (first | exact rfl | exact trivial | constructor))
  · have hli : ¬ ((m : Nat) : Int) < (((gl.length) : Nat) : Int) := by omega
    obtain rfl : m = gl.length := by omega
    have hpl2 := hpl gl.length
    rw [hpi] at hpl2 ⊢
    obtain ⟨R, hR⟩ : ∃ R, R = firstR ta.length ⟨gf, gl, gt, gr⟩ := ⟨_, rfl⟩
    rw [← hR] at hpl2 ⊢
    have hD := hE.2
    refine Ab.SW.le (St.le_ints (i := 12) .i64 R rfl hpl2.symm (by rw [find_cons, if_pos rfl]) rfl) ?_
    rw [del_head]
    have hwl0 := ws0_len db.length
    have hwi0 := fun C => ws0_WI C db.length
    have hwg0 := ws0_get db.length
    have hwB0 := ws0_wB db.length
    generalize ws0 db.length = wl at *
    obtain ⟨A, e2, D, hwl, hA⟩ := split_at (ws := wl) (t := f) (by omega)
    have hge : e2 = w0 := by rw [← hwg0 f, hwl, ← hA, mid_get A D e2 e2, if_pos rfl]
    subst hge
    have hAD : (A ++ ((0 : Nat), ([] : List (List Int))) :: D).length = wl.length := by rw [hwl]; rfl
    have ca := add_w wb rb (TL db) 0 A D 0 [] R ⟨by omega, by omega⟩ (by simp) (by omega) (by simp) (by omega)
    have hwl' : wl = A ++ ((0 : Nat), ([] : List (List Int))) :: D := hwl
    rw [hA, ← hwl'] at ca
    have eWH : WH wb rb (TL db) 0 wl = [(wb, .svs [TL db, .os rb 0 db.length 1, I64 0]), (rb, .svs (wl.map wc))] := by
      unfold WH
      rw [hwB0, hwl0]
    rw [eWH] at ca
    repeat' first | ((refine Call.mono (Call.frameN (h2 := [(ob, .svs [SN])]) ca) ?_); (intro r' h' hx); (refine stop_i ?_)) | (refine SW.seq_k fun K hK => ?_) | ((first | refine SW.region ?_ | refine SW.cond ?_ | refine SW.exit ?_); try simp only [go_sem, hD, hli, true_implies]) | (apply hK; clear hK K) | (clear hK K; apply hK; clear hK K)
    refine Stop.mk ?_
    obtain ⟨h1, rfl, hq, _⟩ := hx
    rcases hq with ⟨hm, _⟩ | ⟨hm, rfl, b', hp⟩
    · simp at hm
    apply hK
    clear hK K
    refine Ab.SW.le (St.le_perm (h' := WH wb rb (TL db) (0 + 1) (A ++ (b', [] ++ [R]) :: D) ++ [(ob, .svs [SN])]) (hp.symm.append_right _)) ?_
    have hll := hf.ll
    have hWI1 := WI.add (C := C) (A := A) (D := D) (e := ((0 : Nat), ([] : List (List Int)))) (b := b') (row := R) (z := 0) (by rw [← hwl']; exact hwi0 C) (by simp) (by rw [hA, hR]; exact hC1)
    have hL1 : (A ++ (b', [] ++ [R]) :: D).length = db.length := by rw [← hwl0, hwl']; simp
    have hm1 : R ∈ ((A ++ (b', [] ++ [R]) :: D).getD f w0).2 := by rw [← hA, mid_get A D (b', [] ++ [R]) (b', [] ++ [R]), if_pos rfl]; simp
    simp only [← hR] at hyes2
    have hk1 : ¬ (wb = rb) := k7
    clear hp ca hwi0 hwg0 hwB0 hwl0 hpl2 hAD hps hpl hv hpi hpz hE hD hwl hwl' hA hC1 hR eWH
    simp only at hWI1
    generalize A ++ (b', [] ++ [R]) :: D = ws1 at *
    have hD := And.intro (And.intro (And.intro (eq_false k7) (eq_false k8)) (And.intro (eq_false k9) (eq_false ka))) (And.intro (eq_false kb) (eq_false kc))
    have hE := hD
    unfold WH
    simp only [List.cons_append]
    repeat' first | (refine SW.seq_k fun K hK => ?_) | (refine SW.block ?_) | (refine SW.region ?_; try simp only [go_sem, hD, true_implies]) | (apply hK; clear hK K)
    obtain ⟨I, hI⟩ : ∃ I : Nat → St → Prop, ∀ k S, I k S ↔ (∃ (n : Nat) (zz : Int) (wl : List Wt) (gg : Bool), k = 403 - n ∧ n ≤ 403 ∧ WI C wl zz ∧ wl.length = db.length ∧ R ∈ (wl.getD f w0).2 ∧ zz ≤ 401 ∧ (gg = true → (n : Int) ≤ zz) ∧ (gg = false → zz ≤ 400 → ∀ d ∈ l, Clo (nmsOf db) (nsOf db) (fun t => (wl.getD t w0).2) d) ∧ S = ⟨[(1, DpL l), (6, .op ob 0), (7, I64 0), (10, .op wb 0), (15, SB gg)], (wb, .svs [TL db, .os rb 0 wl.length 1, I64 zz]) :: (rb, .svs (wl.map wc)) :: (wB wl ++ [(ob, .svs [SN])])⟩) := ⟨fun k S => _, fun _ _ => Iff.rfl⟩
    refine SW.loop' I (403) ((hI _ _).2 ⟨0, 0 + 1, ws1, true, rfl, Nat.zero_le _, hWI1, hL1, hm1, by omega, (fun _ => by omega), (fun h => by cases h), rfl⟩) (by repeat' (first | exact rfl | exact trivial | constructor)) ?_
    intro k S hIn
    obtain ⟨n, zz, wl, gg, rfl, hi, hWI, hLn, hRm, hz1, hg1, hg0, rfl⟩ := (hI _ _).1 hIn
    clear hIn
    have ie : ((n : Nat) : Int).toNat = n := Int.toNat_natCast _
    have i0 : (0 : Int) ≤ ((n : Nat) : Int) := by omega
    by_cases hgo : gg = true ∧ zz ≤ 400
    · obtain ⟨rfl, hz4⟩ := hgo
      have hn4 := hg1 rfl
      repeat' first | (refine SW.seq_k fun K hK => ?_) | (refine SW.block ?_) | ((first | refine SW.region ?_ | refine SW.cond ?_ | refine SW.skip ?_); try simp only [go_sem, hD, hz4, true_implies]) | (apply hK; clear hK K)
      have hIO := hI
      clear hI hg0 hg1
      obtain ⟨I, hI⟩ : ∃ I : Nat → St → Prop, ∀ k S, I k S ↔ (∃ (m : Nat) (z2 : Int) (w2 : List Wt) (g2 : Bool), k = l.length - m ∧ m ≤ l.length ∧ WI C w2 z2 ∧ w2.length = db.length ∧ R ∈ (w2.getD f w0).2 ∧ z2 ≤ 401 ∧ zz ≤ z2 ∧ (g2 = false → z2 = zz ∧ ∀ j, j < m → Clo (nmsOf db) (nsOf db) (fun t => (w2.getD t w0).2) (l.getD j d0)) ∧ (g2 = true → zz < z2) ∧ S = ⟨[(1, DpL l), (6, .op ob 0), (7, I64 0), (10, .op wb 0), (15, SB g2), (78, DpL l), (79, I64 l.length), (80, I64 m)], (wb, .svs [TL db, .os rb 0 w2.length 1, I64 z2]) :: (rb, .svs (w2.map wc)) :: (wB w2 ++ [(ob, .svs [SN])])⟩) := ⟨fun k S => _, fun _ _ => Iff.rfl⟩
      refine SW.loop' I (l.length) ((hI _ _).2 ⟨0, zz, wl, false, rfl, Nat.zero_le _, hWI, hLn, hRm, hz1, Int.le_refl _, (fun _ => ⟨rfl, fun j hj => absurd hj (Nat.not_lt_zero _)⟩), (fun h => by cases h), rfl⟩) (by repeat' (first | exact rfl | exact trivial | constructor)) ?_
      intro k S hIn
      obtain ⟨m, z2, w2, g2, rfl, hi, hWI2, hL2, hR2, hz2, hzz, h20, h21, rfl⟩ := (hI _ _).1 hIn
      clear hIn
      have ie : ((m : Nat) : Int).toNat = m := Int.toNat_natCast _
      have i0 : (0 : Int) ≤ ((m : Nat) : Int) := by omega
      by_cases hlm : m < l.length
      · have hli : ((m : Nat) : Int) < (((l.length) : Nat) : Int) := by omega
        have w1 : IntKind.i64.wrap ((m : Int) + 1) = ((m + 1 : Nat) : Int) := by rw [i64_wrap (by omega) (by omega)]; omega
        have fd : dpF l m = dC (l.getD m d0) := rfl
        have hdm : l.getD m d0 ∈ l := getD_mem' d0 hlm
        have cg := hgc wb rb z2 w2 hWI2 hL2 hz2 (l.getD m d0) hdm
        generalize hd0 : l.getD m d0 = dd at *
        obtain ⟨df, dl, dt, dr⟩ := dd
        have hD := hE
        repeat' first | (refine SW.seq_k fun K hK => ?_) | (refine SW.block ?_) | ((first | refine SW.region ?_ | refine SW.cond ?_ | refine SW.skip ?_ | (refine allF_i fun b hb => ?_; replace hD := And.intro hb hD; clear hb; try simp only [fresh_cons, fresh_nil, and_true, ne_eq, neF] at hD)); try simp only [go_sem, hD, hli, ie, i0, fd, true_implies]) | (apply hK; clear hK K)
        obtain ⟨nb, rfl⟩ : ∃ x, x = b := ⟨_, rfl⟩
        refine Call.permN (Call.mono (Call.frameN (h2 := [(nb, .svs [Str df, IL dl, Str dt, IL dr]), (ob, .svs [SN])]) cg) fun r h' hx => ?_) (List.perm_middle (l₁ := WH wb rb (TL db) z2 w2) (a := (nb, Blk.svs [Str df, IL dl, Str dt, IL dr])) (l₂ := [(ob, Blk.svs [SN])]))
        obtain ⟨h1, rfl, ⟨w3, z3, g3, rfl, hp, hW3, hL3, hB3, h30, h31, hz3⟩, _⟩ := hx
        apply hK
        clear hK K
        refine Ab.SW.le ((St.le_perm (h' := WH wb rb (TL db) z3 w3 ++ [(nb, .svs [Str df, IL dl, Str dt, IL dr]), (ob, .svs [SN])]) (hp.symm.append_right _)).trans (St.le_slist (h' := WH wb rb (TL db) z3 w3 ++ [(ob, .svs [SN])]) ((List.Sublist.refl _).append (List.Sublist.cons _ (List.Sublist.refl _))))) ?_
        clear hp
        unfold WH
        simp only [List.cons_append]
        cases g3 with
        | false =>
          obtain ⟨rfl, rfl, hcl⟩ := h30 rfl
          have hnew : g2 = false → z3 = zz ∧ ∀ j, j < m + 1 → Clo (nmsOf db) (nsOf db) (fun t => (w3.getD t w0).2) (l.getD j d0) := fun h => by
            obtain ⟨e1, e2⟩ := h20 h
            refine ⟨e1, fun j hj => ?_⟩
            rcases Nat.lt_or_eq_of_le (Nat.lt_succ_iff.1 hj) with h5 | h5
            · exact e2 j h5
            · rw [h5, hd0]; exact hcl (by omega)
          repeat' first | ((first | refine SW.region ?_ | refine SW.cond ?_ | refine SW.skip ?_); try simp only [go_sem, hD, w1, true_implies]) | (apply hK; clear hK K)
          refine Rnd.sub (l.length - (m + 1)) (by omega) ((hI _ _).2 ⟨m + 1, z3, w3, g2, rfl, by omega, hWI2, hL2, hR2, hz2, hzz, hnew, h21, rfl⟩) (by repeat' (first | exact rfl | exact trivial | constructor))
        | true =>
          have hz5 := h31 rfl
          repeat' first | ((first | refine SW.region ?_ | refine SW.cond ?_); try simp only [go_sem, hD, w1, true_implies]) | (apply hK; clear hK K)
          refine Rnd.sub (l.length - (m + 1)) (by omega) ((hI _ _).2 ⟨m + 1, z3, w3, true, rfl, by omega, hW3, hL3, (hB3 f).subset hR2, hz3, by omega, (fun h => by cases h), (fun _ => by omega), rfl⟩) (by repeat' (first | exact rfl | exact trivial | constructor))
      · have hli : ¬ ((m : Nat) : Int) < (((l.length) : Nat) : Int) := by omega
        obtain rfl : m = l.length := by omega
        have hnew : g2 = false → z2 ≤ 400 → ∀ d ∈ l, Clo (nmsOf db) (nsOf db) (fun t => (w2.getD t w0).2) d := fun h h4 d hd => by
          obtain ⟨j, hj, rfl⟩ := List.getElem_of_mem hd
          have := (h20 h).2 j hj
          rwa [show l.getD j d0 = l[j] by simp [List.getD_eq_getElem?_getD, hj]] at this
        repeat' first | (refine SW.seq_k fun K hK => ?_) | ((first | refine SW.region ?_ | refine SW.cond ?_ | refine SW.exit ?_); try simp only [go_sem, hD, hli, true_implies]) | (apply hK; clear hK K)
        refine Rnd.sub (403 - (n + 1)) (by omega) ((hIO _ _).2 ⟨n + 1, z2, w2, g2, rfl, by omega, hWI2, hL2, hR2, hz2, (fun h => by have := h21 h; omega), hnew, rfl⟩) (by repeat' (first | exact rfl | exact trivial | constructor))
    · by_cases hz4 : zz ≤ 400
      · have hgg : gg = false := by
          cases gg with
          | false => rfl
          | true => exact absurd ⟨rfl, hz4⟩ hgo
        subst hgg
        have hU2 := hyes2 wl zz hWI hLn hRm (hg0 rfl hz4) hz4
        have cdb := hdc wb rb zz wl hLn (by omega) hat (fun s hs => ⟨by have := len_tot hs; have := hWI.z; omega, hWI.nd s hs, fun r hr => by have := hCL s r (hWI.c s hs r hr); omega⟩)
        have hz5 : ¬ 400 < zz := by omega
        subst hU2
        generalize refW db wl = W at *
        repeat' first | ((refine Call.mono (Call.frameN (h1 := WH wb rb (TL db) zz wl) (h2 := [(ob, .svs [SN])]) cdb) ?_); (intro r' h' hx); (obtain ⟨h1, rfl, ⟨rfl, rfl⟩, _⟩ := hx); (simp only [go_sem, hD])) | (refine SW.seq_k fun K hK => ?_) | ((first | refine SW.region ?_ | refine SW.cond ?_ | refine SW.skip ?_ | refine SW.exit ?_ | refine SW.ret ?_); try simp only [go_sem, hD, hz5, true_implies]) | (apply hK; clear hK K) | (clear hK K; apply hK; clear hK K)
        apply ret_cell (i := 6) (n := 1); exact rfl; (simp only [go_sem, hD]; try rfl); (first | exact Nat.le_refl _ | decide); simp only [resL_tmp, resL_cellE, resC_ok, resL_nil, tupOf, getN, go_sem, hD]
      · have hz5 : 400 < zz := by omega
        have hU2 := hno hWI hLn hz5
        subst hU2
        refine Ab.SW.le (St.le_slist (h' := [(wb, .svs [TL db, .os rb 0 wl.length 1, I64 zz]), (rb, .svs (wl.map wc)), (ob, .svs [SN])]) (List.Sublist.cons_cons _ (List.Sublist.cons_cons _ (List.sublist_append_right _ _)))) ?_
        cases gg with
        | false =>
          repeat' first | (refine SW.seq_k fun K hK => ?_) | ((first | refine SW.region ?_ | refine SW.cond ?_ | refine SW.exit ?_ | refine SW.ret ?_); try simp only [go_sem, hD, hz4, hz5, true_implies]) | (apply hK; clear hK K) | (clear hK K; apply hK; clear hK K)
          apply ret_cell (i := 6) (n := 1); exact rfl; (simp only [go_sem, hD]; try rfl); (first | exact Nat.le_refl _ | decide); simp only [resL_tmp, resL_cellE, resC_ok, resL_nil, tupOf, getN, go_sem, hD]
        | true =>
          repeat' first | (refine SW.seq_k fun K hK => ?_) | ((first | refine SW.region ?_ | refine SW.cond ?_ | refine SW.exit ?_ | refine SW.ret ?_); try simp only [go_sem, hD, hz4, hz5, true_implies]) | (apply hK; clear hK K) | (clear hK K; apply hK; clear hK K)
          apply ret_cell (i := 6) (n := 1); exact rfl; (simp only [go_sem, hD]; try rfl); (first | exact Nat.le_refl _ | decide); simp only [resL_tmp, resL_cellE, resC_ok, resL_nil, tupOf, getN, go_sem, hD]
end Go.Proofs.YtblfodnajpamfaaGreatDoor
namespace Go.Proofs.YtblfodnajpamfaaGreatDoor
open Go Go.Ab Go.Ab.A34 Go.Ab.A15
variable [Gl] [Tabs]
theorem awake_c : PCall Tryz.prog 11 [] (SB true) := by
  have e := ex_c
  have gv := giv_c
  have pr := prove_p exT givD goalD ex_few1 ex_all1 ex_find1
  have rf := refute_no exT givD backD ex_few2 ex_all2 ex_find2
  have ck := check_i exT givD goalD (proofS givD goalD) (by decide) (by decide) (fun d hd => ex_okd d (.inr (.inr hd))) (ex_okd _ (.inl rfl)) ex_all1 ex_okp
  rw [ex_out] at rf
  rw [ex_chk] at ck
  have hl := ex_len
  obtain ⟨w1, w2, w3⟩ := ex_two
  generalize proofS givD goalD = P at *
  generalize refW exT exW = W at *
  unfold goalD backD at *
  refine Call.enter' (N := 69) (rs := [.tmp 0]) Tryz.func11 rfl rfl rfl (by decide) rfl ?_; simp only [argT]; have hD : (0 : Nat) = 0 := rfl
  repeat' first | (refine SW.seq_k fun K hK => ?_) | ((first | refine SW.region ?_ | (refine allF_i fun b hb => ?_; replace hD := And.intro hb hD; clear hb; try simp only [fresh_cons, fresh_nil, and_true, ne_eq, neF] at hD)); try simp only [go_sem, hD]) | (apply hK; clear hK K)
  obtain ⟨X2, rfl⟩ : ∃ x, x = b := ⟨_, rfl⟩
  obtain ⟨R2, rfl⟩ : ∃ x, x = b := ⟨_, rfl⟩
  obtain ⟨L2, rfl⟩ : ∃ x, x = b := ⟨_, rfl⟩
  obtain ⟨X1, rfl⟩ : ∃ x, x = b := ⟨_, rfl⟩
  obtain ⟨R1, rfl⟩ : ∃ x, x = b := ⟨_, rfl⟩
  obtain ⟨L1, rfl⟩ : ∃ x, x = b := ⟨_, rfl⟩
  refine Ab.SW.le (S' := ⟨[(0, SB false), (1, .fp [Str ⟨#[114]⟩, IL [1], Str ⟨#[114]⟩, IL [0]]), (2, .fp [Str ⟨#[114]⟩, IL [0], Str ⟨#[114]⟩, IL [1]])], []⟩) ?_ ?_
  · skip
    refine St.le.trans (St.le_freezeC (c := X2) (j := 3) (b := R2) (off := 0) (len := 1) (sz := 1) (by first | (rw [find_cons, if_pos rfl]) | (simp [find_cons, hD]; done) | (simp [find_cons, hD]; rfl)) (by simp [hD]) (by first | decide | simp [Blk.len_svs]) rfl (by first | (rw [find_cons, if_pos rfl]) | (simp [find_cons, hD]; done) | (simp [find_cons, hD]; rfl)) (by first | decide | simp [Blk.len_svs]) (iF [1]) (fun p hp => by
      obtain rfl : p = 0 := by omega
      rfl)) ?_
    simp only [go_sem, hD]
    refine St.le.trans (St.le_freezeC (c := X2) (j := 1) (b := L2) (off := 0) (len := 1) (sz := 1) (by first | (rw [find_cons, if_pos rfl]) | (simp [find_cons, hD]; done) | (simp [find_cons, hD]; rfl)) (by simp [hD]) (by first | decide | simp [Blk.len_svs]) rfl (by first | (rw [find_cons, if_pos rfl]) | (simp [find_cons, hD]; done) | (simp [find_cons, hD]; rfl)) (by first | decide | simp [Blk.len_svs]) (iF [0]) (fun p hp => by
      obtain rfl : p = 0 := by omega
      rfl)) ?_
    simp only [go_sem, hD]
    refine St.le.trans (St.le_freezeC (c := X1) (j := 3) (b := R1) (off := 0) (len := 1) (sz := 1) (by first | (rw [find_cons, if_pos rfl]) | (simp [find_cons, hD]; done) | (simp [find_cons, hD]; rfl)) (by simp [hD]) (by first | decide | simp [Blk.len_svs]) rfl (by first | (rw [find_cons, if_pos rfl]) | (simp [find_cons, hD]; done) | (simp [find_cons, hD]; rfl)) (by first | decide | simp [Blk.len_svs]) (iF [0]) (fun p hp => by
      obtain rfl : p = 0 := by omega
      rfl)) ?_
    simp only [go_sem, hD]
    refine St.le.trans (St.le_freezeC (c := X1) (j := 1) (b := L1) (off := 0) (len := 1) (sz := 1) (by first | (rw [find_cons, if_pos rfl]) | (simp [find_cons, hD]; done) | (simp [find_cons, hD]; rfl)) (by simp [hD]) (by first | decide | simp [Blk.len_svs]) rfl (by first | (rw [find_cons, if_pos rfl]) | (simp [find_cons, hD]; done) | (simp [find_cons, hD]; rfl)) (by first | decide | simp [Blk.len_svs]) (iF [1]) (fun p hp => by
      obtain rfl : p = 0 := by omega
      rfl)) ?_
    simp only [go_sem, hD]
    refine St.le.trans (St.le_freezeP (i := 1) (b := X1) (off := 0) (n := 4) rfl (by first | (rw [find_cons, if_pos rfl]) | (simp [find_cons, hD]; done) | (simp [find_cons, hD]; rfl)) (by first | decide | simp [Blk.len_svs])) ?_
    simp only [getN, Blk.get, go_sem, hD]
    refine St.le.trans (St.le_freezeP (i := 2) (b := X2) (off := 0) (n := 4) rfl (by first | (rw [find_cons, if_pos rfl]) | (simp [find_cons, hD]; done) | (simp [find_cons, hD]; rfl)) (by first | decide | simp [Blk.len_svs])) ?_
    simp only [getN, Blk.get, go_sem, hD]
    exact St.le_sub (by repeat' (first | exact rfl | exact trivial | constructor))
  clear hD
  have hD : (0 : Nat) = 0 := rfl
  have f0 : tF W 0 = tC (W.getD 0 t0) := rfl
  have f1 : tF W 1 = tC (W.getD 1 t0) := rfl
  generalize W.getD 0 t0 = T0 at *
  generalize W.getD 1 t0 = T1 at *
  obtain ⟨n0, a0, r0'⟩ := T0
  obtain ⟨n1, a1, r1'⟩ := T1
  simp only at w2 w3
  have hlI : ((P.length : Nat) : Int) = 2 := by omega
  have w1I : ((W.length : Nat) : Int) = 2 := by omega
  have w2I : ((r0'.length : Nat) : Int) = 2 := by omega
  have w3I : ((r1'.length : Nat) : Int) = 2 := by omega
  repeat' first | (with_reducible refine And.intro (by omega) ?_) | (refine SW.seq_k fun K hK => ?_) | ((first | refine SW.regionZ (id := 3) (Checked.mixed Tryz.checked) ((.one 0 [0, 1, 3, 4, 5, 6, 7, 8] (.one 1 [1, 3, 4, 5, 6, 7, 8] (.one 2 [2, 3, 4, 5, 6, 7, 8] (.one 3 [3, 4, 5, 6, 7, 8] (.one 4 [4, 5, 6, 7, 8] (.one 5 [5, 7, 8] (.one 6 [6, 8] (.one 7 [7, 8] (.one 8 [8] .done))))))))) : OZ) (by kernel_rfl) ?_ | refine SW.regionZ (id := 4) (Checked.mixed Tryz.checked) ((.one 0 [0, 1, 3, 4, 5, 6, 8, 9] (.one 1 [1, 3, 4, 5, 6, 8, 9] (.one 2 [2, 3, 4, 5, 6, 8, 9] (.one 3 [3, 4, 5, 6, 8, 9] (.one 4 [4, 5, 6, 8, 9] (.one 5 [5, 8, 9] (.alt 6 (.alt 7 (.alt 8 (.one 9 [9] .done) .nil) .nil) (.alt 7 (.alt 6 (.alt 8 (.one 9 [9] .done) .nil) (.alt 8 (.one 6 [6, 9] (.one 9 [9] .done)) .nil)) .nil)))))))) : OZ) (by kernel_rfl) ?_ | refine SW.regionZ (id := 5) (Checked.mixed Tryz.checked) ((.one 0 [0, 1, 2, 3, 4, 5, 6, 7, 8, 9, 10, 11, 12, 13, 14, 15, 16, 17, 18, 19, 20, 21, 22, 23, 24, 25, 26, 27, 28, 29, 30, 31, 32, 33, 34, 35, 36, 37, 38, 39, 40, 41, 42] (.one 1 [1, 2, 3, 4, 5, 6, 7, 8, 9, 10, 11, 12, 13, 14, 15, 16, 17, 18, 19, 20, 21, 22, 23, 24, 25, 26, 27, 28, 29, 30, 31, 32, 33, 34, 35, 36, 37, 38, 39, 40, 41, 42] (.one 2 [2, 3, 4, 5, 6, 7, 8, 9, 10, 11, 12, 13, 14, 15, 16, 17, 18, 19, 20, 21, 22, 23, 24, 25, 26, 27, 28, 29, 30, 31, 32, 33, 34, 35, 36, 37, 38, 39, 40, 41, 42] (.one 3 [3, 4, 5, 6, 7, 8, 9, 10, 11, 12, 13, 14, 15, 16, 17, 18, 19, 20, 21, 22, 23, 24, 25, 26, 27, 28, 29, 30, 31, 32, 33, 34, 35, 36, 37, 38, 39, 40, 41, 42] (.one 4 [4, 5, 6, 7, 8, 9, 10, 11, 12, 13, 14, 15, 16, 17, 18, 19, 20, 21, 22, 23, 24, 25, 26, 27, 28, 29, 30, 31, 32, 33, 34, 35, 36, 37, 38, 39, 40, 41, 42] (.one 5 [5, 6, 7, 8, 9, 10, 11, 12, 13, 14, 15, 16, 17, 18, 19, 20, 21, 22, 23, 24, 25, 26, 27, 28, 29, 30, 31, 32, 33, 34, 35, 36, 37, 38, 39, 40, 41, 42] (.one 6 [6, 7, 8, 9, 10, 11, 12, 13, 14, 15, 16, 17, 18, 19, 20, 21, 22, 23, 24, 25, 26, 27, 28, 29, 30, 31, 32, 33, 34, 35, 36, 37, 38, 39, 40, 41, 42] (.one 7 [7, 8, 11, 12, 13, 14, 15, 16, 17, 18, 19, 20, 21, 22, 23, 24, 25, 26, 27, 28, 29, 30, 31, 32, 33, 34, 35, 36, 37, 38, 39, 40, 41, 42] (.one 8 [8, 11, 12, 13, 14, 15, 16, 17, 18, 19, 20, 21, 22, 23, 24, 25, 26, 27, 28, 29, 30, 31, 32, 33, 34, 35, 36, 37, 38, 39, 40, 41, 42] (.one 9 [9, 11, 12, 13, 14, 15, 16, 17, 18, 19, 20, 21, 22, 23, 24, 25, 26, 27, 28, 29, 30, 31, 32, 33, 34, 35, 36, 37, 38, 39, 40, 41, 42] (.one 10 [10, 11, 12, 13, 14, 15, 16, 17, 18, 19, 20, 21, 22, 23, 24, 25, 26, 27, 28, 29, 30, 31, 32, 33, 34, 35, 36, 37, 38, 39, 40, 41, 42] (.one 11 [11, 12, 13, 14, 15, 16, 17, 18, 19, 20, 21, 22, 23, 24, 25, 26, 27, 28, 29, 30, 31, 32, 33, 34, 35, 36, 37, 38, 39, 40, 41, 42] (.one 12 [12, 13, 14, 15, 16, 17, 18, 19, 20, 21, 22, 23, 24, 25, 26, 27, 28, 29, 30, 31, 32, 33, 34, 35, 36, 37, 38, 39, 40, 41, 42] (.one 13 [13, 14, 15, 16, 17, 18, 19, 20, 21, 22, 23, 24, 25, 26, 27, 28, 29, 30, 31, 32, 33, 34, 35, 36, 37, 38, 39, 40, 41, 42] (.one 14 [14, 15, 16, 17, 18, 19, 20, 21, 22, 23, 24, 25, 26, 27, 28, 29, 30, 31, 32, 33, 34, 35, 36, 37, 38, 39, 40, 41, 42] (.one 15 [15, 16, 17, 18, 19, 20, 21, 22, 23, 24, 25, 26, 27, 28, 29, 30, 31, 32, 33, 34, 35, 36, 37, 38, 39, 40, 41, 42] (.one 16 [16, 17, 18, 19, 20, 21, 22, 23, 24, 25, 26, 27, 28, 29, 30, 31, 32, 33, 34, 35, 36, 37, 38, 39, 40, 41, 42] (.one 17 [17, 18, 19, 20, 21, 22, 23, 24, 25, 26, 27, 28, 29, 30, 31, 32, 33, 34, 35, 36, 37, 38, 39, 40, 41, 42] (.one 18 [18, 19, 20, 21, 22, 23, 24, 25, 26, 27, 28, 29, 30, 31, 32, 33, 34, 35, 36, 37, 38, 39, 40, 41, 42] (.one 19 [19, 20, 21, 22, 23, 24, 25, 26, 27, 28, 29, 30, 31, 32, 33, 34, 35, 36, 37, 38, 39, 40, 41, 42] (.one 20 [20, 21, 22, 23, 24, 25, 26, 27, 28, 29, 30, 31, 32, 33, 34, 35, 36, 37, 38, 39, 40, 41, 42] (.one 21 [21, 22, 23, 24, 25, 26, 27, 28, 29, 30, 31, 32, 33, 34, 35, 36, 37, 38, 39, 40, 41, 42] (.one 22 [22, 23, 24, 25, 26, 27, 28, 29, 30, 31, 32, 33, 34, 35, 36, 37, 38, 39, 40, 41, 42] (.one 23 [23, 24, 25, 26, 27, 28, 29, 30, 31, 32, 33, 34, 35, 36, 37, 38, 39, 40, 41, 42] (.one 24 [24, 25, 26, 27, 28, 29, 30, 31, 32, 33, 34, 35, 36, 37, 38, 39, 40, 41, 42] (.one 25 [25, 26, 27, 28, 29, 30, 31, 32, 33, 34, 35, 36, 37, 38, 39, 40, 41, 42] (.one 26 [26, 27, 28, 29, 30, 31, 32, 33, 34, 35, 36, 37, 38, 39, 40, 41, 42] (.one 27 [27, 28, 29, 30, 31, 32, 33, 34, 35, 36, 37, 38, 39, 40, 41, 42] (.one 28 [28, 29, 30, 31, 32, 33, 34, 35, 36, 37, 38, 39, 40, 41, 42] (.one 29 [29, 30, 31, 32, 33, 34, 35, 36, 37, 38, 39, 40, 41, 42] (.one 30 [30, 31, 32, 33, 34, 35, 36, 37, 38, 39, 40, 41, 42] (.one 31 [31, 32, 33, 34, 35, 36, 37, 38, 39, 40, 41, 42] (.one 32 [32, 33, 34, 35, 36, 37, 38, 39, 40, 41, 42] (.one 33 [33, 34, 35, 36, 37, 38, 39, 40, 41, 42] (.one 34 [34, 35, 36, 37, 38, 39, 40, 41, 42] (.one 35 [35, 36, 37, 38, 39, 40, 41, 42] (.one 36 [36, 37, 38, 39, 40, 41, 42] (.one 37 [37, 38, 39, 40, 41, 42] (.one 38 [38, 39, 40, 41, 42] (.one 39 [39, 40, 41, 42] (.one 40 [40, 41, 42] (.one 41 [41, 42] (.one 42 [42] .done))))))))))))))))))))))))))))))))))))))))))) : OZ) (by kernel_rfl) ?_ | refine SW.ret ?_ | refine ⟨_, e, ?_⟩ | refine ⟨_, gv, ?_⟩ | refine ⟨_, pr, ?_⟩ | refine ⟨_, rf, ?_⟩ | refine ⟨_, ck, ?_⟩ | (refine allF_i fun b hb => ?_; replace hD := And.intro hb hD; clear hb; try simp only [fresh_cons, fresh_nil, and_true, ne_eq, neF] at hD)); try simp only [go_sem, hD, hlI, w1I, w2I, w3I, f0, f1, true_implies]) | (apply hK; clear hK K) | (refine And.intro ?_ ?_)
  all_goals refine ret_pure ?_; simp only [resL_tmp, resL_nil, tupOf, go_sem, hD]
end Go.Proofs.YtblfodnajpamfaaGreatDoor
namespace Go.Ab.A15
open Go Go.Ab Go.Ab.A34
theorem emp_nil9 : emp (⟨#[]⟩ : ByteArray) = true := barr_eq.2 rfl
theorem code_okV9 (c : Int) : okV (codeV c) = true := by
  have e := emp_nil9
  unfold codeV
  repeat' split
  all_goals (unfold okV vok; simp [e])
  all_goals decide
theorem nm_ok9 : ∀ n, n < 6 → namesB (nm8.take n) = true := by decide +kernel
theorem nmT_ok (i : Nat) : nameB (nmT i).data.toList = true := by
  unfold nmT
  split
  · decide +kernel
  · split <;> decide +kernel
theorem nmT_inj {i j : Nat} (hi : i < 3) (hj : j < 3) (h : nmT i = nmT j) : i = j := by
  have k1 : ¬ (⟨#[114]⟩ : ByteArray) = ⟨#[115]⟩ := by decide
  have k2 : ¬ (⟨#[114]⟩ : ByteArray) = ⟨#[116]⟩ := by decide
  have k3 : ¬ (⟨#[115]⟩ : ByteArray) = ⟨#[116]⟩ := by decide
  have hi3 : i = 0 ∨ i = 1 ∨ i = 2 := by omega
  have hj3 : j = 0 ∨ j = 1 ∨ j = 2 := by omega
  rcases hi3 with rfl | rfl | rfl <;> rcases hj3 with rfl | rfl | rfl <;> first | rfl | (simp only [nmT, if_pos, if_neg, if_true, if_false, reduceCtorEq, Nat.reduceEqDiff, ↓reduceIte] at h; first | exact absurd h k1 | exact absurd h k2 | exact absurd h k3 | exact absurd h.symm k1 | exact absurd h.symm k2 | exact absurd h.symm k3)
theorem tabD_attrs (x : Rc) (i : Nat) : (tabD x i).attrs.length ≤ 3 := by
  show (nm8.take (x.attrs % 4 % 6).toNat).length ≤ 3
  rw [List.length_take]
  have : (x.attrs % 4 % 6).toNat ≤ 3 := by omega
  omega
theorem tabD_rows (x : Rc) (i : Nat) : (tabD x i).rows.length = x.rows.length := by
  show ((List.range x.rows.length).map _).length = _
  simp
theorem tabD_rlen (x : Rc) (i : Nat) : ∀ r ∈ (tabD x i).rows, r.2.length ≤ 6 := fun r hr => by
  obtain ⟨k, _, rfl⟩ := List.mem_map.1 hr
  show (((List.range (x.attrs % 4 % 6).toNat).map _).length) ≤ 6
  rw [List.length_map, List.length_range]
  omega
theorem tabD_valid (x : Rc) (i : Nat) (h : x.rows.length ≤ 1000) : validS (tabD x i) = 0 := by
  obtain ⟨n, hn0⟩ : ∃ n, n = (x.attrs % 4 % 6).toNat := ⟨_, rfl⟩
  have hn : n < 6 := by omega
  have hal : (nm8.take n).length = n := by
    rw [List.length_take]
    have : nm8.length = 8 := rfl
    omega
  obtain ⟨g, hg⟩ : ∃ g, g = 1 + x.gap % 3 := ⟨_, rfl⟩
  have hg1 : 1 ≤ g := by omega
  have hr : ∀ (k j : Nat) (p : Int), p < 1 + (j : Int) * g → rowsV n p ((List.range' j k).map fun i => rowS x.gap n i (x.rows.getD i [])) = 0 := fun k => by
    induction k with
    | zero => intro j p _; rfl
    | succ k ih =>
      intro j p hp
      have e1 : (rowS x.gap n j (x.rows.getD j [])).1 = 1 + (j : Int) * g := by rw [hg]; rfl
      rw [List.range'_succ, List.map_cons, rowsV, e1, if_neg (by omega), if_neg (by simp [rowS]), if_pos (by
        rw [List.all_eq_true]
        intro v hv
        unfold rowS at hv
        obtain ⟨c, _, rfl⟩ := List.mem_map.1 hv
        exact code_okV9 _)]
      refine ih (j + 1) _ ?_
      have : ((j + 1 : Nat) : Int) * g = (j : Int) * g + g := by rw [Int.natCast_add, Int.add_mul]; simp
      rw [this]
      omega
  have hlen := tabD_rows x i
  have hat : (tabD x i).attrs = nm8.take n := by rw [hn0]; rfl
  have hro : (tabD x i).rows = (List.range x.rows.length).map fun i => rowS x.gap n i (x.rows.getD i []) := by rw [hn0]; rfl
  unfold validS
  rw [if_pos (show nameB (tabD x i).name.data.toList = true from nmT_ok i), if_neg (show ¬ (16 < (tabD x i).attrs.length ∨ 1000 < (tabD x i).rows.length) by rw [hlen, hat, hal]; omega), hat, if_pos (nm_ok9 n hn), hro, List.range_eq_range', hal]
  exact hr _ 0 0 (by omega)
theorem chkF_zero {db : List Tb} (hv : ∀ j, j < db.length → validS (db.getD j t0) = 0) (hn : ∀ j, j < db.length → tabI (db.getD j t0).name 0 (db.take j) < 0) : ∀ (g i : Nat), i + g = db.length → chkF db g i = 0
  | 0, i, _ => rfl
  | g + 1, i, h => by
    have h1 := hn i (by omega)
    unfold chkF
    rw [if_neg (fun x => x (hv i (by omega))), if_neg (by omega)]
    exact chkF_zero hv hn g (i + 1) (by omega)
theorem chkS_of {db : List Tb} (h : Vdb db) (hl : db.length ≤ 50) : chkS db = 0 := by
  unfold chkS
  rw [if_neg (by omega)]
  refine chkF_zero (fun j hj => h.v _ (getD_mem' t0 hj)) (fun j hj => ?_) _ 0 (by omega)
  rcases tabI_is (x := (db.getD j t0).name) (l := db.take j) (i := 0) with ⟨h1, _⟩ | ⟨k, _, h2, h3, _⟩
  · omega
  · exfalso
    rw [List.length_take] at h2
    have e : (db.take j).getD k t0 = db.getD k t0 := by simp [List.getD_eq_getElem?_getD, List.getElem?_take, show k < j by omega]
    rw [e] at h3
    have hp := List.pairwise_iff_getElem.1 h.n k j (by unfold nmsOf; rw [List.length_map]; omega) (by unfold nmsOf; rw [List.length_map]; omega) (by omega)
    unfold nmsOf at hp
    rw [List.getElem_map, List.getElem_map] at hp
    refine hp ?_
    rw [show db.getD k t0 = db[k] by simp [List.getD_eq_getElem?_getD, show k < db.length by omega], show db.getD j t0 = db[j] by simp [List.getD_eq_getElem?_getD, hj]] at h3
    exact h3
theorem fitsS_of {db : List Tb} {d : Dp} (h : Fit (nmsOf db) (nsOf db) d) : fitsS db d = 0 := by
  have ef := tabI_idx (i := 0) h.f
  have et := tabI_idx (i := 0) h.t
  have gn : ∀ i, (nsOf db).getD i 0 = (db.getD i t0).attrs.length := fun i => by
    unfold nsOf
    simp only [List.getD_eq_getElem?_getD, List.getElem?_map]
    cases db[i]? <;> rfl
  unfold fitsS
  rw [ef, et]
  simp only [Nat.zero_add, Int.toNat_natCast]
  rw [if_neg (by omega), if_neg, if_pos ⟨h.nl, h.nr⟩]
  rintro (h1 | h1 | h1)
  · exact h1 h.lr
  · have := winB_iff.2 (fun a ha => by have := h.l a ha; rw [gn] at this; exact this : ∀ a ∈ d.l, 0 ≤ a ∧ a < ((db.getD (idxN d.f (nmsOf db)) t0).attrs.length : Int))
    rw [this] at h1
    cases h1
  · have := winB_iff.2 (fun a ha => by have := h.r a ha; rw [gn] at this; exact this : ∀ a ∈ d.r, 0 ≤ a ∧ a < ((db.getD (idxN d.t (nmsOf db)) t0).attrs.length : Int))
    rw [this] at h1
    cases h1
theorem firstE_of {db : List Tb} {g : Dp} (hg : fitsS db g = 0) : ∀ {l : List Dp}, (∀ d ∈ l, fitsS db d = 0) → firstE db g l = 0
  | [], _ => hg
  | d :: l, h => by
    unfold firstE
    rw [if_neg (fun x => x (h d List.mem_cons_self))]
    exact firstE_of hg fun x hx => h x (List.mem_cons_of_mem _ hx)
theorem allS_of {db : List Tb} {l : List Dp} {g : Dp} (h : Vall db l g) (hl : db.length ≤ 50) : allS db l g = 0 := by
  unfold allS
  rw [if_neg (fun x => x (chkS_of h.vd hl))]
  exact firstE_of (fitsS_of h.g) fun d hd => fitsS_of (h.l d hd)
theorem pickF_ok {n : Int} (hn : 0 < n) : ∀ {l pre : List Int}, (pre.Nodup ∧ ∀ x ∈ pre, 0 ≤ x ∧ x < n) → ((pickF n pre l).Nodup ∧ ∀ x ∈ pickF n pre l, 0 ≤ x ∧ x < n)
  | [], pre, h => h
  | x :: l, pre, h => by
    unfold pickF
    split
    · rename_i hx
      have h1 : x % n ∉ pre := atI_none.1 hx
      refine pickF_ok hn ⟨?_, fun y hy => ?_⟩
      · rw [List.nodup_append]
        exact ⟨h.1, by simp, fun a ha b hb e => h1 (by rw [List.mem_singleton] at hb; rw [← hb, ← e]; exact ha)⟩
      · rcases List.mem_append.1 hy with h2 | h2
        · exact h.2 y h2
        · rw [List.mem_singleton] at h2
          rw [h2]
          exact ⟨Int.emod_nonneg _ (by omega), Int.emod_lt_of_pos _ hn⟩
    · exact pickF_ok hn h
theorem pickS_ok (l : List Int) (n : Nat) : (pickS l n).Nodup ∧ ∀ x ∈ pickS l n, 0 ≤ x ∧ x < (n : Int) := by
  unfold pickS
  split
  · exact ⟨List.nodup_nil, fun x hx => by cases hx⟩
  · exact pickF_ok (by omega) ⟨List.nodup_nil, fun x hx => by cases hx⟩
structure Dra (db : List Tb) : Prop where
  vd : Vdb db
  n3 : db.length ≤ 3
  a3 : ∀ t ∈ db, t.attrs.length ≤ 3
  rl : ∀ t ∈ db, ∀ r ∈ t.rows, r.2.length ≤ 6
  r6 : ∀ t ∈ db, t.rows.length ≤ 6
  nm : ∀ j, j < db.length → (db.getD j t0).name = nmT j
theorem ofT_dra {d : List Rc} (h : goodD d) : Dra (ofT d) := by
  have hl : (ofT d).length = min d.length 3 := by simp [ofT]
  have hm : ∀ t ∈ ofT d, ∃ i, i < min d.length 3 ∧ t = tabD (d.getD i rc0) i := fun t ht => by
    obtain ⟨i, hi, rfl⟩ := List.mem_map.1 ht
    exact ⟨i, List.mem_range.1 hi, rfl⟩
  have hg : ∀ j, j < (ofT d).length → ((ofT d).getD j t0).name = nmT j := fun j hj => by
    rw [hl] at hj
    unfold ofT
    rw [getD_range _ _ hj]
    rfl
  refine ⟨⟨fun t ht => ?_, ?_⟩, by omega, fun t ht => ?_, fun t ht => ?_, fun t ht => ?_, hg⟩
  · obtain ⟨i, hi, rfl⟩ := hm t ht
    exact tabD_valid _ _ (by have := h i hi; omega)
  · refine List.pairwise_iff_getElem.2 fun i j hi hj hij e => ?_
    unfold nmsOf at hi hj e
    rw [List.length_map] at hi hj
    rw [List.getElem_map, List.getElem_map] at e
    have g1 := hg i hi
    have g2 := hg j hj
    rw [show (ofT d).getD i t0 = (ofT d)[i] by simp [List.getD_eq_getElem?_getD, hi]] at g1
    rw [show (ofT d).getD j t0 = (ofT d)[j] by simp [List.getD_eq_getElem?_getD, hj]] at g2
    rw [g1, g2] at e
    have := nmT_inj (by omega) (by omega) e
    omega
  · obtain ⟨i, hi, rfl⟩ := hm t ht
    exact tabD_attrs _ _
  · obtain ⟨i, hi, rfl⟩ := hm t ht
    exact tabD_rlen _ _
  · obtain ⟨i, hi, rfl⟩ := hm t ht
    rw [tabD_rows]
    exact h i hi
theorem idx_at {db : List Tb} (h : (nmsOf db).Nodup) {j : Nat} (hj : j < db.length) : (db.getD j t0).name ∈ nmsOf db ∧ idxN (db.getD j t0).name (nmsOf db) = j := by
  have hm : (db.getD j t0).name ∈ nmsOf db := List.mem_map.2 ⟨_, getD_mem' t0 hj, rfl⟩
  refine ⟨hm, ?_⟩
  have h2 := idxN_lt hm
  have h2' : idxN (db.getD j t0).name (nmsOf db) < db.length := by unfold nmsOf at h2; rwa [List.length_map] at h2
  rcases tabI_is (x := (db.getD j t0).name) (l := db) (i := 0) with ⟨_, h3⟩ | ⟨k, e1, h4, h5, _⟩
  · exact absurd rfl (h3 _ (getD_mem' t0 hj))
  · have e2 := tabI_idx (i := 0) hm
    have ek : idxN (db.getD j t0).name (nmsOf db) = k := by omega
    rw [ek]
    refine Classical.byContradiction fun hne => ?_
    have hp := List.pairwise_iff_getElem.1 h
    have g1 : db.getD j t0 = db[j] := by simp [List.getD_eq_getElem?_getD, hj]
    have g2 : db.getD k t0 = db[k] := by simp [List.getD_eq_getElem?_getD, h4]
    rcases Nat.lt_or_gt_of_ne hne with hlt | hgt
    · have := hp k j (by unfold nmsOf; rw [List.length_map]; exact h4) (by unfold nmsOf; rw [List.length_map]; exact hj) hlt
      unfold nmsOf at this
      rw [List.getElem_map, List.getElem_map, ← g1, ← g2] at this
      exact this h5
    · have := hp j k (by unfold nmsOf; rw [List.length_map]; exact hj) (by unfold nmsOf; rw [List.length_map]; exact h4) hgt
      unfold nmsOf at this
      rw [List.getElem_map, List.getElem_map, ← g1, ← g2] at this
      exact this h5.symm
theorem ind_fit {db : List Tb} (h : Dra db) (h0 : 0 < db.length) (x : Lk) : Fit (nmsOf db) (nsOf db) (indS db x) := by
  have p0 : (0 : Int) < (db.length : Int) := by omega
  have f1 := Int.emod_nonneg x.f (show (db.length : Int) ≠ 0 by omega)
  have f2 := Int.emod_lt_of_pos x.f p0
  have t1 := Int.emod_nonneg x.t (show (db.length : Int) ≠ 0 by omega)
  have t2 := Int.emod_lt_of_pos x.t p0
  obtain ⟨mf, ef⟩ := idx_at h.vd.n (j := (x.f % db.length).toNat) (by omega)
  obtain ⟨mt, et⟩ := idx_at h.vd.n (j := (x.t % db.length).toNat) (by omega)
  have gn : ∀ i, (nsOf db).getD i 0 = (db.getD i t0).attrs.length := fun i => by
    unfold nsOf
    simp only [List.getD_eq_getElem?_getD, List.getElem?_map]
    cases db[i]? <;> rfl
  obtain ⟨p1, p2⟩ := pickS_ok x.l (db.getD (x.f % db.length).toNat t0).attrs.length
  obtain ⟨q1, q2⟩ := pickS_ok x.r (db.getD (x.t % db.length).toNat t0).attrs.length
  unfold indS
  refine ⟨mf, mt, ?_, ?_, ?_, ?_, ?_⟩
  · show (List.take _ _).length = (List.take _ _).length
    rw [List.length_take, List.length_take]
    omega
  · intro y hy
    have := p2 y (List.mem_of_mem_take hy)
    show 0 ≤ y ∧ y < (((nsOf db).getD (idxN (db.getD (x.f % db.length).toNat t0).name (nmsOf db)) 0 : Nat) : Int)
    rw [ef, gn]
    exact this
  · intro y hy
    have := q2 y (List.mem_of_mem_take hy)
    show 0 ≤ y ∧ y < (((nsOf db).getD (idxN (db.getD (x.t % db.length).toNat t0).name (nmsOf db)) 0 : Nat) : Int)
    rw [et, gn]
    exact this
  · exact p1.sublist (List.take_sublist _ _)
  · exact q1.sublist (List.take_sublist _ _)
theorem dra_vall {db : List Tb} (h : Dra db) (h0 : 0 < db.length) (l : List Lk) (g : Lk) : Vall db (l.map (indS db)) (indS db g) :=
  ⟨h.vd, fun d hd => by obtain ⟨x, _, rfl⟩ := List.mem_map.1 hd; exact ind_fit h h0 x, ind_fit h h0 g⟩
theorem dra_ns {db : List Tb} (h : Dra db) (i : Nat) : (nsOf db).getD i 0 ≤ 3 := by
  unfold nsOf
  simp only [List.getD_eq_getElem?_getD, List.getElem?_map]
  cases hi : db[i]? with
  | none => exact Nat.zero_le _
  | some t => exact h.a3 t (List.mem_of_getElem? hi)
theorem fit_len3 {db : List Tb} (h : Dra db) {d : Dp} (hf : Fit (nmsOf db) (nsOf db) d) : d.l.length ≤ 3 ∧ d.r.length ≤ 3 := by
  have h1 := few_nums hf.nl hf.l
  have h2 := few_nums hf.nr hf.r
  have h3 := dra_ns h (idxN d.f (nmsOf db))
  have h4 := dra_ns h (idxN d.t (nmsOf db))
  omega
end Go.Ab.A15
namespace Go.Ab.A15
open Go Go.Ab Go.Ab.A34
theorem dra_few {db : List Tb} (h : Dra db) (h0 : 0 < db.length) (l : List Lk) (g : Lk) (hl : l.length ≤ 5) : Few db (l.map (indS db)) (indS db g) where
  d4 := by have := h.n3; omega
  ll := by rw [List.length_map]; omega
  okl := fun d hd => by
    have := (dra_vall h h0 l g).l d hd
    exact this.okD h.vd
  okg := (ind_fit h h0 g).okD h.vd
  g3 := (fit_len3 h (ind_fit h h0 g)).1
  r3 := (fit_len3 h (ind_fit h h0 g)).2
theorem dra_at {db : List Tb} (h : Dra db) : ∀ t ∈ db, t.attrs.length ≤ 1000 := fun t ht => by have := h.a3 t ht; omega
theorem dra_okdb {db : List Tb} (h : Dra db) : OkDb db := fun t ht r hr => by have := h.rl t ht r hr; omega
theorem stpC_len {d : Dp} : ∀ {ps a r : List Int}, stpC d ps a = some r → r.length = a.length
  | [], [], r, h => by simp only [stpC, Option.some.injEq] at h; rw [← h]
  | [], _ :: _, r, h => by simp [stpC] at h
  | _ :: _, [], r, h => by simp [stpC] at h
  | p :: ps, a :: xs, r, h => by
    unfold stpC at h
    split at h
    · split at h
      · cases h
      · rename_i r2 h2
        simp only [Option.some.injEq] at h
        rw [← h, List.length_cons, List.length_cons, stpC_len h2]
    · cases h
theorem chkP_len {l : List Dp} {T : ByteArray} {B : List Int} : ∀ {pr : List (Int × List Int)} {t : ByteArray} {a : List Int}, chkP l T B pr t a = true → ∀ p ∈ pr, p.2.length = a.length
  | [], _, _, _, p, hp => by cases hp
  | q :: r, t, a, h, p, hp => by
    rw [chkP_cons] at h
    split at h
    · rename_i h1
      split at h
      · cases h
      · rename_i a' h2
        rcases List.mem_cons.1 hp with rfl | hp
        · exact h1.2.2.1
        · rw [chkP_len h p hp, stpC_len h2]
    · cases h
theorem proof_okp {l : List Dp} {g : Dp} {nm : List ByteArray} (hs : Small l g nm) (h : ¬ findS g.t g.r 0 (states l g) < 0) : OkP (proofS l g) := by
  have hB := hs.bds
  have h2 := hB _ (states_ok hB).1
  obtain ⟨k1, _⟩ := proof_ok hB (by omega : 0 ≤ findS g.t g.r 0 (states l g))
  have h3 := hs.g3
  refine ⟨?_, fun p hp => by have := chkP_len k1 p hp; omega⟩
  obtain ⟨j, e1, e2, _⟩ := findS_is (by omega : 0 ≤ findS g.t g.r 0 (states l g))
  unfold proofS pathS
  rw [List.length_reverse]
  refine Nat.le_trans (back_len _ _ _) ?_
  omega
theorem draft_cases (d : List Rc) (l : List Lk) : (¬ goodD d) ∨ (goodD d ∧ (5 < l.length ∨ ofT d = [])) ∨ (goodD d ∧ l.length ≤ 5 ∧ 0 < (ofT d).length ∧ ¬ d.length ≤ 3) ∨ (goodD d ∧ l.length ≤ 5 ∧ 0 < (ofT d).length ∧ d.length ≤ 3) := by
  by_cases h1 : goodD d
  · by_cases h2 : 5 < l.length ∨ ofT d = []
    · exact .inr (.inl ⟨h1, h2⟩)
    · have h5 : l.length ≤ 5 := Nat.le_of_not_lt fun h => h2 (.inl h)
      have h0 : 0 < (ofT d).length := List.length_pos_iff.2 fun h => h2 (.inr h)
      by_cases h3 : d.length ≤ 3
      · exact .inr (.inr (.inr ⟨h1, h5, h0, h3⟩))
      · exact .inr (.inr (.inl ⟨h1, h5, h0, h3⟩))
  · exact .inl h1
end Go.Ab.A15
namespace Go.Proofs.YtblfodnajpamfaaGreatDoor
open Go Go.Ab Go.Ab.A34 Go.Ab.A15
theorem ofV_bad {d : List Rc} (h : ¬ goodD d) : ofV d = .tup [.agg [SN], SB false] := if_neg h
theorem ofV_good {d : List Rc} (h : goodD d) : ofV d = .tup [DB (ofT d), SB (decide (d.length ≤ 3))] := if_pos h
end Go.Proofs.YtblfodnajpamfaaGreatDoor
namespace Go.Ab
open Go.RowKit
theorem St.le_take [Gl] {t : List (Nat × SV)} {h : Heap} {b m : Nat} {cs : List SV} (hk : h.find b = some (.svs cs)) : (St.mk t h).le ⟨t, h.upd b (.svs (cs.take m))⟩ := fun M w0 D N a w r => by
  have hmc := Heap.find_mem hk
  obtain ⟨c0, e, hbk, hl, hrep⟩ := r.own.ok b _ hmc rfl
  refine ⟨r.defers, r.n, fun i => ?_, r.own.recell hmc rfl hbk (by rw [Blk.len_svs] at *; rw [List.length_take]; omega) (fun i hi => ?_), r.frm, fun x hx => r.new x (has_upd.1 hx)⟩
  · show Rep (envOf (hid M (h.upd b _)) w) _ _
    rw [hid_upd]
    exact r.t i
  · rw [Blk.len_svs, List.length_take] at hi
    have := hrep i (by rw [Blk.len_svs]; omega)
    have e : (Blk.svs (cs.take m)).get i = (Blk.svs cs).get i := by
      show (cs.take m).getD i .any = cs.getD i .any
      rw [List.getD_eq_getElem?_getD, List.getElem?_take_of_lt (by omega), ← List.getD_eq_getElem?_getD]
    rw [e]
    exact this
section
variable {P : Program} {h : Heap}
theorem Call.permO2 [Gl] {f : FuncId} {args : List SV} {Q Q' : SV → Heap → Prop} (hc : Call P f args h Q) (hq : ∀ r h', Q r h' → ∃ h2, h2.Perm h' ∧ ((h2.map (·.1)).Nodup → Q' r h2)) : Call P f args h Q' :=
  ⟨fun M w vs own hr => (hc.out M w vs own hr).mono fun _ w' ⟨v, r, h', h1, h2, h3, o1, frm, hh⟩ => by
    obtain ⟨h4, hp, hq'⟩ := hq _ _ h2
    have hhas : h4.has = h'.has := by funext b; unfold Heap.has; exact propext ⟨fun ⟨k, hk⟩ => ⟨k, hp.mem_iff.1 hk⟩, fun ⟨k, hk⟩ => ⟨k, hp.mem_iff.2 hk⟩⟩
    have hhid : hid M h4 = hid M h' := by funext b; simp only [hid, hhas]
    have hn := (hp.map (·.1)).nodup_iff.2 o1.nodup
    exact ⟨v, r, h4, h1, hq' hn, by rw [hhid]; exact h3, ⟨hn, fun b hb => o1.notM b (hhas ▸ hb), o1.lt, fun b k hk hM => by rw [hhid]; exact o1.ok b k (hp.mem_iff.1 hk) hM, fun b l hk => o1.mp b l (hp.mem_iff.1 hk), by rw [hhid]; exact o1.gl⟩, frm, fun b hb => hh b (hhas ▸ hb)⟩⟩
theorem Call.frameP [Gl] {f : FuncId} {args : List SV} {p : Heap} {Q : SV → Heap → Prop} (hc : Call P f args h Q) :
    Call P f args (p ++ h) (fun r h' => ∃ h2, h' = p ++ h2 ∧ Q r h2) := by
  refine Call.permN ?_ (List.perm_append_comm (l₁ := h) (l₂ := p))
  refine Call.permO2 (Call.frameN (h2 := p) hc) fun r h' ⟨h1, e, q, _⟩ => ?_
  subst e
  exact ⟨p ++ h1, List.perm_append_comm, fun hn => ⟨h1, rfl, q⟩⟩
end
theorem SW.regionM [Gl] {P : Program} {N : Nat} {id b : Nat} {ops : List Oper} {Q : Exit → St → Prop} {t : List (Nat × SV)} {h : Heap} {cs : List SV} (m : Nat) (hm : P.follows .mixedOrders = true) (T : OZ) (hB : (T.root ops (Array.replicate ops.length false) && T.chk ops ops.length (Array.replicate ops.length false)) = true)
    (hv : vcA P N ops (Q .normal) T ⟨t, (b, .svs (cs.take m)) :: h⟩) : SW P N (.region id ops.toArray true) Q ⟨t, (b, .svs cs) :: h⟩ := by
  have e := St.le_take (t := t) (h := (b, .svs cs) :: h) (b := b) (m := m) (cs := cs) (by rw [find_cons, if_pos rfl])
  rw [upd_cons, if_pos rfl] at e
  exact SW.le e (SW.regionL hm T hB hv)
end Go.Ab
namespace Go.Ab.A15
open Go Go.Ab Go.Ab.A34
def spC (P : List P2) (k : Nat) (X : SV) : List SV := (fC pC P).set (k * 2 + 1) X
theorem pC_len : ∀ p : P2, (pC p).length = 2 := fun _ => rfl
theorem spC_len (P : List P2) (k : Nat) (X : SV) : (spC P k X).length = P.length * 2 := by
  unfold spC
  rw [List.length_set, ← fC_len (enc := pC) (k := 2) pC_len]
theorem spC_small {P : List P2} {k : Nat} {X : SV} (h : P.length ≤ k) : spC P k X = fC pC P := by
  unfold spC
  exact List.set_eq_of_length_le (by rw [← fC_len (enc := pC) (k := 2) pC_len]; omega)
theorem take_snoc {P : List P2} {i : Nat} (h : i < P.length) : P.take (i + 1) = P.take i ++ [P.getD i p0] := by
  rw [List.take_add_one, List.getElem?_eq_getElem h, List.getD_eq_getElem?_getD, List.getElem?_eq_getElem h]
  rfl
theorem take_len {P : List P2} {i : Nat} (h : i ≤ P.length) : (P.take i).length = i := by rw [List.length_take]; omega
theorem spC_other {P : List P2} {k i : Nat} {X : SV} (h : i < P.length) (hk : ¬ i = k) : spC (P.take (i + 1)) k X = spC (P.take i) k X ++ [I64 (P.getD i p0).1, IL (P.getD i p0).2] := by
  have e : fC pC (P.take (i + 1)) = fC pC (P.take i) ++ [I64 (P.getD i p0).1, IL (P.getD i p0).2] := by rw [take_snoc h, ← fC_snoc]
  have l : (fC pC (P.take i)).length = i * 2 := by rw [← fC_len (enc := pC) (k := 2) pC_len, take_len (by omega)]
  by_cases hl : i < k
  · rw [spC_small (by rw [take_len (by omega)]; omega), spC_small (by rw [take_len (by omega)]; omega), e]
  · unfold spC
    rw [e, List.set_append, if_pos (by omega)]
theorem spC_this {P : List P2} {k : Nat} {X : SV} (h : k < P.length) : spC (P.take (k + 1)) k X = fC pC (P.take k) ++ [I64 (P.getD k p0).1, X] := by
  have e : fC pC (P.take (k + 1)) = fC pC (P.take k) ++ [I64 (P.getD k p0).1, IL (P.getD k p0).2] := by rw [take_snoc h, ← fC_snoc]
  have l : (fC pC (P.take k)).length = k * 2 := by rw [← fC_len (enc := pC) (k := 2) pC_len, take_len (by omega)]
  unfold spC
  rw [e, List.set_append, if_neg (by omega), l, show k * 2 + 1 - k * 2 = 1 by omega]
  rfl
theorem spC_x {P : List P2} {k : Nat} {X : SV} (h : k < P.length) : (spC P k X).getD (k * 2 + 1) .any = X := by
  have l : (fC pC P).length = P.length * 2 := by rw [← fC_len (enc := pC) (k := 2) pC_len]
  unfold spC
  simp [List.getD_eq_getElem?_getD, show k * 2 + 1 < (fC pC P).length by omega]
theorem spC_q {P : List P2} {k : Nat} {X : SV} (h : k < P.length) : (spC P k X).getD (k * 2) .any = I64 (P.getD k p0).1 := by
  have := (pC_get P k h).1
  unfold spC
  rw [List.getD_eq_getElem?_getD, List.getElem?_set_ne (by omega), ← List.getD_eq_getElem?_getD]
  exact this
theorem spC_set (P : List P2) (k : Nat) (X Y : SV) : (spC P k X).set (k * 2 + 1) Y = spC P k Y := by
  unfold spC
  rw [List.set_set]
theorem spC_fin {P : List P2} {k : Nat} (l : List Int) (h : k < P.length) : spC P k (IL l) = fC pC (P.set k ((P.getD k p0).1, l)) := by
  have e := (pC_set P k ((P.getD k p0).1, l) h)
  have e1 : (fC pC P).set (k * 2) (I64 (P.getD k p0).1) = fC pC P := by
    have l : (fC pC P).length = P.length * 2 := by rw [← fC_len (enc := pC) (k := 2) pC_len]
    have hk : k * 2 < (fC pC P).length := by omega
    have g := (pC_get P k h).1
    rw [List.getD_eq_getElem?_getD, List.getElem?_eq_getElem hk] at g
    simp only [Option.getD_some] at g
    rw [← g, List.set_getElem_self]
  rw [← e]
  show _ = ((fC pC P).set (k * 2) (I64 (P.getD k p0).1)).set (k * 2 + 1) (IL l)
  rw [e1]
  rfl
theorem spC_finq {P : List P2} {k : Nat} (q : Int) (l : List Int) (h : k < P.length) : (spC P k (IL l)).set (k * 2) (I64 q) = fC pC (P.set k (q, l)) := by
  rw [← pC_set P k (q, l) h]
  unfold spC
  exact List.set_comm _ _ (by omega)
theorem i64s_at {l : List Int} {j : Nat} (hj : j < l.length) : iF l j = ((l.map fun x => I64 x).drop j).take 1 := by
  rw [List.drop_eq_getElem_cons (by simpa using hj), List.take_succ_cons, List.take_zero, List.getElem_map]
  simp [iF, List.getD_eq_getElem?_getD, hj]
theorem i64s_get {l : List Int} {j : Nat} (hj : j < l.length) : (l.map fun x => I64 x).getD j .any = I64 (l.getD j 0) := by simp [List.getD_eq_getElem?_getD, hj]
theorem i64s_set (l : List Int) (j : Nat) (x : Int) : (l.map fun x => I64 x).set j (I64 x) = (l.set j x).map fun x => I64 x := by rw [List.map_set]
theorem spC_xq {P : List P2} {k : Nat} {X : SV} (v : SV) (h : k < P.length) : ((spC P k X).set (k * 2) v).getD (k * 2 + 1) .any = X := by
  rw [List.getD_eq_getElem?_getD, List.getElem?_set_ne (by omega), ← List.getD_eq_getElem?_getD]
  exact spC_x h
theorem spC_finq2 {P : List P2} {k : Nat} {X : SV} (q : Int) (l : List Int) (h : k < P.length) : ((spC P k X).set (k * 2) (I64 q)).set (k * 2 + 1) (IL l) = fC pC (P.set k (q, l)) := by
  rw [List.set_comm _ _ (by omega), spC_set]
  exact spC_finq q l h
theorem spC_fin2 {P : List P2} {k : Nat} {X : SV} (l : List Int) (h : k < P.length) : (spC P k X).set (k * 2 + 1) (IL l) = fC pC (P.set k ((P.getD k p0).1, l)) := by
  rw [spC_set]
  exact spC_fin l h
theorem spC_take {P : List P2} {k : Nat} {X : SV} (h : k < P.length) : (spC P k X).take (k * 2) = fC pC (P.take k) := by
  unfold spC
  have l : (fC pC (P.take k)).length = k * 2 := by rw [← fC_len (enc := pC) (k := 2) pC_len, take_len (by omega)]
  have e : fC pC P = fC pC (P.take k) ++ fC pC (P.drop k) := by unfold fC; rw [← List.flatMap_append, List.take_append_drop]
  rw [e, List.set_append, if_neg (by omega), List.take_left' l]
theorem spC_drop {P : List P2} {k : Nat} {X : SV} (h : k < P.length) : (spC P k X).drop ((k + 1) * 2) = fC pC (P.drop (k + 1)) := by
  unfold spC
  have l : (fC pC (P.take (k + 1))).length = (k + 1) * 2 := by rw [← fC_len (enc := pC) (k := 2) pC_len, take_len (by omega)]
  have e : fC pC P = fC pC (P.take (k + 1)) ++ fC pC (P.drop (k + 1)) := by unfold fC; rw [← List.flatMap_append, List.take_append_drop]
  rw [e, List.set_append, if_pos (by omega), List.drop_left' (by rw [List.length_set]; exact l)]
theorem spC_all {P : List P2} {k : Nat} {X : SV} (hX : single X = true) : (spC P k X).all single = true := by
  rw [List.all_eq_true]
  intro y hy
  unfold spC at hy
  rcases List.mem_or_eq_of_mem_set hy with h | rfl
  · obtain ⟨p, _, hp⟩ := List.mem_flatMap.1 h
    simp only [List.mem_cons, List.not_mem_nil, or_false] at hp
    rcases hp with rfl | rfl <;> rfl
  · exact hX
theorem okp_take {P : List P2} {k : Nat} (h : OkP P) : OkP (P.take k) := ⟨by rw [List.length_take]; have := h.1; omega, fun p hp => h.2 p (List.mem_of_mem_take hp)⟩
theorem okp_set {P : List P2} {k : Nat} {q : Int} {l : List Int} (h : OkP P) (hl : l.length ≤ 1000000) : OkP (P.set k (q, l)) := by
  refine ⟨by rw [List.length_set]; exact h.1, fun p hp => ?_⟩
  rcases List.mem_or_eq_of_mem_set hp with h1 | rfl
  · exact h.2 p h1
  · exact hl
theorem okp_cut {P : List P2} {k : Nat} (h : OkP P) : OkP (P.take k ++ P.drop (k + 1)) := by
  refine ⟨by rw [List.length_append, List.length_take, List.length_drop]; have := h.1; omega, fun p hp => ?_⟩
  rcases List.mem_append.1 hp with h1 | h1
  · exact h.2 p (List.mem_of_mem_take h1)
  · exact h.2 p (List.mem_of_mem_drop h1)
end Go.Ab.A15
namespace Go.Proofs.YtblfodnajpamfaaGreatDoor
open Go Go.Ab Go.Ab.A34 Go.Ab.A15
variable [Gl] [Tabs]
theorem clone_fz (l : List Int) (hl : l.length ≤ 1000000) : PCall Tryz.prog 44 [IL l] (IL l) := by
  have hfm := fl_map l
  refine Call.enter' (N := 8) (rs := [.tmp 2]) Tryz.func44 rfl rfl rfl (by decide) rfl ?_; simp only [argT]; have hD : (0 : Nat) = 0 := rfl
  refine SW.seq_k fun K0 hK0 => ?_
  refine SW.region ?_
  simp only [go_sem, hD]
  refine hK0 _ ?_
  clear hK0 K0
  refine SW.seq_k fun K hK => ?_
  refine SW.seq_k fun K2 hK2 => ?_
  refine SW.region_nil (i := 0) (j := 3) (k := 4) rfl rfl rfl rfl rfl rfl Tryz.underlying37 rfl (by decide) (by decide) (fun hn => ?_) ?_
  · refine hK2 _ ?_
    clear hK2 K2
    have hl0 : l = [] := List.eq_nil_of_length_eq_zero hn
    subst hl0
    repeat' first | (with_reducible refine And.intro (by omega) ?_) | (refine SW.seq_k fun K hK => ?_) | (refine SW.block ?_) | ((first | refine SW.region ?_ | refine SW.regionD (Checked.mixed Tryz.checked) (by kernel_rfl) ?_ | refine SW.cond ?_ | refine SW.skip ?_ | refine SW.exit ?_ | refine SW.ret ?_ | (refine allF_i fun b hb => ?_; replace hD := And.intro hb hD; clear hb; try simp only [fresh_cons, fresh_nil, and_true, ne_eq, neF] at hD) | simp only [appK, appOsK]); try simp only [go_sem, hD]) | (refine And.intro (by omega) ?_) | (refine ifI (fun hc => ?_) (fun hc => ?_) <;> first | (exfalso; omega) | skip) | (apply hK; clear hK K) | (clear hK K; apply hK; clear hK K) | (clear hK K; clear hK K; apply hK; clear hK K) | (clear hK K; clear hK K; clear hK K; apply hK; clear hK K) | (clear hK K; clear hK K; clear hK K; clear hK K; apply hK; clear hK K) | (clear hK K; clear hK K; clear hK K; clear hK K; clear hK K; apply hK; clear hK K)
    refine retQ_le (St.le_nil_fl (i := 2) (sz := 1) (f := iF []) rfl) ?_
    simp only [resL_tmp, resL_nil, tupOf, go_sem, hD]
    all_goals first | exact ⟨rfl, rfl⟩ | rfl
  · refine hK2 _ ?_
    clear hK2 K2
    repeat' first | (with_reducible refine And.intro (by omega) ?_) | (refine SW.seq_k fun K hK => ?_) | (refine SW.block ?_) | ((first | refine SW.region ?_ | refine SW.regionD (Checked.mixed Tryz.checked) (by kernel_rfl) ?_ | refine SW.cond ?_ | refine SW.skip ?_ | refine SW.exit ?_ | refine SW.ret ?_ | (refine allF_i fun b hb => ?_; replace hD := And.intro hb hD; clear hb; try simp only [fresh_cons, fresh_nil, and_true, ne_eq, neF] at hD) | simp only [appK, appOsK]); try simp only [go_sem, hD]) | (refine And.intro (by omega) ?_) | (refine ifI (fun hc => ?_) (fun hc => ?_) <;> first | (exfalso; omega) | skip) | (apply hK; clear hK K) | (clear hK K; apply hK; clear hK K) | (clear hK K; clear hK K; apply hK; clear hK K) | (clear hK K; clear hK K; clear hK K; apply hK; clear hK K) | (clear hK K; clear hK K; clear hK K; clear hK K; apply hK; clear hK K) | (clear hK K; clear hK K; clear hK K; clear hK K; clear hK K; apply hK; clear hK K)
    rw [hfm]
    refine ⟨?_, by omega, by omega, allF_i fun b' hb' => ?_⟩
    · rw [List.all_eq_true]
      intro x hx
      obtain ⟨r, _, rfl⟩ := List.mem_map.1 hx
      rfl
    · apply hK
      clear hK K
      repeat' first | (with_reducible refine And.intro (by omega) ?_) | (refine SW.seq_k fun K hK => ?_) | (refine SW.block ?_) | ((first | refine SW.region ?_ | refine SW.regionD (Checked.mixed Tryz.checked) (by kernel_rfl) ?_ | refine SW.cond ?_ | refine SW.skip ?_ | refine SW.exit ?_ | refine SW.ret ?_ | (refine allF_i fun b hb => ?_; replace hD := And.intro hb hD; clear hb; try simp only [fresh_cons, fresh_nil, and_true, ne_eq, neF] at hD) | simp only [appK, appOsK]); try simp only [go_sem, hD]) | (refine And.intro (by omega) ?_) | (refine ifI (fun hc => ?_) (fun hc => ?_) <;> first | (exfalso; omega) | skip) | (apply hK; clear hK K) | (clear hK K; apply hK; clear hK K) | (clear hK K; clear hK K; apply hK; clear hK K) | (clear hK K; clear hK K; clear hK K; apply hK; clear hK K) | (clear hK K; clear hK K; clear hK K; clear hK K; apply hK; clear hK K) | (clear hK K; clear hK K; clear hK K; clear hK K; clear hK K; apply hK; clear hK K)
      refine retQ_le (St.le_freeze (i := 2) (b := b') (off := 0) (len := l.length) (sz := 1) (k := .svs (l.map fun x => I64 x)) rfl (by rw [find_cons, if_pos rfl]) (by rw [Blk.len_svs, List.length_map]; omega) (iF l) (fun j hj => by
        rw [getN_take _ _ _ (by rw [Blk.len_svs, List.length_map]; omega), Nat.zero_add, Nat.mul_one]
        exact i64s_at hj)) ?_
      rw [del_head]
      simp only [resL_tmp, resL_nil, tupOf, go_sem, hD]
      all_goals first | exact ⟨rfl, rfl⟩ | rfl
theorem rev_i (g : Nat) (l : List Int) (hl : l.length ≤ 1000000) : Ab.Call Tryz.prog 46 [.os g 0 l.length 1] [(g, .svs (l.map fun x => I64 x))] (fun r h' => r = .tup [] ∧ ∃ l2 : List Int, l2.length = l.length ∧ h' = [(g, .svs (l2.map fun x => I64 x))]) := by
  have w0 : IntKind.i64.wrap (((l.length : Nat) : Int) - 1) = ((l.length : Nat) : Int) - 1 - ((0 : Nat) : Int) := by rw [i64_wrap (by omega) (by omega)]; omega
  refine Call.enter' (N := 28) (rs := []) Tryz.func46 rfl rfl rfl (by decide) rfl ?_; simp only [argT]; have hD : (0 : Nat) = 0 := rfl
  repeat' first | (with_reducible refine And.intro (by omega) ?_) | (refine SW.seq_k fun K hK => ?_) | (refine SW.block ?_) | ((first | refine SW.region ?_ | refine SW.regionD (Checked.mixed Tryz.checked) (by kernel_rfl) ?_ | refine SW.cond ?_ | refine SW.skip ?_ | refine SW.exit ?_ | refine SW.ret ?_ | (refine allF_i fun b hb => ?_; replace hD := And.intro hb hD; clear hb; try simp only [fresh_cons, fresh_nil, and_true, ne_eq, neF] at hD) | simp only [appK, appOsK]); try simp only [go_sem, hD, w0]) | (refine And.intro (by omega) ?_) | (refine ifI (fun hc => ?_) (fun hc => ?_) <;> first | (exfalso; omega) | skip) | (apply hK; clear hK K) | (clear hK K; apply hK; clear hK K) | (clear hK K; clear hK K; apply hK; clear hK K) | (clear hK K; clear hK K; clear hK K; apply hK; clear hK K) | (clear hK K; clear hK K; clear hK K; clear hK K; apply hK; clear hK K) | (clear hK K; clear hK K; clear hK K; clear hK K; clear hK K; apply hK; clear hK K)
  obtain ⟨I, hI⟩ : ∃ I : Nat → St → Prop, ∀ k S, I k S ↔ (∃ (i : Nat) (l2 : List Int), k = l.length / 2 - i ∧ i ≤ l.length / 2 ∧ l2.length = l.length ∧ S = ⟨[(0, .os g 0 l.length 1), (2, I64 i), (3, .sc (.int .i64 (((l.length : Nat) : Int) - 1 - (i : Int))))], [(g, .svs (l2.map fun x => I64 x))]⟩) := ⟨fun k S => _, fun _ _ => Iff.rfl⟩
  refine SW.loop' I (l.length / 2) ((hI _ _).2 ⟨0, l, rfl, Nat.zero_le _, rfl, rfl⟩) (by repeat' (first | exact rfl | exact trivial | exact int_eq (by omega) | exact int_eq (by (rw [i64_wrap] <;> omega)) | constructor)) ?_
  intro k S hIn
  obtain ⟨i, l2, rfl, hi, hl2, rfl⟩ := (hI _ _).1 hIn
  clear hIn
  have ie : ((i : Nat) : Int).toNat = i := Int.toNat_natCast _
  have i0 : (0 : Int) ≤ ((i : Nat) : Int) := by omega
  by_cases hlt : i < l.length / 2
  · have hli : (i : Int) < ((l.length : Nat) : Int) - 1 - (i : Int) := by omega
    have w1 : IntKind.i64.wrap ((i : Int) + 1) = ((i + 1 : Nat) : Int) := by rw [i64_wrap (by omega) (by omega)]; omega
    have w2 : IntKind.i64.wrap (((l.length : Nat) : Int) - 1 - (i : Int) - 1) = ((l.length : Nat) : Int) - 1 - ((i + 1 : Nat) : Int) := by rw [i64_wrap (by omega) (by omega)]; omega
    have jn : (((l.length : Nat) : Int) - 1 - (i : Int)).toNat = l.length - 1 - i := by omega
    have j0 : (0 : Int) ≤ ((l.length : Nat) : Int) - 1 - (i : Int) := by omega
    have jl : ((l.length : Nat) : Int) - 1 - (i : Int) < ((l.length : Nat) : Int) := by omega
    have il : (i : Int) < ((l.length : Nat) : Int) := by omega
    have kl : (l2.map fun x => I64 x).length = l.length := by rw [List.length_map, hl2]
    have g1 := i64s_get (l := l2) (j := i) (by omega)
    have g2 := i64s_get (l := l2) (j := l.length - 1 - i) (by omega)
    have s1 := fun (A : List Int) j x => i64s_set A j x
    have y1 : i < l.length := by omega
    have y2 : l.length - 1 - i < l.length := by omega
    repeat' first | (with_reducible refine And.intro (by omega) ?_) | (refine SW.seq_k fun K hK => ?_) | (refine SW.block ?_) | ((first | refine SW.region ?_ | refine SW.regionZ (id := 3) (Checked.mixed Tryz.checked) ((.one 0 [0, 12, 13, 14, 15] (.one 1 [1, 12, 13, 14, 15] (.one 4 [4, 6, 7, 12, 13, 14, 15] (.one 5 [5, 6, 7, 12, 13, 14, 15] (.one 6 [6, 7, 12, 13, 14, 15] (.one 7 [7, 12, 13, 14, 15] (.one 8 [8, 10, 11, 12, 13, 14, 15] (.one 9 [9, 10, 11, 12, 13, 14, 15] (.one 10 [10, 11, 12, 13, 14, 15] (.one 11 [11, 12, 13, 14, 15] (.one 12 [12, 13, 14, 15] (.alt 2 (.alt 3 (.alt 13 (.one 14 [14, 15] (.alt 15 .done .nil)) .nil) (.alt 13 (.one 3 [3, 14, 15] (.one 14 [14, 15] (.alt 15 .done .nil))) .nil)) (.alt 3 (.alt 2 (.alt 13 (.one 14 [14, 15] (.alt 15 .done .nil)) .nil) (.alt 13 (.one 2 [2, 14, 15] (.one 14 [14, 15] (.alt 15 .done .nil))) .nil)) (.alt 13 (.one 2 [2, 14, 15] (.one 3 [3, 14, 15] (.one 14 [14, 15] (.alt 15 .done .nil)))) .nil)))))))))))))) : OZ) (by kernel_rfl) ?_ | refine SW.regionD (Checked.mixed Tryz.checked) (by kernel_rfl) ?_ | refine SW.cond ?_ | refine SW.skip ?_ | refine SW.exit ?_ | refine SW.ret ?_ | (refine allF_i fun b hb => ?_; replace hD := And.intro hb hD; clear hb; try simp only [fresh_cons, fresh_nil, and_true, ne_eq, neF] at hD) | simp only [appK, appOsK]); try simp only [go_sem, hD, hli, w1, w2, jn, j0, jl, il, ie, i0, kl, g1, g2, y1, y2, getN, true_implies]) | (refine And.intro (by omega) ?_) | (refine ifI (fun hc => ?_) (fun hc => ?_) <;> first | (exfalso; omega) | skip) | (apply hK; clear hK K) | (clear hK K; apply hK; clear hK K) | (clear hK K; clear hK K; apply hK; clear hK K) | (clear hK K; clear hK K; clear hK K; apply hK; clear hK K) | (clear hK K; clear hK K; clear hK K; clear hK K; apply hK; clear hK K) | (clear hK K; clear hK K; clear hK K; clear hK K; clear hK K; apply hK; clear hK K) | (refine And.intro ?_ ?_)
    all_goals
      simp only [s1]
      refine Rnd.sub (l.length / 2 - (i + 1)) (by omega) ((hI _ _).2 ⟨i + 1, _, rfl, by omega, by simp [hl2], rfl⟩) (by repeat' (first | exact rfl | exact trivial | exact int_eq (by omega) | exact int_eq (by (rw [i64_wrap] <;> omega)) | constructor))
  · have hli : ¬ (i : Int) < ((l.length : Nat) : Int) - 1 - (i : Int) := by omega
    obtain rfl : i = l.length / 2 := by omega
    repeat' first | (with_reducible refine And.intro (by omega) ?_) | (refine SW.seq_k fun K hK => ?_) | (refine SW.block ?_) | ((first | refine SW.region ?_ | refine SW.regionD (Checked.mixed Tryz.checked) (by kernel_rfl) ?_ | refine SW.cond ?_ | refine SW.skip ?_ | refine SW.exit ?_ | refine SW.ret ?_ | (refine allF_i fun b hb => ?_; replace hD := And.intro hb hD; clear hb; try simp only [fresh_cons, fresh_nil, and_true, ne_eq, neF] at hD) | simp only [appK, appOsK]); try simp only [go_sem, hD, hli, true_implies]) | (refine And.intro (by omega) ?_) | (refine ifI (fun hc => ?_) (fun hc => ?_) <;> first | (exfalso; omega) | skip) | (apply hK; clear hK K) | (clear hK K; apply hK; clear hK K) | (clear hK K; clear hK K; apply hK; clear hK K) | (clear hK K; clear hK K; clear hK K; apply hK; clear hK K) | (clear hK K; clear hK K; clear hK K; clear hK K; apply hK; clear hK K) | (clear hK K; clear hK K; clear hK K; clear hK K; clear hK K; apply hK; clear hK K)
    refine ⟨_, fun M w0 D N a w r => r, ?_⟩
    simp only [resL_nil, tupOf, go_sem, hD]
    all_goals first | exact ⟨rfl, l2, hl2, rfl⟩ | exact ⟨l2, hl2, rfl⟩
theorem rev_in : PCall Tryz.prog 46 [.sc (.slice none 0 0)] (.tup []) := by
  have w0 : IntKind.i64.wrap ((0 : Int) - 1) = -1 := by decide
  refine Call.enter' (N := 28) (rs := []) Tryz.func46 rfl rfl rfl (by decide) rfl ?_; simp only [argT]; have hD : (0 : Nat) = 0 := rfl
  repeat' first | (with_reducible refine And.intro (by omega) ?_) | (refine SW.seq_k fun K hK => ?_) | (refine SW.block ?_) | ((first | refine SW.region ?_ | refine SW.regionD (Checked.mixed Tryz.checked) (by kernel_rfl) ?_ | refine SW.cond ?_ | refine SW.skip ?_ | refine SW.exit ?_ | refine SW.ret ?_ | (refine allF_i fun b hb => ?_; replace hD := And.intro hb hD; clear hb; try simp only [fresh_cons, fresh_nil, and_true, ne_eq, neF] at hD) | simp only [appK, appOsK]); try simp only [go_sem, hD, w0]) | (refine And.intro (by omega) ?_) | (refine ifI (fun hc => ?_) (fun hc => ?_) <;> first | (exfalso; omega) | skip) | (apply hK; clear hK K) | (clear hK K; apply hK; clear hK K) | (clear hK K; clear hK K; apply hK; clear hK K) | (clear hK K; clear hK K; clear hK K; apply hK; clear hK K) | (clear hK K; clear hK K; clear hK K; clear hK K; apply hK; clear hK K) | (clear hK K; clear hK K; clear hK K; clear hK K; clear hK K; apply hK; clear hK K)
  obtain ⟨I, hI⟩ : ∃ I : Nat → St → Prop, ∀ k S, I k S ↔ (∃ (i : Nat) , k = 0 - i ∧ i ≤ 0 ∧ S = ⟨[(0, .sc (.slice none 0 0)), (2, I64 0), (3, .sc (.int .i64 (-1)))], []⟩) := ⟨fun k S => _, fun _ _ => Iff.rfl⟩
  refine SW.loop' I (0) ((hI _ _).2 ⟨0, rfl, Nat.zero_le _, rfl⟩) (by repeat' (first | exact rfl | exact trivial | exact int_eq (by omega) | exact int_eq (by (rw [i64_wrap] <;> omega)) | constructor)) ?_
  intro k S hIn
  obtain ⟨i, rfl, hi, rfl⟩ := (hI _ _).1 hIn
  clear hIn
  have ie : ((i : Nat) : Int).toNat = i := Int.toNat_natCast _
  have i0 : (0 : Int) ≤ ((i : Nat) : Int) := by omega
  repeat' first | (with_reducible refine And.intro (by omega) ?_) | (refine SW.seq_k fun K hK => ?_) | (refine SW.block ?_) | ((first | refine SW.region ?_ | refine SW.regionD (Checked.mixed Tryz.checked) (by kernel_rfl) ?_ | refine SW.cond ?_ | refine SW.skip ?_ | refine SW.exit ?_ | refine SW.ret ?_ | (refine allF_i fun b hb => ?_; replace hD := And.intro hb hD; clear hb; try simp only [fresh_cons, fresh_nil, and_true, ne_eq, neF] at hD) | simp only [appK, appOsK]); try simp only [go_sem, hD]) | (refine And.intro (by omega) ?_) | (refine ifI (fun hc => ?_) (fun hc => ?_) <;> first | (exfalso; omega) | skip) | (apply hK; clear hK K) | (clear hK K; apply hK; clear hK K) | (clear hK K; clear hK K; apply hK; clear hK K) | (clear hK K; clear hK K; clear hK K; apply hK; clear hK K) | (clear hK K; clear hK K; clear hK K; clear hK K; apply hK; clear hK K) | (clear hK K; clear hK K; clear hK K; clear hK K; clear hK K; apply hK; clear hK K)
  refine ret_pure ?_; simp only [resL_tmp, resL_nil, tupOf, go_sem, hD]
end Go.Proofs.YtblfodnajpamfaaGreatDoor
